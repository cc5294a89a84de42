/- ProgramPlain: the law holds at every input; the arguments read as they did. No condition. -/
import Derived.Test.YtpacnggomjepdaaL
import Derived.Test.YtpacnggomjepdaaPrq
namespace Go.Proofs.Ytpacnggomjepdaa.programPlain
open Go.ChangeShapes Go.WideShapes Go.ChangeAt Go.RowKit
open Go.ChangeMaps (open_string shut_string)

theorem own : ownKnob Try.prog.godebug = none := by kernel_rfl

set_option maxRecDepth 100000 in
theorem lifted (os : Os) (started : os.Started) (H : Type) (enc : TypeId × Value → H) :
    ReturnsInHanded {} Try.checked os 5 .any (Rows.programPlainSpec.pre6 enc Try.prog Try.f5 Rows.programPlainRow.domain false) (Rows.programPlainSpec.post enc Try.prog Try.f5 false true false false) := by
  refine returnsInHanded_of_change (C := Try.checked) own started (by kernel_rfl) Try.func5
    (ChangeSpec.witness6 (enc := enc) (C := Try.checked) false ⟨#[], #[.slice none 0 0], []⟩ 8 (by kernel_rfl) (by kernel_rfl) (by kernel_rfl) (by kernel_rfl)) ?_
  intro W base args ds gs before hval0 hW hcnd _
  have hval : ∀ (j : Nat) t v, Try.f5.params[j]? = some t → args[j]? = some v → Value.okWide Try.prog W .any base t v := hval0
  have hW' := hW
  obtain ⟨p, q, hA0, hV, rfl, hfz, hnd⟩ := hW
  have hA : DataW.TrodAll enc Try.prog W 0 (fun _ => true) true Try.f5.params.toList args.toList ds p := hA0
  rw [Try.params5] at hA hval
  obtain ⟨v0, vs0, d0, ds0, p0, q0, hargs, rfl, rfl, h0, r0⟩ := trodAll_cons hA
  obtain ⟨rfl, rfl, rfl⟩ := trodAll_nil r0
  obtain rfl : args = #[v0] := by cases args; simp_all
  obtain ⟨rfl, rfl⟩ := trodVars_none hV
  obtain ⟨p_l, n_l, c_l, f_l, rfl, m_l, r_l⟩ := rd_slice (α := UInt8) (fun z => Value.int .u8 z.toNat) Try.underlying50 (by kernel_rfl) (fun n cs y hy => let ⟨b, hb, _, hw⟩ := DataW.trod_int Try.underlying5 hy; let ⟨d, hd⟩ := u8_of hw; ⟨d, hb.trans (by rw [hd])⟩) (hval 0 50 v0 rfl rfl) h0
  refine (plain_any p_l n_l c_l (fun k => ((f_l k).toNat : Int)) W (by have : maxLen = 9223372036854775807 := rfl; omega) (fun k _ => by have := (f_l k).toNat_lt; omega) r_l).mono fun e W' ⟨he, hb⟩ => ?_
  subst he
  exact ⟨_, rfl, law_post hW' rfl (by kernel_rfl) (by kernel_rfl) rfl Try.underlying4 rfl hb⟩

theorem over : Rows.programPlainRow.holds Try.pinned (OpenSpec.ofChange Rows.programPlainSpec) :=
  OpenClaim.holds_of_wide 5 Try.f5 rfl rfl rfl rfl rfl rfl rfl ⟨rfl, rfl, rfl, rfl, rfl⟩ rfl rfl rfl rfl rfl (by kernel_rfl) Try.func5 (by kernel_rfl)
    (of_decide_eq_true (by kernel_rfl)) (by unfold Func.isWrapper; first | (rw [if_pos (by decide +kernel)]; kernel_rfl) | (rw [if_neg (by decide +kernel)]; exact ⟨rfl, rfl⟩))
    (fun os started H enc _ => lifted os started H enc)

/-- The statement. -/
theorem proved : Rows.ProgramPlainSaid := over
#print axioms proved
end Go.Proofs.Ytpacnggomjepdaa.programPlain
