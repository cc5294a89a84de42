/- ProgramCompiles: the law holds at every input; the arguments read as they did. No condition. -/
import Derived.Test.YtpacnggomjepdaaL
import Derived.Test.YtpacnggomjepdaaPrz
import Derived.Test.YtpacnggomjepdaaPrw
namespace Go.Proofs.Ytpacnggomjepdaa.programCompiles
open Go.ChangeShapes Go.WideShapes Go.ChangeAt Go.RowKit
open Go.ChangeMaps (open_string shut_string)

theorem own : ownKnob Try.prog.godebug = none := by kernel_rfl

set_option maxRecDepth 100000 in
theorem lifted (os : Os) (started : os.Started) (H : Type) (enc : TypeId × Value → H) :
    ReturnsInHanded {} Try.checked os 6 .any (Rows.programCompilesSpec.pre6 enc Try.prog Try.f6 Rows.programCompilesRow.domain false) (Rows.programCompilesSpec.post enc Try.prog Try.f6 false true false false) := by
  refine returnsInHanded_of_change (C := Try.checked) own started (by kernel_rfl) Try.func6
    (ChangeSpec.witness6 (enc := enc) (C := Try.checked) false ⟨#[], #[.slice none 0 0], []⟩ 8 (by kernel_rfl) (by kernel_rfl) (by kernel_rfl) (by kernel_rfl)) ?_
  intro W base args ds gs before hval0 hW hcnd _
  have hval : ∀ (j : Nat) t v, Try.f6.params[j]? = some t → args[j]? = some v → Value.okWide Try.prog W .any base t v := hval0
  have hW' := hW
  obtain ⟨p, q, hA0, hV, rfl, hfz, hnd⟩ := hW
  have hA : DataW.TrodAll enc Try.prog W 0 (fun _ => true) true Try.f6.params.toList args.toList ds p := hA0
  rw [Try.params6] at hA hval
  obtain ⟨v0, vs0, d0, ds0, p0, q0, hargs, rfl, rfl, h0, r0⟩ := trodAll_cons hA
  obtain ⟨rfl, rfl, rfl⟩ := trodAll_nil r0
  obtain rfl : args = #[v0] := by cases args; simp_all
  obtain ⟨rfl, rfl⟩ := trodVars_none hV
  obtain ⟨p_l, n_l, c_l, f_l, rfl, m_l, r_l⟩ := rd_sliceN 4 (fun x j => brF (fun _ => x) 0 j) (by decide) Try.underlying22 (by kernel_rfl) (fun n cs y hy hl => brief_el hy hl) (hval 0 22 v0 rfl rfl) h0
  refine (compiles_any p_l n_l c_l f_l W (by have : maxLen = 9223372036854775807 := rfl; omega) r_l).mono fun e W' ⟨he, hb⟩ => ?_
  subst he
  exact ⟨_, rfl, law_post hW' rfl (by kernel_rfl) (by kernel_rfl) rfl Try.underlying4 rfl hb⟩

theorem over : Rows.programCompilesRow.holds Try.pinned (OpenSpec.ofChange Rows.programCompilesSpec) :=
  OpenClaim.holds_of_wide 6 Try.f6 rfl rfl rfl rfl rfl rfl rfl ⟨rfl, rfl, rfl, rfl, rfl⟩ rfl rfl rfl rfl rfl (by kernel_rfl) Try.func6 (by kernel_rfl)
    (of_decide_eq_true (by kernel_rfl)) (by unfold Func.isWrapper; first | (rw [if_pos (by decide +kernel)]; kernel_rfl) | (rw [if_neg (by decide +kernel)]; exact ⟨rfl, rfl⟩))
    (fun os started H enc _ => lifted os started H enc)

/-- The statement. -/
theorem proved : Rows.ProgramCompilesSaid := over
#print axioms proved
end Go.Proofs.Ytpacnggomjepdaa.programCompiles
