/- AddressPatterns: the law holds at every input; the arguments read as they did. No condition. -/
import Derived.Test.YtpliolkifnnldaaL
import Derived.Test.YtpliolkifnnldaaAddrLaws
namespace Go.Proofs.Ytpliolkifnnldaa.addressPatterns
open Go.ChangeShapes Go.WideShapes Go.ChangeAt Go.RowKit
open Go.ChangeMaps (open_string shut_string)

theorem own : ownKnob Try.prog.godebug = none := by kernel_rfl

set_option maxRecDepth 100000 in
theorem lifted (os : Os) (started : os.Started) (H : Type) (enc : TypeId × Value → H) :
    ReturnsInHanded {} Try.checked os 5 .any (Rows.addressPatternsSpec.pre6 enc Try.prog Try.f5 Rows.addressPatternsRow.domain false) (Rows.addressPatternsSpec.post enc Try.prog Try.f5 false true false false) := by
  refine returnsInHanded_of_change (C := Try.checked) own started (by kernel_rfl) Try.func5
    (ChangeSpec.witness6 (enc := enc) (C := Try.checked) false ⟨#[], #[.slice none 0 0, .slice none 0 0], []⟩ 8 (by kernel_rfl) (by kernel_rfl) (by kernel_rfl) (by kernel_rfl)) ?_
  intro W base args ds gs before hval0 hW hcnd _
  have hval : ∀ (j : Nat) t v, Try.f5.params[j]? = some t → args[j]? = some v → Value.okWide Try.prog W .any base t v := hval0
  have hW' := hW
  obtain ⟨p, q, hA0, hV, rfl, hfz, hnd⟩ := hW
  have hA : DataW.TrodAll enc Try.prog W 0 (fun _ => true) true Try.f5.params.toList args.toList ds p := hA0
  rw [Try.params5] at hA hval
  obtain ⟨v0, vs0, d0, ds0, p0, q0, hargs, rfl, rfl, h0, r0⟩ := trodAll_cons hA
  obtain ⟨v1, vs1, d1, ds1, p1, q1, rfl, rfl, rfl, h1, r1⟩ := trodAll_cons r0
  obtain ⟨rfl, rfl, rfl⟩ := trodAll_nil r1
  obtain rfl : args = #[v0, v1] := by cases args; simp_all
  obtain ⟨rfl, rfl⟩ := trodVars_none hV
  obtain ⟨p_a, n_a, c_a, f_a, rfl, m_a, r_a⟩ := rd_slice (α := Bool) Value.bool Try.underlying46 (by kernel_rfl) (fun n cs y hy => let ⟨b, hb, _⟩ := DataW.trod_bool Try.underlying4 hy; ⟨b, hb⟩) (hval 0 46 v0 rfl rfl) h0
  obtain ⟨p_b, n_b, c_b, f_b, rfl, m_b, r_b⟩ := rd_slice (α := Bool) Value.bool Try.underlying46 (by kernel_rfl) (fun n cs y hy => let ⟨b, hb, _⟩ := DataW.trod_bool Try.underlying4 hy; ⟨b, hb⟩) (hval 1 46 v1 rfl rfl) h1
  refine (patterns_any p_a p_b n_a c_a n_b c_b f_a f_b W r_a r_b).mono fun e W' ⟨he, hb⟩ => ?_
  subst he
  exact ⟨_, rfl, law_post hW' rfl (by kernel_rfl) (by kernel_rfl) rfl Try.underlying4 rfl hb⟩

theorem over : Rows.addressPatternsRow.holds Try.pinned (OpenSpec.ofChange Rows.addressPatternsSpec) :=
  OpenClaim.holds_of_wide 5 Try.f5 rfl rfl rfl rfl rfl rfl rfl ⟨rfl, rfl, rfl, rfl, rfl⟩ rfl rfl rfl rfl rfl (by kernel_rfl) Try.func5 (by kernel_rfl)
    (of_decide_eq_true (by kernel_rfl)) (by unfold Func.isWrapper; first | (rw [if_pos (by decide +kernel)]; kernel_rfl) | (rw [if_neg (by decide +kernel)]; exact ⟨rfl, rfl⟩))
    (fun os started H enc _ => lifted os started H enc)

/-- The statement. -/
theorem proved : Rows.AddressPatternsSaid := over
#print axioms proved
end Go.Proofs.Ytpliolkifnnldaa.addressPatterns
