/- MatchEither: the law holds at every input; the arguments read as they did. No condition. -/
import Derived.Test.YtfcamlkbkehlnaaK6
namespace Go.Proofs.Ytfcamlkbkehlnaa.matchEither
open Go.ChangeShapes Go.WideShapes Go.ChangeAt Go.RowKit
open Go.ChangeMaps (open_string shut_string)

theorem own : ownKnob Try.prog.godebug = none := by kernel_rfl

set_option maxRecDepth 100000 in
theorem lifted (os : Os) (started : os.Started) (H : Type) (enc : TypeId × Value → H) :
    ReturnsInHanded {} Try.checked os 7 .any (Rows.matchEitherSpec.pre6 enc Try.prog Try.f7 Rows.matchEitherRow.domain false) (Rows.matchEitherSpec.post enc Try.prog Try.f7 false true false false) := by
  refine returns_shaped (C := Try.checked) own started (by kernel_rfl) Try.func7
    (ChangeSpec.witness6 (enc := enc) (C := Try.checked) false ⟨#[], #[.agg #[.string ByteArray.empty, .string ByteArray.empty], .string ByteArray.empty], []⟩ 8 (by kernel_rfl) (by kernel_rfl) (by kernel_rfl) (by kernel_rfl)) ?_
  intro W base args ds gs before hsh hval0 hW
  have hval : ∀ (j : Nat) t v, Try.f7.params[j]? = some t → args[j]? = some v → Value.okWide Try.prog W .any base t v := hval0
  have hW' := hW
  obtain ⟨p, q, hA0, hV, rfl, hfz, hnd⟩ := hW
  have hA : DataW.TrodAll enc Try.prog W 0 (fun _ => true) true Try.f7.params.toList args.toList ds p := hA0
  rw [Try.params7] at hA hval
  obtain ⟨v0, vs0, d0, ds0, p0, q0, hargs, rfl, rfl, h0, r0⟩ := trodAll_cons hA
  obtain ⟨v1, vs1, d1, ds1, p1, q1, rfl, rfl, rfl, h1, r1⟩ := trodAll_cons r0
  obtain ⟨rfl, rfl, rfl⟩ := trodAll_nil r1
  obtain rfl : args = #[v0, v1] := by cases args; simp_all
  obtain ⟨rfl, rfl⟩ := trodVars_none hV
  obtain ⟨l0, rfl, hl0, nn0, hf0⟩ := rd_array Try.underlying45 (hval 0 45 v0 rfl rfl) h0
  obtain ⟨c0_0, c0_1, rfl⟩ := list2 (hl0.trans (by kernel_rfl : Try.prog.cellsOf 45 = 2))
  obtain ⟨y0_0, e0_0⟩ := hf0 0 (by decide) 0 1 9 (by kernel_rfl) (by kernel_rfl) rfl
  obtain ⟨p_0, z, _, w_p_0⟩ := DataW.trod_string Try.underlying9 e0_0
  obtain rfl : c0_0 = .string p_0 := by simpa using z
  clear z e0_0
  obtain ⟨y0_1, e0_1⟩ := hf0 1 (by decide) 1 1 9 (by kernel_rfl) (by kernel_rfl) rfl
  obtain ⟨p_1, z, _, w_p_1⟩ := DataW.trod_string Try.underlying9 e0_1
  obtain rfl : c0_1 = .string p_1 := by simpa using z
  clear z e0_1
  obtain ⟨t, rfl, rfl, rfl, w_t⟩ := open_string Try.underlying9 (hval 1 9 v1 rfl rfl) h1
  refine (meith_law p_0 p_1 t w_p_0 w_p_1 w_t W hsh).mono fun e W' ⟨he, hb⟩ => ?_
  subst he
  exact ⟨_, rfl, law_post hW' rfl (by kernel_rfl) (by kernel_rfl) rfl Try.underlying4 rfl hb⟩

theorem over : Rows.matchEitherRow.holds Try.pinned (OpenSpec.ofChange Rows.matchEitherSpec) :=
  OpenClaim.holds_of_wide 7 Try.f7 rfl rfl rfl rfl rfl rfl rfl ⟨rfl, rfl, rfl, rfl, rfl⟩ rfl rfl rfl rfl rfl (by kernel_rfl) Try.func7 (by kernel_rfl)
    (of_decide_eq_true (by kernel_rfl)) (by unfold Func.isWrapper; first | (rw [if_pos (by decide +kernel)]; kernel_rfl) | (rw [if_neg (by decide +kernel)]; exact ⟨rfl, rfl⟩))
    (fun os started H enc _ => lifted os started H enc)

/-- The statement. -/
theorem proved : Rows.MatchEitherSaid := over
#print axioms proved
end Go.Proofs.Ytfcamlkbkehlnaa.matchEither
