/- ReplaceReplaces: the law holds at every input; the arguments read as they did. Condition: what is read holds together at most 1048576 values and letters (the second form). -/
import Derived.Test.YtjdmdpjbijkjaaaGreatK7
namespace Go.Proofs.YtjdmdpjbijkjaaaGreat.replaceReplaces
open Go.ChangeShapes Go.WideShapes Go.ChangeAt Go.RowKit
open Go.ChangeMaps (open_string shut_string)

theorem own : ownKnob Tryz.prog.godebug = none := by kernel_rfl

set_option maxRecDepth 100000 in
theorem lifted (os : Os) (started : os.Started) (H : Type) (enc : TypeId × Value → H) (F : Stop.Interp) :
    ReturnsInHanded {} Tryz.checked os 3 .any ((Rows.OpenSpec.upto Rows.replaceReplacesSpec).pre6 enc Tryz.prog Tryz.f3 Rows.replaceReplacesUptoRow.domain false) (((Rows.OpenSpec.upto Rows.replaceReplacesSpec).at F).post enc Tryz.prog Tryz.f3 false true false false) := by
  refine returns_shaped_cond (C := Tryz.checked) (s := Rows.OpenSpec.upto Rows.replaceReplacesSpec) (k := Rows.uptoSmall) rfl own started (by kernel_rfl) Tryz.func3
    (OpenSpec.witness (enc := enc) (C := Tryz.checked) (s := Rows.OpenSpec.upto Rows.replaceReplacesSpec) (k := Rows.uptoSmall) rfl false ⟨#[], #[.agg #[.string ByteArray.empty, .string ByteArray.empty], .string ByteArray.empty, .agg #[.int .i64 0, .bool false]], []⟩ 8 (by kernel_rfl) (by kernel_rfl) (by kernel_rfl) (x := ([.agg [.lit (.string []), .lit (.string [])], .lit (.string []), .agg [.lit (.int .i64 0), .lit (.bool false)]], [], [])) (by kernel_rfl) rfl (by kernel_rfl)) ?_
  intro W base args ds gs before hsh hval0 hW hk
  have hval : ∀ (j : Nat) t v, Tryz.f3.params[j]? = some t → args[j]? = some v → Value.okWide Tryz.prog W .any base t v := hval0
  have hW' := hW
  obtain ⟨p, q, hA0, hV, rfl, hfz, hnd⟩ := hW
  have hA : DataW.TrodAll enc Tryz.prog W 0 (fun _ => true) true Tryz.f3.params.toList args.toList ds p := hA0
  rw [Tryz.params3] at hA hval
  obtain ⟨v0, vs0, d0, ds0, p0, q0, hargs, rfl, rfl, h0, r0⟩ := trodAll_cons hA
  obtain ⟨v1, vs1, d1, ds1, p1, q1, rfl, rfl, rfl, h1, r1⟩ := trodAll_cons r0
  obtain ⟨v2, vs2, d2, ds2, p2, q2, rfl, rfl, rfl, h2, r2⟩ := trodAll_cons r1
  obtain ⟨rfl, rfl, rfl⟩ := trodAll_nil r2
  obtain rfl : args = #[v0, v1, v2] := by cases args; simp_all
  obtain ⟨rfl, rfl⟩ := trodVars_none hV
  obtain ⟨p_a, q_a, rfl, s_a, z_a⟩ := rd_two (hval 0 22 v0 rfl rfl) h0
  obtain ⟨b, rfl, rfl, rfl, w_b⟩ := open_string Tryz.underlying9 (hval 1 9 v1 rfl rfl) h1
  obtain ⟨l2, rfl, hl2, nn2, hf2⟩ := rd_struct Tryz.underlying24 (hval 2 24 v2 rfl rfl) h2
  obtain ⟨c2_0, c2_1, rfl⟩ := list2 (hl2.trans (by kernel_rfl : Tryz.prog.cellsOf 24 = 2))
  obtain ⟨y2_0, e2_0⟩ := hf2 0 _ rfl 0 1 3 rfl (by kernel_rfl) rfl
  obtain ⟨c_0, z, _, w_c_0⟩ := DataW.trod_int Tryz.underlying3 e2_0
  obtain rfl : c2_0 = .int .i64 c_0 := by simpa using z
  clear z e2_0
  obtain ⟨y2_1, e2_1⟩ := hf2 1 _ rfl 1 1 4 rfl (by kernel_rfl) rfl
  obtain ⟨c_1, z, _⟩ := DataW.trod_bool Tryz.underlying4 e2_1
  obtain rfl : c2_1 = .bool c_1 := by simpa using z
  clear z e2_1
  have hk2 := of_decide_eq_true hk
  simp only [List.cons_append, List.nil_append, Rows.uptoBulkAll] at hk2
  refine (reps_law p_a q_a b c_0 c_1 (by have : maxLen = 9223372036854775807 := rfl; omega) (by omega) W hsh).mono fun e W' ⟨he, hb⟩ => ?_
  subst he
  exact ⟨_, rfl, law_post hW' rfl (by kernel_rfl) (by kernel_rfl) rfl Tryz.underlying4 rfl hb⟩

theorem over : Rows.replaceReplacesUptoRow.holds Tryz.pinned (Rows.OpenSpec.upto Rows.replaceReplacesSpec) :=
  OpenClaim.holds_of_cond 3 Tryz.f3 rfl rfl rfl rfl rfl rfl rfl ⟨rfl, rfl, rfl, rfl, rfl⟩ rfl rfl rfl rfl rfl (by kernel_rfl) Tryz.func3 (by kernel_rfl)
    (of_decide_eq_true (by kernel_rfl)) (by unfold Func.isWrapper; first | (rw [if_pos (by decide +kernel)]; kernel_rfl) | (rw [if_neg (by decide +kernel)]; exact ⟨rfl, rfl⟩))
    (fun os started H enc _ F => lifted os started H enc F)

/-- The statement. -/
theorem proved : Rows.ReplaceReplacesUptoSaid := over
#print axioms proved
end Go.Proofs.YtjdmdpjbijkjaaaGreat.replaceReplaces
