/- MatchFinds: the law holds at every input; the arguments read as they did. No condition. -/
import Derived.Test.YtfcamlkbkehlnaaK7
namespace Go.Proofs.Ytfcamlkbkehlnaa.matchFinds
open Go.ChangeShapes Go.WideShapes Go.ChangeAt Go.RowKit
open Go.ChangeMaps (open_string shut_string)

theorem own : ownKnob Try.prog.godebug = none := by kernel_rfl

set_option maxRecDepth 100000 in
theorem lifted (os : Os) (started : os.Started) (H : Type) (enc : TypeId × Value → H) :
    ReturnsInHanded {} Try.checked os 9 .any (Rows.matchFindsSpec.pre6 enc Try.prog Try.f9 Rows.matchFindsRow.domain false) (Rows.matchFindsSpec.post enc Try.prog Try.f9 false true false false) := by
  refine returns_shaped (C := Try.checked) own started (by kernel_rfl) Try.func9
    (ChangeSpec.witness6 (enc := enc) (C := Try.checked) false ⟨#[], #[.agg #[.int .i64 0, .int .u64 0, .int .u64 0, .int .u64 0, .int .u64 0, .int .i64 0, .int .i64 0, .int .i64 0, .slice none 0 0], .string ByteArray.empty, .agg #[.int .i64 0, .int .i64 0, .bool false]], []⟩ 8 (by kernel_rfl) (by kernel_rfl) (by kernel_rfl) (by kernel_rfl)) ?_
  intro W base args ds gs before hsh hval0 hW
  have hval : ∀ (j : Nat) t v, Try.f9.params[j]? = some t → args[j]? = some v → Value.okWide Try.prog W .any base t v := hval0
  have hW' := hW
  obtain ⟨p, q, hA0, hV, rfl, hfz, hnd⟩ := hW
  have hA : DataW.TrodAll enc Try.prog W 0 (fun _ => true) true Try.f9.params.toList args.toList ds p := hA0
  rw [Try.params9] at hA hval
  obtain ⟨v0, vs0, d0, ds0, p0, q0, hargs, rfl, rfl, h0, r0⟩ := trodAll_cons hA
  obtain ⟨v1, vs1, d1, ds1, p1, q1, rfl, rfl, rfl, h1, r1⟩ := trodAll_cons r0
  obtain ⟨v2, vs2, d2, ds2, p2, q2, rfl, rfl, rfl, h2, r2⟩ := trodAll_cons r1
  obtain ⟨rfl, rfl, rfl⟩ := trodAll_nil r2
  obtain rfl : args = #[v0, v1, v2] := by cases args; simp_all
  obtain ⟨rfl, rfl⟩ := trodVars_none hV
  obtain ⟨m, rfl, r_m⟩ := rd_treeC (hval 0 28 v0 rfl rfl) h0
  obtain ⟨t, rfl, rfl, rfl, w_t⟩ := open_string Try.underlying9 (hval 1 9 v1 rfl rfl) h1
  obtain ⟨l2, rfl, hl2, nn2, hf2⟩ := rd_struct Try.underlying49 (hval 2 49 v2 rfl rfl) h2
  obtain ⟨c2_0, c2_1, c2_2, rfl⟩ := list3 (hl2.trans (by kernel_rfl : Try.prog.cellsOf 49 = 3))
  obtain ⟨y2_0, e2_0⟩ := hf2 0 _ rfl 0 1 3 rfl (by kernel_rfl) rfl
  obtain ⟨o_0, z, _, w_o_0⟩ := DataW.trod_int Try.underlying3 e2_0
  obtain rfl : c2_0 = .int .i64 o_0 := by simpa using z
  clear z e2_0
  obtain ⟨y2_1, e2_1⟩ := hf2 1 _ rfl 1 1 3 rfl (by kernel_rfl) rfl
  obtain ⟨o_1, z, _, w_o_1⟩ := DataW.trod_int Try.underlying3 e2_1
  obtain rfl : c2_1 = .int .i64 o_1 := by simpa using z
  clear z e2_1
  obtain ⟨y2_2, e2_2⟩ := hf2 2 _ rfl 2 1 4 rfl (by kernel_rfl) rfl
  obtain ⟨o_2, z, _⟩ := DataW.trod_bool Try.underlying4 e2_2
  obtain rfl : c2_2 = .bool o_2 := by simpa using z
  clear z e2_2
  refine (mfinds_law m t o_0 o_1 o_2 w_t W hsh r_m).mono fun e W' ⟨he, hb⟩ => ?_
  subst he
  exact ⟨_, rfl, law_post hW' rfl (by kernel_rfl) (by kernel_rfl) rfl Try.underlying4 rfl hb⟩

theorem over : Rows.matchFindsRow.holds Try.pinned (OpenSpec.ofChange Rows.matchFindsSpec) :=
  OpenClaim.holds_of_wide 9 Try.f9 rfl rfl rfl rfl rfl rfl rfl ⟨rfl, rfl, rfl, rfl, rfl⟩ rfl rfl rfl rfl rfl (by kernel_rfl) Try.func9 (by kernel_rfl)
    (of_decide_eq_true (by kernel_rfl)) (by unfold Func.isWrapper; first | (rw [if_pos (by decide +kernel)]; kernel_rfl) | (rw [if_neg (by decide +kernel)]; exact ⟨rfl, rfl⟩))
    (fun os started H enc _ => lifted os started H enc)

/-- The statement. -/
theorem proved : Rows.MatchFindsSaid := over
#print axioms proved
end Go.Proofs.Ytfcamlkbkehlnaa.matchFinds
