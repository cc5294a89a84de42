/- AddressOpens: the law holds at every input; the arguments read as they did. No condition. -/
import Derived.Test.YtpliolkifnnldaaL
import Derived.Test.YtpliolkifnnldaaAddrLaws
namespace Go.Proofs.Ytpliolkifnnldaa.addressOpens
open Go.ChangeShapes Go.WideShapes Go.ChangeAt Go.RowKit
open Go.ChangeMaps (open_string shut_string)

theorem own : ownKnob Try.prog.godebug = none := by kernel_rfl

set_option maxRecDepth 100000 in
theorem lifted (os : Os) (started : os.Started) (H : Type) (enc : TypeId × Value → H) :
    ReturnsInHanded {} Try.checked os 4 .any (Rows.addressOpensSpec.pre6 enc Try.prog Try.f4 Rows.addressOpensRow.domain false) (Rows.addressOpensSpec.post enc Try.prog Try.f4 false true false false) := by
  refine returnsInHanded_of_change (C := Try.checked) own started (by kernel_rfl) Try.func4
    (ChangeSpec.witness6 (enc := enc) (C := Try.checked) false ⟨#[], #[.agg #[.int .i64 0, .int .i64 0, .int .i64 0, .int .i64 0, .bool false], .bool false, .agg #[.int .i64 0, .bool false, .bool false, .bool false]], []⟩ 8 (by kernel_rfl) (by kernel_rfl) (by kernel_rfl) (by kernel_rfl)) ?_
  intro W base args ds gs before hval0 hW hcnd _
  have hval : ∀ (j : Nat) t v, Try.f4.params[j]? = some t → args[j]? = some v → Value.okWide Try.prog W .any base t v := hval0
  have hW' := hW
  obtain ⟨p, q, hA0, hV, rfl, hfz, hnd⟩ := hW
  have hA : DataW.TrodAll enc Try.prog W 0 (fun _ => true) true Try.f4.params.toList args.toList ds p := hA0
  rw [Try.params4] at hA hval
  obtain ⟨v0, vs0, d0, ds0, p0, q0, hargs, rfl, rfl, h0, r0⟩ := trodAll_cons hA
  obtain ⟨v1, vs1, d1, ds1, p1, q1, rfl, rfl, rfl, h1, r1⟩ := trodAll_cons r0
  obtain ⟨v2, vs2, d2, ds2, p2, q2, rfl, rfl, rfl, h2, r2⟩ := trodAll_cons r1
  obtain ⟨rfl, rfl, rfl⟩ := trodAll_nil r2
  obtain rfl : args = #[v0, v1, v2] := by cases args; simp_all
  obtain ⟨rfl, rfl⟩ := trodVars_none hV
  obtain ⟨l0, rfl, hl0, nn0, hf0⟩ := rd_struct Try.underlying38 (hval 0 38 v0 rfl rfl) h0
  obtain ⟨c0_0, c0_1, c0_2, c0_3, c0_4, rfl⟩ := list5 (hl0.trans (by kernel_rfl : Try.prog.cellsOf 38 = 5))
  obtain ⟨y0_0, e0_0⟩ := hf0 0 _ rfl 0 1 24 rfl (by kernel_rfl) rfl
  obtain ⟨a_0, z, _, w_a_0⟩ := DataW.trod_int Try.underlying24 e0_0
  obtain rfl : c0_0 = .int .i64 a_0 := by simpa using z
  clear z e0_0
  obtain ⟨y0_1, e0_1⟩ := hf0 1 _ rfl 1 1 24 rfl (by kernel_rfl) rfl
  obtain ⟨a_1, z, _, w_a_1⟩ := DataW.trod_int Try.underlying24 e0_1
  obtain rfl : c0_1 = .int .i64 a_1 := by simpa using z
  clear z e0_1
  obtain ⟨y0_2, e0_2⟩ := hf0 2 _ rfl 2 1 3 rfl (by kernel_rfl) rfl
  obtain ⟨a_2, z, _, w_a_2⟩ := DataW.trod_int Try.underlying3 e0_2
  obtain rfl : c0_2 = .int .i64 a_2 := by simpa using z
  clear z e0_2
  obtain ⟨y0_3, e0_3⟩ := hf0 3 _ rfl 3 1 3 rfl (by kernel_rfl) rfl
  obtain ⟨a_3, z, _, w_a_3⟩ := DataW.trod_int Try.underlying3 e0_3
  obtain rfl : c0_3 = .int .i64 a_3 := by simpa using z
  clear z e0_3
  obtain ⟨y0_4, e0_4⟩ := hf0 4 _ rfl 4 1 4 rfl (by kernel_rfl) rfl
  obtain ⟨a_4, z, _⟩ := DataW.trod_bool Try.underlying4 e0_4
  obtain rfl : c0_4 = .bool a_4 := by simpa using z
  clear z e0_4
  obtain ⟨b, rfl, rfl, rfl⟩ := open_bool Try.underlying4 (hval 1 4 v1 rfl rfl) h1
  obtain ⟨l2, rfl, hl2, nn2, hf2⟩ := rd_struct Try.underlying43 (hval 2 43 v2 rfl rfl) h2
  obtain ⟨c2_0, c2_1, c2_2, c2_3, rfl⟩ := list4 (hl2.trans (by kernel_rfl : Try.prog.cellsOf 43 = 4))
  obtain ⟨y2_0, e2_0⟩ := hf2 0 _ rfl 0 1 3 rfl (by kernel_rfl) rfl
  obtain ⟨c_0, z, _, w_c_0⟩ := DataW.trod_int Try.underlying3 e2_0
  obtain rfl : c2_0 = .int .i64 c_0 := by simpa using z
  clear z e2_0
  obtain ⟨y2_1, e2_1⟩ := hf2 1 _ rfl 1 1 4 rfl (by kernel_rfl) rfl
  obtain ⟨c_1, z, _⟩ := DataW.trod_bool Try.underlying4 e2_1
  obtain rfl : c2_1 = .bool c_1 := by simpa using z
  clear z e2_1
  obtain ⟨y2_2, e2_2⟩ := hf2 2 _ rfl 2 1 4 rfl (by kernel_rfl) rfl
  obtain ⟨c_2, z, _⟩ := DataW.trod_bool Try.underlying4 e2_2
  obtain rfl : c2_2 = .bool c_2 := by simpa using z
  clear z e2_2
  obtain ⟨y2_3, e2_3⟩ := hf2 3 _ rfl 3 1 4 rfl (by kernel_rfl) rfl
  obtain ⟨c_3, z, _⟩ := DataW.trod_bool Try.underlying4 e2_3
  obtain rfl : c2_3 = .bool c_3 := by simpa using z
  clear z e2_3
  refine (opens_any a_0 a_1 a_2 a_3 a_4 b c_0 c_1 c_2 c_3 W).mono fun e W' ⟨he, hb⟩ => ?_
  subst he
  exact ⟨_, rfl, law_post hW' rfl (by kernel_rfl) (by kernel_rfl) rfl Try.underlying4 rfl hb⟩

theorem over : Rows.addressOpensRow.holds Try.pinned (OpenSpec.ofChange Rows.addressOpensSpec) :=
  OpenClaim.holds_of_wide 4 Try.f4 rfl rfl rfl rfl rfl rfl rfl ⟨rfl, rfl, rfl, rfl, rfl⟩ rfl rfl rfl rfl rfl (by kernel_rfl) Try.func4 (by kernel_rfl)
    (of_decide_eq_true (by kernel_rfl)) (by unfold Func.isWrapper; first | (rw [if_pos (by decide +kernel)]; kernel_rfl) | (rw [if_neg (by decide +kernel)]; exact ⟨rfl, rfl⟩))
    (fun os started H enc _ => lifted os started H enc)

/-- The statement. -/
theorem proved : Rows.AddressOpensSaid := over
#print axioms proved
end Go.Proofs.Ytpliolkifnnldaa.addressOpens
