/- PlaceLine: the law holds at every input; the arguments read as they did. No condition. -/
import Derived.Test.YthikabfmgmbbcaaDoorL
import Derived.Test.YthikabfmgmbbcaaDoorM
import Derived.Test.YthikabfmgmbbcaaDoorTie
import Derived.Test.YthikabfmgmbbcaaDoorCards
import Derived.SevenTiedAt
import Derived.Stop.Joined
import Derived.Test.YthikabfmgmbbcaaDoorPlr
import Derived.Test.YthikabfmgmbbcaaDoorN
namespace Go.Proofs.YthikabfmgmbbcaaDoor.placeLine
open Go.ChangeShapes Go.WideShapes Go.ChangeAt Go.RowKit
open Go.ChangeMaps (open_string shut_string)

theorem own : ownKnob Tryd.prog.godebug = none := by kernel_rfl

theorem laidWorld_met (os : Os) (args : Array Value) : laidMetH Tryd.prog Rows.placeLineRow.laid ((laidWorld Tryd.prog Rows.placeLineRow.laid os).forCall (fun _ _ => 0) ⟨#[], args, []⟩).memory :=
  laidMetH_of_parts (laidMet_of_run' 8 (by kernel_rfl) (by kernel_rfl)) (by kernel_rfl)

set_option maxRecDepth 100000 in
theorem lifted (os : Os) (started : os.Started) (H : Type) (enc : TypeId × Value → H) :
    ReturnsInHanded {} Tryd.checked os 7 .any (fun w args => (Rows.placeLineSpec.pre enc Tryd.prog Tryd.f7 [] false w args ∧ laidMetH Tryd.prog Rows.placeLineRow.laid w) ∧ sizedMet enc Tryd.prog Tryd.f7 (OpenSpec.ofChange Rows.placeLineSpec) false w args)
      (Rows.placeLineSpec.post enc Tryd.prog Tryd.f7 false true false false) := by
  refine returnsInHanded_of_change_and (C := Tryd.checked) (X := fun w _ => laidMetH Tryd.prog Rows.placeLineRow.laid w) (fun _ _ _ hh h => h.of_heap hh) own started (by kernel_rfl) Tryd.func7
    (ChangeSpec.witness_at (enc := enc) (C := Tryd.checked) (os := os) (X := fun w _ => laidMetH Tryd.prog Rows.placeLineRow.laid w) false (laidWorld Tryd.prog Rows.placeLineRow.laid os) #[.agg #[.float .f64 0, .float .f64 0, .float .f64 0, .float .f64 0, .float .f64 0, .float .f64 0]] 8 rfl (by kernel_rfl) (by kernel_rfl) (by kernel_rfl) (by kernel_rfl) (by kernel_rfl) (laidWorld_met os _)) ?_
  intro W base args ds gs before hval0 hW _ _ _ _
  have hval : ∀ (j : Nat) t v, Tryd.f7.params[j]? = some t → args[j]? = some v → Value.okWide Tryd.prog W .any base t v := hval0
  have hW' := hW
  obtain ⟨p, q, hA0, hV, rfl, hfz, hnd⟩ := hW
  have hA : DataW.TrodAll enc Tryd.prog W 0 (fun _ => true) true Tryd.f7.params.toList args.toList ds p := hA0
  rw [Tryd.params7] at hA hval
  obtain ⟨v0, vs0, d0, ds0, p0, q0, hargs, rfl, rfl, h0, r0⟩ := trodAll_cons hA
  obtain ⟨rfl, rfl, rfl⟩ := trodAll_nil r0
  obtain rfl : args = #[v0] := by cases args; simp_all
  obtain ⟨rfl, rfl⟩ := trodVars_none hV
  obtain ⟨l0, rfl, hl0, nn0, hf0⟩ := rd_array Tryd.underlying39 (hval 0 39 v0 rfl rfl) h0
  obtain ⟨c0_0, c0_1, c0_2, c0_3, c0_4, c0_5, rfl⟩ := list6 (hl0.trans (by kernel_rfl : Tryd.prog.cellsOf 39 = 6))
  obtain ⟨y0_0, e0_0⟩ := hf0 0 (by decide) 0 2 31 (by kernel_rfl) (by kernel_rfl) rfl
  obtain ⟨m0_0, hg0_0⟩ := rd_array2 Tryd.underlying31 e0_0
  obtain ⟨z0_0_0, x0_0_0⟩ := hg0_0 0 (by decide) 0 1 29 (by kernel_rfl) (by kernel_rfl) rfl
  obtain ⟨a_0, z⟩ := trod_float Tryd.underlying29 x0_0_0
  obtain rfl : c0_0 = .float .f64 a_0 := by simpa using z
  clear z x0_0_0
  obtain ⟨z0_0_1, x0_0_1⟩ := hg0_0 1 (by decide) 1 1 29 (by kernel_rfl) (by kernel_rfl) rfl
  obtain ⟨a_1, z⟩ := trod_float Tryd.underlying29 x0_0_1
  obtain rfl : c0_1 = .float .f64 a_1 := by simpa using z
  clear z x0_0_1
  obtain ⟨y0_1, e0_1⟩ := hf0 1 (by decide) 2 2 31 (by kernel_rfl) (by kernel_rfl) rfl
  obtain ⟨m0_1, hg0_1⟩ := rd_array2 Tryd.underlying31 e0_1
  obtain ⟨z0_1_0, x0_1_0⟩ := hg0_1 0 (by decide) 0 1 29 (by kernel_rfl) (by kernel_rfl) rfl
  obtain ⟨a_2, z⟩ := trod_float Tryd.underlying29 x0_1_0
  obtain rfl : c0_2 = .float .f64 a_2 := by simpa using z
  clear z x0_1_0
  obtain ⟨z0_1_1, x0_1_1⟩ := hg0_1 1 (by decide) 1 1 29 (by kernel_rfl) (by kernel_rfl) rfl
  obtain ⟨a_3, z⟩ := trod_float Tryd.underlying29 x0_1_1
  obtain rfl : c0_3 = .float .f64 a_3 := by simpa using z
  clear z x0_1_1
  obtain ⟨y0_2, e0_2⟩ := hf0 2 (by decide) 4 2 31 (by kernel_rfl) (by kernel_rfl) rfl
  obtain ⟨m0_2, hg0_2⟩ := rd_array2 Tryd.underlying31 e0_2
  obtain ⟨z0_2_0, x0_2_0⟩ := hg0_2 0 (by decide) 0 1 29 (by kernel_rfl) (by kernel_rfl) rfl
  obtain ⟨a_4, z⟩ := trod_float Tryd.underlying29 x0_2_0
  obtain rfl : c0_4 = .float .f64 a_4 := by simpa using z
  clear z x0_2_0
  obtain ⟨z0_2_1, x0_2_1⟩ := hg0_2 1 (by decide) 1 1 29 (by kernel_rfl) (by kernel_rfl) rfl
  obtain ⟨a_5, z⟩ := trod_float Tryd.underlying29 x0_2_1
  obtain rfl : c0_5 = .float .f64 a_5 := by simpa using z
  clear z x0_2_1
  refine (line_law a_0 a_1 a_2 a_3 a_4 a_5 W).mono fun e W' ⟨he, hb⟩ => ?_
  subst he
  exact ⟨_, rfl, law_post hW' rfl (by kernel_rfl) (by kernel_rfl) rfl Tryd.underlying4 rfl hb⟩

theorem over : Rows.placeLineRow.holds Tryd.pinned (OpenSpec.ofChange Rows.placeLineSpec) :=
  OpenClaim.holds_of_wide 7 Tryd.f7 rfl rfl rfl rfl rfl rfl rfl ⟨rfl, rfl, rfl, rfl, rfl⟩ rfl rfl rfl rfl rfl (by kernel_rfl) Tryd.func7 (by kernel_rfl)
    (of_decide_eq_true (by kernel_rfl)) (by unfold Func.isWrapper; first | (rw [if_pos (by decide +kernel)]; kernel_rfl) | (rw [if_neg (by decide +kernel)]; exact ⟨rfl, rfl⟩))
    (fun os started H enc _ => lifted os started H enc)

/-- The card. -/
theorem proved : Rows.PlaceLineCardSaid :=
  Claim7.holds_tied_plain_at .later [] [.data, .data, .data] true (true, "d5fc6b353cd76355c0feb2207a19cf4d31579bf3dedb7a5710e0184e68ef46b1") false
    over (fun _ h => by cases h) (by kernel_rfl) (fun _ h => by cases h) placeLine_row_tie rfl ⟨rfl, rfl⟩ (by kernel_rfl) rfl
    (fun f fn hf hfn => by
      obtain rfl : f = 7 := Option.some.inj ((show Tryd.prog.funcNamed "headgate/headgatelaw01.PlaceLine" = some 7 by kernel_rfl).symm.trans hf) |>.symm
      obtain rfl : fn = Tryd.f7 := (Option.some.inj (Tryd.func7.symm.trans hfn)).symm
      exact ⟨by kernel_rfl, fun j t ht => by
        rw [Tryd.params7] at ht
        rcases j with _ | j
        · obtain rfl : t = 39 := by simpa using ht.symm
          exact (show Tryd.prog.wantsStandIn 39 = false by kernel_rfl)
        simp at ht⟩)
    (by kernel_rfl)
#print axioms proved
end Go.Proofs.YthikabfmgmbbcaaDoor.placeLine
