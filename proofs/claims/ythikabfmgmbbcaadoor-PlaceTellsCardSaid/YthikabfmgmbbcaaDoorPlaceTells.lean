/- PlaceTells: the law holds at every input; the arguments read as they did. No condition. -/
import Derived.Test.YthikabfmgmbbcaaDoorL
import Derived.Test.YthikabfmgmbbcaaDoorM
import Derived.Test.YthikabfmgmbbcaaDoorTie
import Derived.Test.YthikabfmgmbbcaaDoorCards
import Derived.SevenTiedAt
import Derived.Stop.Joined
import Derived.Test.YthikabfmgmbbcaaDoorPlv
import Derived.Test.YthikabfmgmbbcaaDoorN
namespace Go.Proofs.YthikabfmgmbbcaaDoor.placeTells
open Go.ChangeShapes Go.WideShapes Go.ChangeAt Go.RowKit
open Go.ChangeMaps (open_string shut_string)

theorem own : ownKnob Tryd.prog.godebug = none := by kernel_rfl

theorem laidWorld_met (os : Os) (args : Array Value) : laidMetH Tryd.prog Rows.placeTellsRow.laid ((laidWorld Tryd.prog Rows.placeTellsRow.laid os).forCall (fun _ _ => 0) ⟨#[], args, []⟩).memory :=
  laidMetH_of_parts (laidMet_of_run' 8 (by kernel_rfl) (by kernel_rfl)) (by kernel_rfl)

set_option maxRecDepth 100000 in
theorem lifted (os : Os) (started : os.Started) (H : Type) (enc : TypeId × Value → H) :
    ReturnsInHanded {} Tryd.checked os 6 .any (fun w args => (Rows.placeTellsSpec.pre enc Tryd.prog Tryd.f6 [] false w args ∧ laidMetH Tryd.prog Rows.placeTellsRow.laid w) ∧ sizedMet enc Tryd.prog Tryd.f6 (OpenSpec.ofChange Rows.placeTellsSpec) false w args)
      (Rows.placeTellsSpec.post enc Tryd.prog Tryd.f6 false true false false) := by
  refine returnsInHanded_of_change_and (C := Tryd.checked) (X := fun w _ => laidMetH Tryd.prog Rows.placeTellsRow.laid w) (fun _ _ _ hh h => h.of_heap hh) own started (by kernel_rfl) Tryd.func6
    (ChangeSpec.witness_at (enc := enc) (C := Tryd.checked) (os := os) (X := fun w _ => laidMetH Tryd.prog Rows.placeTellsRow.laid w) false (laidWorld Tryd.prog Rows.placeTellsRow.laid os) #[.agg #[.float .f64 0, .float .f64 0], .agg #[.float .f64 0, .float .f64 0], .string ByteArray.empty] 8 rfl (by kernel_rfl) (by kernel_rfl) (by kernel_rfl) (by kernel_rfl) (by kernel_rfl) (laidWorld_met os _)) ?_
  intro W base args ds gs before hval0 hW _ _ hL _
  have hval : ∀ (j : Nat) t v, Tryd.f6.params[j]? = some t → args[j]? = some v → Value.okWide Tryd.prog W .any base t v := hval0
  have hW' := hW
  obtain ⟨p, q, hA0, hV, rfl, hfz, hnd⟩ := hW
  have hA : DataW.TrodAll enc Tryd.prog W 0 (fun _ => true) true Tryd.f6.params.toList args.toList ds p := hA0
  rw [Tryd.params6] at hA hval
  obtain ⟨v0, vs0, d0, ds0, p0, q0, hargs, rfl, rfl, h0, r0⟩ := trodAll_cons hA
  obtain ⟨v1, vs1, d1, ds1, p1, q1, rfl, rfl, rfl, h1, r1⟩ := trodAll_cons r0
  obtain ⟨v2, vs2, d2, ds2, p2, q2, rfl, rfl, rfl, h2, r2⟩ := trodAll_cons r1
  obtain ⟨rfl, rfl, rfl⟩ := trodAll_nil r2
  obtain rfl : args = #[v0, v1, v2] := by cases args; simp_all
  obtain ⟨rfl, rfl⟩ := trodVars_none hV
  obtain ⟨l0, rfl, hl0, nn0, hf0⟩ := rd_array Tryd.underlying31 (hval 0 31 v0 rfl rfl) h0
  obtain ⟨c0_0, c0_1, rfl⟩ := list2 (hl0.trans (by kernel_rfl : Tryd.prog.cellsOf 31 = 2))
  obtain ⟨y0_0, e0_0⟩ := hf0 0 (by decide) 0 1 29 (by kernel_rfl) (by kernel_rfl) rfl
  obtain ⟨a_0, z⟩ := trod_float Tryd.underlying29 e0_0
  obtain rfl : c0_0 = .float .f64 a_0 := by simpa using z
  clear z e0_0
  obtain ⟨y0_1, e0_1⟩ := hf0 1 (by decide) 1 1 29 (by kernel_rfl) (by kernel_rfl) rfl
  obtain ⟨a_1, z⟩ := trod_float Tryd.underlying29 e0_1
  obtain rfl : c0_1 = .float .f64 a_1 := by simpa using z
  clear z e0_1
  obtain ⟨l1, rfl, hl1, nn1, hf1⟩ := rd_array Tryd.underlying31 (hval 1 31 v1 rfl rfl) h1
  obtain ⟨c1_0, c1_1, rfl⟩ := list2 (hl1.trans (by kernel_rfl : Tryd.prog.cellsOf 31 = 2))
  obtain ⟨y1_0, e1_0⟩ := hf1 0 (by decide) 0 1 29 (by kernel_rfl) (by kernel_rfl) rfl
  obtain ⟨b_0, z⟩ := trod_float Tryd.underlying29 e1_0
  obtain rfl : c1_0 = .float .f64 b_0 := by simpa using z
  clear z e1_0
  obtain ⟨y1_1, e1_1⟩ := hf1 1 (by decide) 1 1 29 (by kernel_rfl) (by kernel_rfl) rfl
  obtain ⟨b_1, z⟩ := trod_float Tryd.underlying29 e1_1
  obtain rfl : c1_1 = .float .f64 b_1 := by simpa using z
  clear z e1_1
  obtain ⟨c, rfl, rfl, rfl, w_c⟩ := open_string Tryd.underlying9 (hval 2 9 v2 rfl rfl) h2
  refine (tells_law a_0 a_1 b_0 b_1 c W (pow_laid hL)).mono fun e W' ⟨he, hb⟩ => ?_
  subst he
  exact ⟨_, rfl, law_post hW' rfl (by kernel_rfl) (by kernel_rfl) rfl Tryd.underlying4 rfl hb⟩

theorem over : Rows.placeTellsRow.holds Tryd.pinned (OpenSpec.ofChange Rows.placeTellsSpec) :=
  OpenClaim.holds_of_wide 6 Tryd.f6 rfl rfl rfl rfl rfl rfl rfl ⟨rfl, rfl, rfl, rfl, rfl⟩ rfl rfl rfl rfl rfl (by kernel_rfl) Tryd.func6 (by kernel_rfl)
    (of_decide_eq_true (by kernel_rfl)) (by unfold Func.isWrapper; first | (rw [if_pos (by decide +kernel)]; kernel_rfl) | (rw [if_neg (by decide +kernel)]; exact ⟨rfl, rfl⟩))
    (fun os started H enc _ => lifted os started H enc)

/-- The card. -/
theorem proved : Rows.PlaceTellsCardSaid :=
  Claim7.holds_tied_plain_at .later [] [.data, .data, .data] true (true, "d5fc6b353cd76355c0feb2207a19cf4d31579bf3dedb7a5710e0184e68ef46b1") false
    over (fun _ h => by cases h) (by kernel_rfl) (fun _ h => by cases h) placeTells_row_tie rfl ⟨rfl, rfl⟩ (by kernel_rfl) rfl
    (fun f fn hf hfn => by
      obtain rfl : f = 6 := Option.some.inj ((show Tryd.prog.funcNamed "headgate/headgatelaw01.PlaceTells" = some 6 by kernel_rfl).symm.trans hf) |>.symm
      obtain rfl : fn = Tryd.f6 := (Option.some.inj (Tryd.func6.symm.trans hfn)).symm
      exact ⟨by kernel_rfl, fun j t ht => by
        rw [Tryd.params6] at ht
        rcases j with _ | j
        · obtain rfl : t = 31 := by simpa using ht.symm
          exact (show Tryd.prog.wantsStandIn 31 = false by kernel_rfl)
        rcases j with _ | j
        · obtain rfl : t = 31 := by simpa using ht.symm
          exact (show Tryd.prog.wantsStandIn 31 = false by kernel_rfl)
        rcases j with _ | j
        · obtain rfl : t = 9 := by simpa using ht.symm
          exact (show Tryd.prog.wantsStandIn 9 = false by kernel_rfl)
        simp at ht⟩)
    (by kernel_rfl)
#print axioms proved
end Go.Proofs.YthikabfmgmbbcaaDoor.placeTells
