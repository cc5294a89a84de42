/- ServerNil: the law holds at every input; the arguments read as they did. No condition. -/
import Derived.Test.YtkjhjgokaeiopaaGreatDoorL
import Derived.Test.YtkjhjgokaeiopaaGreatDoorM
import Derived.Test.YtkjhjgokaeiopaaGreatDoorTie
import Derived.Test.YtkjhjgokaeiopaaGreatDoorCards
import Derived.SevenTiedAt
import Derived.Stop.Joined
import Derived.Test.YtkjhjgokaeiopaaGreatDoorKServerNil
import Derived.Test.YtkjhjgokaeiopaaGreatDoorJJServerNil
namespace Go.Proofs.YtkjhjgokaeiopaaGreatDoor.serverNil
open Go.ChangeShapes Go.WideShapes Go.ChangeAt Go.RowKit
open Go.ChangeMaps (open_string shut_string)

theorem own : ownKnob Tryz.prog.godebug = none := by kernel_rfl

theorem laidWorld_met (os : Os) (args : Array Value) : laidMetH Tryz.prog Rows.serverNilRow.laid ((laidWorld Tryz.prog Rows.serverNilRow.laid os).forCall (fun _ _ => 0) ⟨#[], args, []⟩).memory :=
  laidMetH_of_parts (laidMet_of_run' 8 (by kernel_rfl) (by kernel_rfl)) (by kernel_rfl)

set_option maxRecDepth 100000 in
theorem lifted (os : Os) (started : os.Started) (H : Type) (enc : TypeId × Value → H) :
    ReturnsInHanded {} Tryz.checked os 3 .any (fun w args => (Rows.serverNilSpec.pre enc Tryz.prog Tryz.f3 [] false w args ∧ laidMetH Tryz.prog Rows.serverNilRow.laid w) ∧ sizedMet enc Tryz.prog Tryz.f3 (OpenSpec.ofChange Rows.serverNilSpec) false w args)
      (Rows.serverNilSpec.post enc Tryz.prog Tryz.f3 false true false false) := by
  refine returnsInHanded_of_change_and (C := Tryz.checked) (X := fun w _ => laidMetH Tryz.prog Rows.serverNilRow.laid w) (fun _ _ _ hh h => h.of_heap hh) own started (by kernel_rfl) Tryz.func3
    (ChangeSpec.witness_at (enc := enc) (C := Tryz.checked) (os := os) (X := fun w _ => laidMetH Tryz.prog Rows.serverNilRow.laid w) false (laidWorld Tryz.prog Rows.serverNilRow.laid os) #[.int .i64 0, .slice none 0 0] 8 rfl (by kernel_rfl) (by kernel_rfl) (by kernel_rfl) (by kernel_rfl) (by kernel_rfl) (laidWorld_met os _)) ?_
  intro W base args ds gs before hval0 hW _ _ _ _
  have hval : ∀ (j : Nat) t v, Tryz.f3.params[j]? = some t → args[j]? = some v → Value.okWide Tryz.prog W .any base t v := hval0
  have hW' := hW
  obtain ⟨p, q, hA0, hV, rfl, hfz, hnd⟩ := hW
  have hA : DataW.TrodAll enc Tryz.prog W 0 (fun _ => true) true Tryz.f3.params.toList args.toList ds p := hA0
  rw [Tryz.params3] at hA hval
  obtain ⟨v0, vs0, d0, ds0, p0, q0, hargs, rfl, rfl, h0, r0⟩ := trodAll_cons hA
  obtain ⟨v1, vs1, d1, ds1, p1, q1, rfl, rfl, rfl, h1, r1⟩ := trodAll_cons r0
  obtain ⟨rfl, rfl, rfl⟩ := trodAll_nil r1
  obtain rfl : args = #[v0, v1] := by cases args; simp_all
  obtain ⟨rfl, rfl⟩ := trodVars_none hV
  obtain ⟨a0, rfl, rfl, rfl, w_a0⟩ := open_int Tryz.underlying3 (hval 0 3 v0 rfl rfl) h0
  obtain ⟨p_a1, n_a1, c_a1, f_a1, rfl, m_a1, r_a1⟩ := rd_slice (α := UInt8) (fun z => Value.int .u8 z.toNat) Tryz.underlying22 (by kernel_rfl) (fun n cs y hy => let ⟨b, hb, _, hw⟩ := DataW.trod_int Tryz.underlying5 hy; let ⟨d, hd⟩ := u8_of hw; ⟨d, hb.trans (by rw [hd])⟩) (hval 1 22 v1 rfl rfl) h1
  refine (E.ServerNil_any [.int .i64 a0, .slice p_a1 n_a1 c_a1] rfl rfl W).mono fun e W' ⟨he, hb⟩ => ?_
  subst he
  exact ⟨_, rfl, law_post hW' rfl (by kernel_rfl) (by kernel_rfl) rfl Tryz.underlying4 rfl hb⟩
end Go.Proofs.YtkjhjgokaeiopaaGreatDoor.serverNil
