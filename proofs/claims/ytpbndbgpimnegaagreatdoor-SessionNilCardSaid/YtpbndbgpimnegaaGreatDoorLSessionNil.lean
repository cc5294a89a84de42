/- SessionNil: the law holds at every input; the arguments read as they did. No condition. -/
import Derived.Test.YtpbndbgpimnegaaGreatDoorL
import Derived.Test.YtpbndbgpimnegaaGreatDoorM
import Derived.Test.YtpbndbgpimnegaaGreatDoorTie
import Derived.Test.YtpbndbgpimnegaaGreatDoorCards
import Derived.SevenTiedAt
import Derived.Stop.Joined
import Derived.Test.YtpbndbgpimnegaaGreatDoorKSessionNil
import Derived.Test.YtpbndbgpimnegaaGreatDoorJJSessionNil
namespace Go.Proofs.YtpbndbgpimnegaaGreatDoor.sessionNil
open Go.ChangeShapes Go.WideShapes Go.ChangeAt Go.RowKit
open Go.ChangeMaps (open_string shut_string)

theorem own : ownKnob Tryz.prog.godebug = none := by kernel_rfl

theorem laidWorld_met (os : Os) (args : Array Value) : laidMetH Tryz.prog Rows.sessionNilRow.laid ((laidWorld Tryz.prog Rows.sessionNilRow.laid os).forCall (fun _ _ => 0) ⟨#[], args, []⟩).memory :=
  laidMetH_of_parts (laidMet_of_run' 8 (by kernel_rfl) (by kernel_rfl)) (by kernel_rfl)

set_option maxRecDepth 100000 in
theorem lifted (os : Os) (started : os.Started) (H : Type) (enc : TypeId × Value → H) :
    ReturnsInHanded {} Tryz.checked os 6 .any (fun w args => (Rows.sessionNilSpec.pre enc Tryz.prog Tryz.f6 [] false w args ∧ laidMetH Tryz.prog Rows.sessionNilRow.laid w) ∧ sizedMet enc Tryz.prog Tryz.f6 (OpenSpec.ofChange Rows.sessionNilSpec) false w args)
      (Rows.sessionNilSpec.post enc Tryz.prog Tryz.f6 false true false false) := by
  refine returnsInHanded_of_change_and (C := Tryz.checked) (X := fun w _ => laidMetH Tryz.prog Rows.sessionNilRow.laid w) (fun _ _ _ hh h => h.of_heap hh) own started (by kernel_rfl) Tryz.func6
    (ChangeSpec.witness_at (enc := enc) (C := Tryz.checked) (os := os) (X := fun w _ => laidMetH Tryz.prog Rows.sessionNilRow.laid w) false (laidWorld Tryz.prog Rows.sessionNilRow.laid os) #[.agg #[.int .i64 0, .string ByteArray.empty, .bool false, .bool false, .bool false, .slice none 0 0]] 8 rfl (by kernel_rfl) (by kernel_rfl) (by kernel_rfl) (by kernel_rfl) (by kernel_rfl) (laidWorld_met os _)) ?_
  intro W base args ds gs before hval0 hW _ _ _ _
  have hval : ∀ (j : Nat) t v, Tryz.f6.params[j]? = some t → args[j]? = some v → Value.okWide Tryz.prog W .any base t v := hval0
  have hW' := hW
  obtain ⟨p, q, hA0, hV, rfl, hfz, hnd⟩ := hW
  have hA : DataW.TrodAll enc Tryz.prog W 0 (fun _ => true) true Tryz.f6.params.toList args.toList ds p := hA0
  rw [Tryz.params6] at hA hval
  obtain ⟨v0, vs0, d0, ds0, p0, q0, hargs, rfl, rfl, h0, r0⟩ := trodAll_cons hA
  obtain ⟨rfl, rfl, rfl⟩ := trodAll_nil r0
  obtain rfl : args = #[v0] := by cases args; simp_all
  obtain ⟨rfl, rfl⟩ := trodVars_none hV
  obtain ⟨l0, rfl, hl0, ho0⟩ := E.okStruct_one Tryz.underlying35 (hval 0 35 v0 rfl rfl)
  refine (E.SessionNil_any l0 (hl0.trans (by kernel_rfl)) ho0 W).mono fun e W' ⟨he, hb⟩ => ?_
  subst he
  exact ⟨_, rfl, law_post hW' rfl (by kernel_rfl) (by kernel_rfl) rfl Tryz.underlying4 rfl hb⟩
end Go.Proofs.YtpbndbgpimnegaaGreatDoor.sessionNil
