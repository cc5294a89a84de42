/- ServerNil: what the row asks, fact by fact. -/
import Derived.Test.YtkjhjgokaeiopaaGreatDoorLServerNil
namespace Go.Proofs.YtkjhjgokaeiopaaGreatDoor.serverNil
open Go.ChangeShapes Go.WideShapes Go.ChangeAt Go.RowKit
theorem h1 : Tryz.pinned.checked.prog.funcNamed Rows.serverNilRow.func = some 3 := by kernel_rfl
theorem h2 : Tryz.f3.isInstance Tryz.pinned.checked.prog Rows.serverNilRow.origin Rows.serverNilRow.targs := of_decide_eq_true (by kernel_rfl)
theorem h3 : Tryz.f3.isWrapper Tryz.pinned.checked.prog Rows.serverNilRow.wrapper Rows.serverNilRow.mainSum := by unfold Func.isWrapper; first | (rw [if_pos (by decide +kernel)]; kernel_rfl) | (rw [if_neg (by decide +kernel)]; exact ⟨rfl, rfl⟩)
theorem h4 : ∀ os : Os, os.Started → ∀ (H : Type) (enc : TypeId × Value → H), (∀ a b, enc a = enc b → a = b) →
    ReturnsInHanded Rows.serverNilRow.assume Tryz.pinned.checked os 3 .any (Rows.serverNilRow.pre enc Tryz.pinned.checked.prog Tryz.f3 (OpenSpec.ofChange Rows.serverNilSpec)) (Rows.serverNilSpec.post enc Tryz.pinned.checked.prog Tryz.f3 Rows.serverNilRow.apart Rows.serverNilRow.fresh Rows.serverNilRow.handsOn Rows.serverNilRow.again) := fun os started H enc _ => lifted os started H enc
theorem h5 : joinedFacts Tryz.pinned.checked.prog 3 Tryz.f3 Rows.serverNilSpec Rows.serverNilRow = true := joined
theorem over : Rows.serverNilRow.holds Tryz.pinned (OpenSpec.ofChange Rows.serverNilSpec) :=
  OpenClaim.holds_of_wide 3 Tryz.f3 rfl rfl rfl rfl rfl rfl rfl ⟨rfl, rfl, rfl, rfl, rfl⟩ rfl rfl rfl rfl rfl h1 Tryz.func3 h5 h2 h3 h4
end Go.Proofs.YtkjhjgokaeiopaaGreatDoor.serverNil
