/- SessionNil: what the row asks, fact by fact. -/
import Derived.Test.YtpbndbgpimnegaaGreatDoorLSessionNil
namespace Go.Proofs.YtpbndbgpimnegaaGreatDoor.sessionNil
open Go.ChangeShapes Go.WideShapes Go.ChangeAt Go.RowKit
theorem h1 : Tryz.pinned.checked.prog.funcNamed Rows.sessionNilRow.func = some 6 := by kernel_rfl
theorem h2 : Tryz.f6.isInstance Tryz.pinned.checked.prog Rows.sessionNilRow.origin Rows.sessionNilRow.targs := of_decide_eq_true (by kernel_rfl)
theorem h3 : Tryz.f6.isWrapper Tryz.pinned.checked.prog Rows.sessionNilRow.wrapper Rows.sessionNilRow.mainSum := by unfold Func.isWrapper; first | (rw [if_pos (by decide +kernel)]; kernel_rfl) | (rw [if_neg (by decide +kernel)]; exact ⟨rfl, rfl⟩)
theorem h4 : ∀ os : Os, os.Started → ∀ (H : Type) (enc : TypeId × Value → H), (∀ a b, enc a = enc b → a = b) →
    ReturnsInHanded Rows.sessionNilRow.assume Tryz.pinned.checked os 6 .any (Rows.sessionNilRow.pre enc Tryz.pinned.checked.prog Tryz.f6 (OpenSpec.ofChange Rows.sessionNilSpec)) (Rows.sessionNilSpec.post enc Tryz.pinned.checked.prog Tryz.f6 Rows.sessionNilRow.apart Rows.sessionNilRow.fresh Rows.sessionNilRow.handsOn Rows.sessionNilRow.again) := fun os started H enc _ => lifted os started H enc
theorem h5 : joinedFacts Tryz.pinned.checked.prog 6 Tryz.f6 Rows.sessionNilSpec Rows.sessionNilRow = true := joined
theorem over : Rows.sessionNilRow.holds Tryz.pinned (OpenSpec.ofChange Rows.sessionNilSpec) :=
  OpenClaim.holds_of_wide 6 Tryz.f6 rfl rfl rfl rfl rfl rfl rfl ⟨rfl, rfl, rfl, rfl, rfl⟩ rfl rfl rfl rfl rfl h1 Tryz.func6 h5 h2 h3 h4
end Go.Proofs.YtpbndbgpimnegaaGreatDoor.sessionNil
