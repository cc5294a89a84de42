/- ServerNil: the law holds at every input; the arguments read as they did. No condition. -/
import Derived.Test.YtkjhjgokaeiopaaGreatDoorLLServerNil
namespace Go.Proofs.YtkjhjgokaeiopaaGreatDoor.serverNil
open Go.ChangeShapes Go.WideShapes Go.ChangeAt Go.RowKit
theorem c1 : Rows.serverNilRow.wfByText (OpenSpec.ofChange Rows.serverNilSpec) = true := by kernel_rfl
theorem c2 : Tryz.pinned.checked.prog.mainIs = some (true, "72082da282de2322cd5918d1c776bff238a28de1461352bff0209b86bdcd42bf".toList) := by kernel_rfl
theorem c3 : true = Tryz.pinned.checked.prog.looks [] := by kernel_rfl
theorem c4 : false = Rows.serverNilRow.goesBy Tryz.pinned.checked.prog := by kernel_rfl
theorem c5 : Tryz.prog.funcNamed Rows.serverNilRow.func = some 3 := h1
theorem c6 : ∀ (j : Nat) t, Tryz.f3.params[j]? = some t → Tryz.pinned.checked.prog.wantsStandIn t = false := fun j t ht => by
  rw [Tryz.params3] at ht
  rcases j with _ | j
  · obtain rfl : t = 3 := by simpa using ht.symm
    exact (show Tryz.prog.wantsStandIn 3 = false by kernel_rfl)
  rcases j with _ | j
  · obtain rfl : t = 22 := by simpa using ht.symm
    exact (show Tryz.prog.wantsStandIn 22 = false by kernel_rfl)
  simp at ht
theorem proved : Rows.ServerNilCardSaid :=
  Claim7.holds_tied_plain_at .later [] [.data, .data, .data, .data, .pinned] true (true, "72082da282de2322cd5918d1c776bff238a28de1461352bff0209b86bdcd42bf") true
    over (fun _ h => by cases h) c1 (fun _ h => by cases h) serverNil_row_tie rfl ⟨rfl, rfl⟩ c2 rfl
    (fun f fn hf hfn => by
      obtain rfl : f = 3 := Option.some.inj (c5.symm.trans hf) |>.symm
      obtain rfl : fn = Tryz.f3 := (Option.some.inj (Tryz.func3.symm.trans hfn)).symm
      exact ⟨c3, c6⟩)
    c4
#print axioms proved
end Go.Proofs.YtkjhjgokaeiopaaGreatDoor.serverNil
