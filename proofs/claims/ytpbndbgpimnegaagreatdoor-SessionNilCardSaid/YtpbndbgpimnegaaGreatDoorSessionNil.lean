/- SessionNil: the law holds at every input; the arguments read as they did. No condition. -/
import Derived.Test.YtpbndbgpimnegaaGreatDoorLLSessionNil
namespace Go.Proofs.YtpbndbgpimnegaaGreatDoor.sessionNil
open Go.ChangeShapes Go.WideShapes Go.ChangeAt Go.RowKit
theorem c1 : Rows.sessionNilRow.wfByText (OpenSpec.ofChange Rows.sessionNilSpec) = true := by kernel_rfl
theorem c2 : Tryz.pinned.checked.prog.mainIs = some (true, "ff7354288355cb9f0fec0f603c0b441d7fb31971ce91460d1f41cac73a5fd40b".toList) := by kernel_rfl
theorem c3 : true = Tryz.pinned.checked.prog.looks [] := by kernel_rfl
theorem c4 : false = Rows.sessionNilRow.goesBy Tryz.pinned.checked.prog := by kernel_rfl
theorem c5 : Tryz.prog.funcNamed Rows.sessionNilRow.func = some 6 := h1
theorem c6 : ∀ (j : Nat) t, Tryz.f6.params[j]? = some t → Tryz.pinned.checked.prog.wantsStandIn t = false := fun j t ht => by
  rw [Tryz.params6] at ht
  rcases j with _ | j
  · obtain rfl : t = 35 := by simpa using ht.symm
    exact (show Tryz.prog.wantsStandIn 35 = false by kernel_rfl)
  simp at ht
theorem proved : Rows.SessionNilCardSaid :=
  Claim7.holds_tied_plain_at .later [] [.data, .data, .data, .data, .pinned] true (true, "ff7354288355cb9f0fec0f603c0b441d7fb31971ce91460d1f41cac73a5fd40b") true
    over (fun _ h => by cases h) c1 (fun _ h => by cases h) sessionNil_row_tie rfl ⟨rfl, rfl⟩ c2 rfl
    (fun f fn hf hfn => by
      obtain rfl : f = 6 := Option.some.inj (c5.symm.trans hf) |>.symm
      obtain rfl : fn = Tryz.f6 := (Option.some.inj (Tryz.func6.symm.trans hfn)).symm
      exact ⟨c3, c6⟩)
    c4
#print axioms proved
end Go.Proofs.YtpbndbgpimnegaaGreatDoor.sessionNil
