/-
  DERIVED. GIVEN WITH THE SEED: THE CARDS: each row of YtkjhjgokaeiopaaGreatDoorRows.lean that lists a variable, with what it lists TIED to the program's text (the seventh form; the later family's looks); each row that meets fmt, with fmt's text TOLD by the authors' own Lean function (tested against real Go, not proved from fmt's source: count such statements apart). THE CARD IS WHAT COUNTS. Prove the row's statement (the work); the ties are given (YtkjhjgokaeiopaaGreatDoorTie.lean); close each card by the builder's one call (the guide's Derived/Test/ToyasCard.lean, 'card_holds'). Laid BY PROGRAM, IN A SANDBOX (cutbox-door.mjs). By AI agents, Wed Nov 11 2026. No macro, syntax, notation, axiom, sorry.
-/
import Derived.Test.YtkjhjgokaeiopaaGreatDoorRows
import GoSem.ClaimSeven
namespace Go.Proofs.YtkjhjgokaeiopaaGreatDoor
namespace Rows

/-- THE TIED CARD OF 'headgatelaw24.ServerNil'. -/
def serverNilCard : Claim7 := { stood := { row := serverNilRow, standIns := [], harness := (true, "72082da282de2322cd5918d1c776bff238a28de1461352bff0209b86bdcd42bf"), looks := true }, kinds := [], alts := [], laidByText := true, laidKinds := [.data, .data, .data, .data, .pinned], laidTests := true, laidLooks := .later }
def ServerNilCardSaid : Prop := Claim7.holds Tryz.pinned (.plain (OpenSpec.ofChange serverNilSpec)) serverNilCard

/-- THE SECOND FORM's CARD OF 'headgatelaw24.ServerNil'. -/
def serverNilUptoCard : Claim7 := { stood := { row := serverNilUptoRow, standIns := [], harness := (true, "72082da282de2322cd5918d1c776bff238a28de1461352bff0209b86bdcd42bf"), looks := true }, kinds := [], alts := [], laidByText := true, laidKinds := [.data, .data, .data, .data, .pinned], laidTests := true, laidLooks := .later }
def ServerNilUptoCardSaid : Prop := Claim7.holds Tryz.pinned (.plain (OpenSpec.upto serverNilSpec)) serverNilUptoCard
end Rows
end Go.Proofs.YtkjhjgokaeiopaaGreatDoor
