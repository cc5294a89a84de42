/-
  DERIVED. GIVEN WITH THE SEED: THE CARDS: each row of YthikabfmgmbbcaaDoorRows.lean that lists a variable, with what it lists TIED to the program's text (the seventh form; the later family's looks); each row that meets fmt, with fmt's text TOLD by the authors' own Lean function (tested against real Go, not proved from fmt's source: count such statements apart). THE CARD IS WHAT COUNTS. Prove the row's statement (the work); the ties are given (YthikabfmgmbbcaaDoorTie.lean); close each card by the builder's one call (the guide's Derived/Test/ToyasCard.lean, 'card_holds'). Laid BY PROGRAM, IN A SANDBOX (cutbox-door.mjs). By AI agents, Wed Nov 11 2026. No macro, syntax, notation, axiom, sorry.
-/
import Derived.Test.YthikabfmgmbbcaaDoorRows
import GoSem.ClaimSeven
namespace Go.Proofs.YthikabfmgmbbcaaDoor
namespace Rows

/-- THE TIED CARD OF 'headgatelaw01.PlaceOn'. -/
def placeOnCard : Claim7 := { stood := { row := placeOnRow, standIns := [], harness := (true, "d5fc6b353cd76355c0feb2207a19cf4d31579bf3dedb7a5710e0184e68ef46b1"), looks := false }, kinds := [], alts := [], laidByText := true, laidKinds := [.data, .data, .data], laidTests := true, laidLooks := .later }
def PlaceOnCardSaid : Prop := Claim7.holds Tryd.pinned (.plain (OpenSpec.ofChange placeOnSpec)) placeOnCard

/-- THE TIED CARD OF 'headgatelaw01.PlaceMoves'. -/
def placeMovesCard : Claim7 := { stood := { row := placeMovesRow, standIns := [], harness := (true, "d5fc6b353cd76355c0feb2207a19cf4d31579bf3dedb7a5710e0184e68ef46b1"), looks := false }, kinds := [], alts := [], laidByText := true, laidKinds := [.data, .data, .data], laidTests := true, laidLooks := .later }
def PlaceMovesCardSaid : Prop := Claim7.holds Tryd.pinned (.plain (OpenSpec.ofChange placeMovesSpec)) placeMovesCard

/-- THE TIED CARD OF 'headgatelaw01.PlaceAt'. -/
def placeAtCard : Claim7 := { stood := { row := placeAtRow, standIns := [], harness := (true, "d5fc6b353cd76355c0feb2207a19cf4d31579bf3dedb7a5710e0184e68ef46b1"), looks := false }, kinds := [], alts := [], laidByText := true, laidKinds := [.data, .data, .data], laidTests := true, laidLooks := .later }
def PlaceAtCardSaid : Prop := Claim7.holds Tryd.pinned (.plain (OpenSpec.ofChange placeAtSpec)) placeAtCard

/-- THE TIED CARD OF 'headgatelaw01.PlaceTells'. -/
def placeTellsCard : Claim7 := { stood := { row := placeTellsRow, standIns := [], harness := (true, "d5fc6b353cd76355c0feb2207a19cf4d31579bf3dedb7a5710e0184e68ef46b1"), looks := false }, kinds := [], alts := [], laidByText := true, laidKinds := [.data, .data, .data], laidTests := true, laidLooks := .later }
def PlaceTellsCardSaid : Prop := Claim7.holds Tryd.pinned (.plain (OpenSpec.ofChange placeTellsSpec)) placeTellsCard

/-- THE TIED CARD OF 'headgatelaw01.PlaceLine'. -/
def placeLineCard : Claim7 := { stood := { row := placeLineRow, standIns := [], harness := (true, "d5fc6b353cd76355c0feb2207a19cf4d31579bf3dedb7a5710e0184e68ef46b1"), looks := false }, kinds := [], alts := [], laidByText := true, laidKinds := [.data, .data, .data], laidTests := true, laidLooks := .later }
def PlaceLineCardSaid : Prop := Claim7.holds Tryd.pinned (.plain (OpenSpec.ofChange placeLineSpec)) placeLineCard

/-- THE TIED CARD OF 'headgatelaw01.PlaceBack'. -/
def placeBackCard : Claim7 := { stood := { row := placeBackRow, standIns := [], harness := (true, "d5fc6b353cd76355c0feb2207a19cf4d31579bf3dedb7a5710e0184e68ef46b1"), looks := false }, kinds := [], alts := [], laidByText := true, laidKinds := [.data, .data, .data], laidTests := true, laidLooks := .later }
def PlaceBackCardSaid : Prop := Claim7.holds Tryd.pinned (.plain (OpenSpec.ofChange placeBackSpec)) placeBackCard

/-- THE SECOND FORM's CARD OF 'headgatelaw01.PlaceOn'. -/
def placeOnUptoCard : Claim7 := { stood := { row := placeOnUptoRow, standIns := [], harness := (true, "d5fc6b353cd76355c0feb2207a19cf4d31579bf3dedb7a5710e0184e68ef46b1"), looks := false }, kinds := [], alts := [], laidByText := true, laidKinds := [.data, .data, .data], laidTests := true, laidLooks := .later }
def PlaceOnUptoCardSaid : Prop := Claim7.holds Tryd.pinned (.plain (OpenSpec.upto placeOnSpec)) placeOnUptoCard

/-- THE SECOND FORM's CARD OF 'headgatelaw01.PlaceMoves'. -/
def placeMovesUptoCard : Claim7 := { stood := { row := placeMovesUptoRow, standIns := [], harness := (true, "d5fc6b353cd76355c0feb2207a19cf4d31579bf3dedb7a5710e0184e68ef46b1"), looks := false }, kinds := [], alts := [], laidByText := true, laidKinds := [.data, .data, .data], laidTests := true, laidLooks := .later }
def PlaceMovesUptoCardSaid : Prop := Claim7.holds Tryd.pinned (.plain (OpenSpec.upto placeMovesSpec)) placeMovesUptoCard

/-- THE SECOND FORM's CARD OF 'headgatelaw01.PlaceAt'. -/
def placeAtUptoCard : Claim7 := { stood := { row := placeAtUptoRow, standIns := [], harness := (true, "d5fc6b353cd76355c0feb2207a19cf4d31579bf3dedb7a5710e0184e68ef46b1"), looks := false }, kinds := [], alts := [], laidByText := true, laidKinds := [.data, .data, .data], laidTests := true, laidLooks := .later }
def PlaceAtUptoCardSaid : Prop := Claim7.holds Tryd.pinned (.plain (OpenSpec.upto placeAtSpec)) placeAtUptoCard

/-- THE SECOND FORM's CARD OF 'headgatelaw01.PlaceTells'. -/
def placeTellsUptoCard : Claim7 := { stood := { row := placeTellsUptoRow, standIns := [], harness := (true, "d5fc6b353cd76355c0feb2207a19cf4d31579bf3dedb7a5710e0184e68ef46b1"), looks := false }, kinds := [], alts := [], laidByText := true, laidKinds := [.data, .data, .data], laidTests := true, laidLooks := .later }
def PlaceTellsUptoCardSaid : Prop := Claim7.holds Tryd.pinned (.plain (OpenSpec.upto placeTellsSpec)) placeTellsUptoCard

/-- THE SECOND FORM's CARD OF 'headgatelaw01.PlaceLine'. -/
def placeLineUptoCard : Claim7 := { stood := { row := placeLineUptoRow, standIns := [], harness := (true, "d5fc6b353cd76355c0feb2207a19cf4d31579bf3dedb7a5710e0184e68ef46b1"), looks := false }, kinds := [], alts := [], laidByText := true, laidKinds := [.data, .data, .data], laidTests := true, laidLooks := .later }
def PlaceLineUptoCardSaid : Prop := Claim7.holds Tryd.pinned (.plain (OpenSpec.upto placeLineSpec)) placeLineUptoCard

/-- THE SECOND FORM's CARD OF 'headgatelaw01.PlaceBack'. -/
def placeBackUptoCard : Claim7 := { stood := { row := placeBackUptoRow, standIns := [], harness := (true, "d5fc6b353cd76355c0feb2207a19cf4d31579bf3dedb7a5710e0184e68ef46b1"), looks := false }, kinds := [], alts := [], laidByText := true, laidKinds := [.data, .data, .data], laidTests := true, laidLooks := .later }
def PlaceBackUptoCardSaid : Prop := Claim7.holds Tryd.pinned (.plain (OpenSpec.upto placeBackSpec)) placeBackUptoCard
end Rows
end Go.Proofs.YthikabfmgmbbcaaDoor
