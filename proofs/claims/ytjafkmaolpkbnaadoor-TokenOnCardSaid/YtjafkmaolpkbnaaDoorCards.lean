/-
  DERIVED. GIVEN WITH THE SEED: THE CARDS: each row of YtjafkmaolpkbnaaDoorRows.lean that lists a variable, with what it lists TIED to the program's text (the seventh form; the later family's looks); each row that meets fmt, with fmt's text TOLD by the authors' own Lean function (tested against real Go, not proved from fmt's source: count such statements apart). THE CARD IS WHAT COUNTS. Prove the row's statement (the work); the ties are given (YtjafkmaolpkbnaaDoorTie.lean); close each card by the builder's one call (the guide's Derived/Test/ToyasCard.lean, 'card_holds'). Laid BY PROGRAM, IN A SANDBOX (cutbox-door.mjs). By AI agents, Wed Nov 11 2026. No macro, syntax, notation, axiom, sorry.
-/
import Derived.Test.YtjafkmaolpkbnaaDoorRows
import GoSem.ClaimSeven
namespace Go.Proofs.YtjafkmaolpkbnaaDoor
namespace Rows

/-- THE TIED CARD OF 'headgatelaw12.TokenWords'. -/
def tokenWordsCard : Claim7 := { stood := { row := tokenWordsRow, standIns := [], harness := (true, "423ebe01010a204ab26e12537dbcb496f0782aa1fac4b8974fbbf4658ffd9dcd"), looks := false }, kinds := [], alts := [], laidByText := true, laidKinds := [.data, .pinned], laidTests := true, laidLooks := .later }
def TokenWordsCardSaid : Prop := Claim7.holds Tryd.pinned (.plain (OpenSpec.ofChange tokenWordsSpec)) tokenWordsCard

/-- THE TIED CARD OF 'headgatelaw12.TokenOn'. -/
def tokenOnCard : Claim7 := { stood := { row := tokenOnRow, standIns := [], harness := (true, "423ebe01010a204ab26e12537dbcb496f0782aa1fac4b8974fbbf4658ffd9dcd"), looks := false }, kinds := [], alts := [], laidByText := true, laidKinds := [.data, .pinned], laidTests := true, laidLooks := .later }
def TokenOnCardSaid : Prop := Claim7.holds Tryd.pinned (.plain (OpenSpec.ofChange tokenOnSpec)) tokenOnCard

/-- THE TIED CARD OF 'headgatelaw12.TokenReads'. -/
def tokenReadsCard : Claim7 := { stood := { row := tokenReadsRow, standIns := [], harness := (true, "423ebe01010a204ab26e12537dbcb496f0782aa1fac4b8974fbbf4658ffd9dcd"), looks := false }, kinds := [], alts := [], laidByText := true, laidKinds := [.data, .pinned], laidTests := true, laidLooks := .later }
def TokenReadsCardSaid : Prop := Claim7.holds Tryd.pinned (.plain (OpenSpec.ofChange tokenReadsSpec)) tokenReadsCard

/-- THE SECOND FORM's CARD OF 'headgatelaw12.TokenWords'. -/
def tokenWordsUptoCard : Claim7 := { stood := { row := tokenWordsUptoRow, standIns := [], harness := (true, "423ebe01010a204ab26e12537dbcb496f0782aa1fac4b8974fbbf4658ffd9dcd"), looks := false }, kinds := [], alts := [], laidByText := true, laidKinds := [.data, .pinned], laidTests := true, laidLooks := .later }
def TokenWordsUptoCardSaid : Prop := Claim7.holds Tryd.pinned (.plain (OpenSpec.upto tokenWordsSpec)) tokenWordsUptoCard

/-- THE SECOND FORM's CARD OF 'headgatelaw12.TokenOn'. -/
def tokenOnUptoCard : Claim7 := { stood := { row := tokenOnUptoRow, standIns := [], harness := (true, "423ebe01010a204ab26e12537dbcb496f0782aa1fac4b8974fbbf4658ffd9dcd"), looks := false }, kinds := [], alts := [], laidByText := true, laidKinds := [.data, .pinned], laidTests := true, laidLooks := .later }
def TokenOnUptoCardSaid : Prop := Claim7.holds Tryd.pinned (.plain (OpenSpec.upto tokenOnSpec)) tokenOnUptoCard

/-- THE SECOND FORM's CARD OF 'headgatelaw12.TokenReads'. -/
def tokenReadsUptoCard : Claim7 := { stood := { row := tokenReadsUptoRow, standIns := [], harness := (true, "423ebe01010a204ab26e12537dbcb496f0782aa1fac4b8974fbbf4658ffd9dcd"), looks := false }, kinds := [], alts := [], laidByText := true, laidKinds := [.data, .pinned], laidTests := true, laidLooks := .later }
def TokenReadsUptoCardSaid : Prop := Claim7.holds Tryd.pinned (.plain (OpenSpec.upto tokenReadsSpec)) tokenReadsUptoCard
end Rows
end Go.Proofs.YtjafkmaolpkbnaaDoor
