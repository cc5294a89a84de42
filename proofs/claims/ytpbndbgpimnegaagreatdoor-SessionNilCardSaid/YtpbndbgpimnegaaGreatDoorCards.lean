/-
  DERIVED. GIVEN WITH THE SEED: THE CARDS: each row of YtpbndbgpimnegaaGreatDoorRows.lean that lists a variable, with what it lists TIED to the program's text (the seventh form; the later family's looks); each row that meets fmt, with fmt's text TOLD by the authors' own Lean function (tested against real Go, not proved from fmt's source: count such statements apart). THE CARD IS WHAT COUNTS. Prove the row's statement (the work); the ties are given (YtpbndbgpimnegaaGreatDoorTie.lean); close each card by the builder's one call (the guide's Derived/Test/ToyasCard.lean, 'card_holds'). Laid BY PROGRAM, IN A SANDBOX (cutbox-door.mjs). By AI agents, Wed Nov 11 2026. No macro, syntax, notation, axiom, sorry.
-/
import Derived.Test.YtpbndbgpimnegaaGreatDoorRows
import GoSem.ClaimSeven
namespace Go.Proofs.YtpbndbgpimnegaaGreatDoor
namespace Rows

/-- THE TIED CARD OF 'headgatelaw19.SessionSerial'. -/
def sessionSerialCard : Claim7 := { stood := { row := sessionSerialRow, standIns := [], harness := (true, "ff7354288355cb9f0fec0f603c0b441d7fb31971ce91460d1f41cac73a5fd40b"), looks := true }, kinds := [], alts := [], laidByText := true, laidKinds := [.data, .data, .data, .data, .pinned], laidTests := true, laidLooks := .later }
def SessionSerialCardSaid : Prop := Claim7.holds Tryz.pinned (.plain (OpenSpec.ofChange sessionSerialSpec)) sessionSerialCard

/-- THE TIED CARD OF 'headgatelaw19.SessionFirst'. -/
def sessionFirstCard : Claim7 := { stood := { row := sessionFirstRow, standIns := [], harness := (true, "ff7354288355cb9f0fec0f603c0b441d7fb31971ce91460d1f41cac73a5fd40b"), looks := true }, kinds := [], alts := [], laidByText := true, laidKinds := [.data, .data, .data, .data, .pinned], laidTests := true, laidLooks := .later }
def SessionFirstCardSaid : Prop := Claim7.holds Tryz.pinned (.plain (OpenSpec.ofChange sessionFirstSpec)) sessionFirstCard

/-- THE TIED CARD OF 'headgatelaw19.SessionReads'. -/
def sessionReadsCard : Claim7 := { stood := { row := sessionReadsRow, standIns := [], harness := (true, "ff7354288355cb9f0fec0f603c0b441d7fb31971ce91460d1f41cac73a5fd40b"), looks := true }, kinds := [], alts := [], laidByText := true, laidKinds := [.data, .data, .data, .data, .pinned], laidTests := true, laidLooks := .later }
def SessionReadsCardSaid : Prop := Claim7.holds Tryz.pinned (.plain (OpenSpec.ofChange sessionReadsSpec)) sessionReadsCard

/-- THE TIED CARD OF 'headgatelaw19.SessionNil'. -/
def sessionNilCard : Claim7 := { stood := { row := sessionNilRow, standIns := [], harness := (true, "ff7354288355cb9f0fec0f603c0b441d7fb31971ce91460d1f41cac73a5fd40b"), looks := true }, kinds := [], alts := [], laidByText := true, laidKinds := [.data, .data, .data, .data, .pinned], laidTests := true, laidLooks := .later }
def SessionNilCardSaid : Prop := Claim7.holds Tryz.pinned (.plain (OpenSpec.ofChange sessionNilSpec)) sessionNilCard

/-- THE SECOND FORM's CARD OF 'headgatelaw19.SessionSerial'. -/
def sessionSerialUptoCard : Claim7 := { stood := { row := sessionSerialUptoRow, standIns := [], harness := (true, "ff7354288355cb9f0fec0f603c0b441d7fb31971ce91460d1f41cac73a5fd40b"), looks := true }, kinds := [], alts := [], laidByText := true, laidKinds := [.data, .data, .data, .data, .pinned], laidTests := true, laidLooks := .later }
def SessionSerialUptoCardSaid : Prop := Claim7.holds Tryz.pinned (.plain (OpenSpec.upto sessionSerialSpec)) sessionSerialUptoCard

/-- THE SECOND FORM's CARD OF 'headgatelaw19.SessionFirst'. -/
def sessionFirstUptoCard : Claim7 := { stood := { row := sessionFirstUptoRow, standIns := [], harness := (true, "ff7354288355cb9f0fec0f603c0b441d7fb31971ce91460d1f41cac73a5fd40b"), looks := true }, kinds := [], alts := [], laidByText := true, laidKinds := [.data, .data, .data, .data, .pinned], laidTests := true, laidLooks := .later }
def SessionFirstUptoCardSaid : Prop := Claim7.holds Tryz.pinned (.plain (OpenSpec.upto sessionFirstSpec)) sessionFirstUptoCard

/-- THE SECOND FORM's CARD OF 'headgatelaw19.SessionReads'. -/
def sessionReadsUptoCard : Claim7 := { stood := { row := sessionReadsUptoRow, standIns := [], harness := (true, "ff7354288355cb9f0fec0f603c0b441d7fb31971ce91460d1f41cac73a5fd40b"), looks := true }, kinds := [], alts := [], laidByText := true, laidKinds := [.data, .data, .data, .data, .pinned], laidTests := true, laidLooks := .later }
def SessionReadsUptoCardSaid : Prop := Claim7.holds Tryz.pinned (.plain (OpenSpec.upto sessionReadsSpec)) sessionReadsUptoCard

/-- THE SECOND FORM's CARD OF 'headgatelaw19.SessionNil'. -/
def sessionNilUptoCard : Claim7 := { stood := { row := sessionNilUptoRow, standIns := [], harness := (true, "ff7354288355cb9f0fec0f603c0b441d7fb31971ce91460d1f41cac73a5fd40b"), looks := true }, kinds := [], alts := [], laidByText := true, laidKinds := [.data, .data, .data, .data, .pinned], laidTests := true, laidLooks := .later }
def SessionNilUptoCardSaid : Prop := Claim7.holds Tryz.pinned (.plain (OpenSpec.upto sessionNilSpec)) sessionNilUptoCard
end Rows
end Go.Proofs.YtpbndbgpimnegaaGreatDoor
