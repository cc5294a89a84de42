/-
  No cell of these rows narrows 'for every input' (looked for: loops, veiled, ifaces, maps, wideKeys, modest, calm, conditions, laid).
  DERIVED. THE GIVEN ROWS OF THIS SEAT. 4 by the template 'for every input the law returns true; each argument reads behind the call as it read before'; 0 by the template 'total and deterministic' (their statements: YtpoelkfncpjmfaaTotals.lean).
  GIVEN WITH THE SEED: the statements are not yours to turn. If you find one false, say at which input.
  Laid BY PROGRAM, IN A SANDBOX (cutbox-rows.mjs): the forced cells as the released guide's own fill.sh prints them over the translation 32d370556569315c… (all of the seat's roots in one cut). By AI agents, Wed Nov 11 2026. No macro, syntax, notation, axiom, sorry.
-/
import Derived.Test.YtpoelkfncpjmfaaChecked
import GoSem.Claim
import GoSem.ClaimJoined
import GoSem.ClaimMapViews
import Derived.JoinedTies
import Derived.KernelRfl
namespace Go.Proofs.Ytpoelkfncpjmfaa
/- THE CELL 'sum', in the pinned program and in every row, IS THE sha256 OF THE DUMP (.gsa) THAT YtpoelkfncpjmfaaProg.lean LOADS. Nothing in Lean hashes anything: it is a label: what it is worth is what the hold of that sum in a sandbox is worth. -/
noncomputable def Try.pinned : Pinned := { name := "ytpoelkfncpjmfaa", sum := "32d370556569315cede008726c17f1a7bb57e9c94589279a932181f909be59a8", checked := Try.checked }
namespace Rows
def none {H : Type} : Left H := { results := [], args := [] }

/-- 'headgatelaw09.PatternPlain': WHATEVER THE INPUT: true; the input reads as it did. -/
def patternPlainSpec : ChangeSpec := { name := "patternPlain", fn := fun _ => fun
  | [d1, d2] => { results := [.lit (.bool true)], args := [d1, d2] }
  | _ => none }
def patternPlainRow : OpenClaim := { program := "ytpoelkfncpjmfaa", sum := "32d370556569315cede008726c17f1a7bb57e9c94589279a932181f909be59a8", func := "headgate/headgatelaw09.PatternPlain", spec := "patternPlain", inPlace := ["internal/bytealg.IndexByteString", "internal/bytealg.IndexString"], recurses := true, named := ["internal/bytealg.MaxLen"], apart := false }
def PatternPlainSaid : Prop := patternPlainRow.holds Try.pinned (OpenSpec.ofChange patternPlainSpec)

/-- ITS FALSE NEIGHBOUR: 'it returns false'. Refute it at one input. -/
def patternPlainWrong : ChangeSpec := { name := "patternPlain", fn := fun _ => fun
  | [d1, d2] => { results := [.lit (.bool false)], args := [d1, d2] }
  | _ => none }
def PatternPlainWrongFalsely : Prop := patternPlainRow.holds Try.pinned (OpenSpec.ofChange patternPlainWrong)

/-- 'headgatelaw09.PatternWays': WHATEVER THE INPUT: true; the input reads as it did. -/
def patternWaysSpec : ChangeSpec := { name := "patternWays", fn := fun _ => fun
  | [d] => { results := [.lit (.bool true)], args := [d] }
  | _ => none }
def patternWaysRow : OpenClaim := { program := "ytpoelkfncpjmfaa", sum := "32d370556569315cede008726c17f1a7bb57e9c94589279a932181f909be59a8", func := "headgate/headgatelaw09.PatternWays", spec := "patternWays", inPlace := ["internal/bytealg.IndexByteString", "internal/bytealg.IndexString"], recurses := true, named := ["internal/bytealg.MaxLen"], apart := false }
def PatternWaysSaid : Prop := patternWaysRow.holds Try.pinned (OpenSpec.ofChange patternWaysSpec)

/-- ITS FALSE NEIGHBOUR: 'it returns false'. Refute it at one input. -/
def patternWaysWrong : ChangeSpec := { name := "patternWays", fn := fun _ => fun
  | [d] => { results := [.lit (.bool false)], args := [d] }
  | _ => none }
def PatternWaysWrongFalsely : Prop := patternWaysRow.holds Try.pinned (OpenSpec.ofChange patternWaysWrong)

/-- 'headgatelaw09.PatternRight': WHATEVER THE INPUT: true; the input reads as it did. -/
def patternRightSpec : ChangeSpec := { name := "patternRight", fn := fun _ => fun
  | [d1, d2] => { results := [.lit (.bool true)], args := [d1, d2] }
  | _ => none }
def patternRightRow : OpenClaim := { program := "ytpoelkfncpjmfaa", sum := "32d370556569315cede008726c17f1a7bb57e9c94589279a932181f909be59a8", func := "headgate/headgatelaw09.PatternRight", spec := "patternRight", inPlace := ["internal/bytealg.IndexByteString", "internal/bytealg.IndexString"], recurses := true, named := ["internal/bytealg.MaxLen"], apart := false }
def PatternRightSaid : Prop := patternRightRow.holds Try.pinned (OpenSpec.ofChange patternRightSpec)

/-- ITS FALSE NEIGHBOUR: 'it returns false'. Refute it at one input. -/
def patternRightWrong : ChangeSpec := { name := "patternRight", fn := fun _ => fun
  | [d1, d2] => { results := [.lit (.bool false)], args := [d1, d2] }
  | _ => none }
def PatternRightWrongFalsely : Prop := patternRightRow.holds Try.pinned (OpenSpec.ofChange patternRightWrong)

/-- 'headgatelaw09.PatternEither': WHATEVER THE INPUT: true; the input reads as it did. -/
def patternEitherSpec : ChangeSpec := { name := "patternEither", fn := fun _ => fun
  | [d1, d2, d3] => { results := [.lit (.bool true)], args := [d1, d2, d3] }
  | _ => none }
def patternEitherRow : OpenClaim := { program := "ytpoelkfncpjmfaa", sum := "32d370556569315cede008726c17f1a7bb57e9c94589279a932181f909be59a8", func := "headgate/headgatelaw09.PatternEither", spec := "patternEither", inPlace := ["internal/bytealg.IndexByteString", "internal/bytealg.IndexString"], recurses := true, named := ["internal/bytealg.MaxLen"], apart := false }
def PatternEitherSaid : Prop := patternEitherRow.holds Try.pinned (OpenSpec.ofChange patternEitherSpec)

/-- ITS FALSE NEIGHBOUR: 'it returns false'. Refute it at one input. -/
def patternEitherWrong : ChangeSpec := { name := "patternEither", fn := fun _ => fun
  | [d1, d2, d3] => { results := [.lit (.bool false)], args := [d1, d2, d3] }
  | _ => none }
def PatternEitherWrongFalsely : Prop := patternEitherRow.holds Try.pinned (OpenSpec.ofChange patternEitherWrong)

/- THE SECOND FORM. 'bulk': how many values and letters a reading holds, each counted each time it is reached (what is shared counts as often as it is met; a slice's spare places count too). A statement '..UptoSaid' is the law's where the arguments, and the package variables that the reading takes, are together of bulk at most 1048576: NARROWER than '..Said'. Prove '..Said' where nothing that the law and all that it calls make is longer than what came in: it says more and counts as full. Else prove '..UptoSaid'. A law counts once. -/
mutual
def uptoBulk {H : Type} : DataW H → Nat
  | .lit (.string bytes) => bytes.length + 1
  | .lit _ => 1
  | .nil => 1
  | .ptr d => uptoBulk d + 1
  | .slice elems spare => uptoBulkAll elems + uptoBulkAll spare + 1
  | .agg parts => uptoBulkAll parts + 1
  | .iface _ d => uptoBulk d + 1
  | .map entries => uptoBulkEntries entries + 1
  | .held _ => 1
def uptoBulkAll {H : Type} : List (DataW H) → Nat
  | [] => 0
  | d :: r => uptoBulk d + uptoBulkAll r
def uptoBulkEntries {H : Type} : List (Lit × DataW H) → Nat
  | [] => 0
  | x :: r => uptoBulkEntry x + uptoBulkEntries r
def uptoBulkEntry {H : Type} : Lit × DataW H → Nat
  | (.string bytes, d) => bytes.length + uptoBulk d + 1
  | (_, d) => uptoBulk d + 1
 end
def uptoSmall : (H : Type) → List (DataW H) → Bool := fun _ ds => decide (uptoBulkAll ds ≤ 1048576)
def OpenSpec.upto (s : _root_.Go.ChangeSpec) : _root_.Go.OpenSpec := { _root_.Go.OpenSpec.ofChange s with cond := some uptoSmall }

/-- 'headgatelaw09.PatternPlain', WHERE WHAT IT READS IS OF BULK AT MOST 1048576: true; the input reads as it did. -/
def patternPlainUptoRow : OpenClaim := { program := "ytpoelkfncpjmfaa", sum := "32d370556569315cede008726c17f1a7bb57e9c94589279a932181f909be59a8", func := "headgate/headgatelaw09.PatternPlain", spec := "patternPlain", inPlace := ["internal/bytealg.IndexByteString", "internal/bytealg.IndexString"], recurses := true, named := ["internal/bytealg.MaxLen"], apart := false, narrowed := true }
def PatternPlainUptoSaid : Prop := patternPlainUptoRow.holds Try.pinned (OpenSpec.upto patternPlainSpec)

/-- 'headgatelaw09.PatternWays', WHERE WHAT IT READS IS OF BULK AT MOST 1048576: true; the input reads as it did. -/
def patternWaysUptoRow : OpenClaim := { program := "ytpoelkfncpjmfaa", sum := "32d370556569315cede008726c17f1a7bb57e9c94589279a932181f909be59a8", func := "headgate/headgatelaw09.PatternWays", spec := "patternWays", inPlace := ["internal/bytealg.IndexByteString", "internal/bytealg.IndexString"], recurses := true, named := ["internal/bytealg.MaxLen"], apart := false, narrowed := true }
def PatternWaysUptoSaid : Prop := patternWaysUptoRow.holds Try.pinned (OpenSpec.upto patternWaysSpec)

/-- 'headgatelaw09.PatternRight', WHERE WHAT IT READS IS OF BULK AT MOST 1048576: true; the input reads as it did. -/
def patternRightUptoRow : OpenClaim := { program := "ytpoelkfncpjmfaa", sum := "32d370556569315cede008726c17f1a7bb57e9c94589279a932181f909be59a8", func := "headgate/headgatelaw09.PatternRight", spec := "patternRight", inPlace := ["internal/bytealg.IndexByteString", "internal/bytealg.IndexString"], recurses := true, named := ["internal/bytealg.MaxLen"], apart := false, narrowed := true }
def PatternRightUptoSaid : Prop := patternRightUptoRow.holds Try.pinned (OpenSpec.upto patternRightSpec)

/-- 'headgatelaw09.PatternEither', WHERE WHAT IT READS IS OF BULK AT MOST 1048576: true; the input reads as it did. -/
def patternEitherUptoRow : OpenClaim := { program := "ytpoelkfncpjmfaa", sum := "32d370556569315cede008726c17f1a7bb57e9c94589279a932181f909be59a8", func := "headgate/headgatelaw09.PatternEither", spec := "patternEither", inPlace := ["internal/bytealg.IndexByteString", "internal/bytealg.IndexString"], recurses := true, named := ["internal/bytealg.MaxLen"], apart := false, narrowed := true }
def PatternEitherUptoSaid : Prop := patternEitherUptoRow.holds Try.pinned (OpenSpec.upto patternEitherSpec)

end Rows
end Go.Proofs.Ytpoelkfncpjmfaa
