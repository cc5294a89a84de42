/-
  No cell of these rows narrows 'for every input' (looked for: loops, veiled, ifaces, maps, wideKeys, modest, calm, conditions, laid).
  DERIVED. THE GIVEN ROWS OF THIS SEAT. 5 by the template 'for every input the law returns true; each argument reads behind the call as it read before'; 0 by the template 'total and deterministic' (their statements: YtjdmdpjbijkjaaaTotals.lean).
  GIVEN WITH THE SEED: the statements are not yours to turn. If you find one false, say at which input.
  Laid BY PROGRAM, IN A SANDBOX (cutbox-rows.mjs): the forced cells as the released guide's own fill.sh prints them over the translation 5cbb2830e4d2fe97… (all of the seat's roots in one cut). By AI agents, Wed Nov 11 2026. No macro, syntax, notation, axiom, sorry.
-/
import Derived.Test.YtjdmdpjbijkjaaaChecked
import GoSem.Claim
import GoSem.ClaimJoined
import GoSem.ClaimMapViews
import Derived.JoinedTies
import Derived.KernelRfl
namespace Go.Proofs.Ytjdmdpjbijkjaaa
/- THE CELL 'sum', in the pinned program and in every row, IS THE sha256 OF THE DUMP (.gsa) THAT YtjdmdpjbijkjaaaProg.lean LOADS. Nothing in Lean hashes anything: it is a label: what it is worth is what the hold of that sum in a sandbox is worth. -/
noncomputable def Try.pinned : Pinned := { name := "ytjdmdpjbijkjaaa", sum := "5cbb2830e4d2fe97611cf2511df130e62a0bd75778d71aa46183be6c11d902fb", checked := Try.checked }
namespace Rows
def none {H : Type} : Left H := { results := [], args := [] }

/-- 'headgatelaw11.ReplaceItself': WHATEVER THE INPUT: true; the input reads as it did. -/
def replaceItselfSpec : ChangeSpec := { name := "replaceItself", fn := fun _ => fun
  | [d1, d2, d3] => { results := [.lit (.bool true)], args := [d1, d2, d3] }
  | _ => none }
def replaceItselfRow : OpenClaim := { program := "ytjdmdpjbijkjaaa", sum := "5cbb2830e4d2fe97611cf2511df130e62a0bd75778d71aa46183be6c11d902fb", func := "headgate/headgatelaw11.ReplaceItself", spec := "replaceItself", inPlace := ["internal/bytealg.IndexByteString", "internal/bytealg.IndexString", "internal/abi.NoEscape"], unfollowed := true, recurses := true, named := ["internal/bytealg.MaxLen"], plainKeys := false, apart := false }
def ReplaceItselfSaid : Prop := replaceItselfRow.holds Try.pinned (OpenSpec.ofChange replaceItselfSpec)

/-- ITS FALSE NEIGHBOUR: 'it returns false'. Refute it at one input. -/
def replaceItselfWrong : ChangeSpec := { name := "replaceItself", fn := fun _ => fun
  | [d1, d2, d3] => { results := [.lit (.bool false)], args := [d1, d2, d3] }
  | _ => none }
def ReplaceItselfWrongFalsely : Prop := replaceItselfRow.holds Try.pinned (OpenSpec.ofChange replaceItselfWrong)

/-- 'headgatelaw11.ReplaceBetween': WHATEVER THE INPUT: true; the input reads as it did. -/
def replaceBetweenSpec : ChangeSpec := { name := "replaceBetween", fn := fun _ => fun
  | [d1, d2, d3] => { results := [.lit (.bool true)], args := [d1, d2, d3] }
  | _ => none }
def replaceBetweenRow : OpenClaim := { program := "ytjdmdpjbijkjaaa", sum := "5cbb2830e4d2fe97611cf2511df130e62a0bd75778d71aa46183be6c11d902fb", func := "headgate/headgatelaw11.ReplaceBetween", spec := "replaceBetween", inPlace := ["internal/bytealg.IndexByteString", "internal/bytealg.IndexString", "internal/abi.NoEscape"], unfollowed := true, recurses := true, named := ["internal/bytealg.MaxLen"], plainKeys := false, apart := false }
def ReplaceBetweenSaid : Prop := replaceBetweenRow.holds Try.pinned (OpenSpec.ofChange replaceBetweenSpec)

/-- ITS FALSE NEIGHBOUR: 'it returns false'. Refute it at one input. -/
def replaceBetweenWrong : ChangeSpec := { name := "replaceBetween", fn := fun _ => fun
  | [d1, d2, d3] => { results := [.lit (.bool false)], args := [d1, d2, d3] }
  | _ => none }
def ReplaceBetweenWrongFalsely : Prop := replaceBetweenRow.holds Try.pinned (OpenSpec.ofChange replaceBetweenWrong)

/-- 'headgatelaw11.ReplaceLong': WHATEVER THE INPUT: true; the input reads as it did. -/
def replaceLongSpec : ChangeSpec := { name := "replaceLong", fn := fun _ => fun
  | [d1, d2] => { results := [.lit (.bool true)], args := [d1, d2] }
  | _ => none }
def replaceLongRow : OpenClaim := { program := "ytjdmdpjbijkjaaa", sum := "5cbb2830e4d2fe97611cf2511df130e62a0bd75778d71aa46183be6c11d902fb", func := "headgate/headgatelaw11.ReplaceLong", spec := "replaceLong", inPlace := ["internal/bytealg.IndexByteString", "internal/bytealg.IndexString", "internal/abi.NoEscape"], unfollowed := true, recurses := true, named := ["internal/bytealg.MaxLen"], plainKeys := false, apart := false }
def ReplaceLongSaid : Prop := replaceLongRow.holds Try.pinned (OpenSpec.ofChange replaceLongSpec)

/-- ITS FALSE NEIGHBOUR: 'it returns false'. Refute it at one input. -/
def replaceLongWrong : ChangeSpec := { name := "replaceLong", fn := fun _ => fun
  | [d1, d2] => { results := [.lit (.bool false)], args := [d1, d2] }
  | _ => none }
def ReplaceLongWrongFalsely : Prop := replaceLongRow.holds Try.pinned (OpenSpec.ofChange replaceLongWrong)

/-- 'headgatelaw11.ReplaceCounts': WHATEVER THE INPUT: true; the input reads as it did. -/
def replaceCountsSpec : ChangeSpec := { name := "replaceCounts", fn := fun _ => fun
  | [d1, d2, d3] => { results := [.lit (.bool true)], args := [d1, d2, d3] }
  | _ => none }
def replaceCountsRow : OpenClaim := { program := "ytjdmdpjbijkjaaa", sum := "5cbb2830e4d2fe97611cf2511df130e62a0bd75778d71aa46183be6c11d902fb", func := "headgate/headgatelaw11.ReplaceCounts", spec := "replaceCounts", inPlace := ["internal/bytealg.IndexByteString", "internal/bytealg.IndexString", "internal/abi.NoEscape"], unfollowed := true, recurses := true, named := ["internal/bytealg.MaxLen"], plainKeys := false, apart := false }
def ReplaceCountsSaid : Prop := replaceCountsRow.holds Try.pinned (OpenSpec.ofChange replaceCountsSpec)

/-- ITS FALSE NEIGHBOUR: 'it returns false'. Refute it at one input. -/
def replaceCountsWrong : ChangeSpec := { name := "replaceCounts", fn := fun _ => fun
  | [d1, d2, d3] => { results := [.lit (.bool false)], args := [d1, d2, d3] }
  | _ => none }
def ReplaceCountsWrongFalsely : Prop := replaceCountsRow.holds Try.pinned (OpenSpec.ofChange replaceCountsWrong)

/-- 'headgatelaw11.ReplaceParses': WHATEVER THE INPUT: true; the input reads as it did. -/
def replaceParsesSpec : ChangeSpec := { name := "replaceParses", fn := fun _ => fun
  | [d1, d2, d3] => { results := [.lit (.bool true)], args := [d1, d2, d3] }
  | _ => none }
def replaceParsesRow : OpenClaim := { program := "ytjdmdpjbijkjaaa", sum := "5cbb2830e4d2fe97611cf2511df130e62a0bd75778d71aa46183be6c11d902fb", func := "headgate/headgatelaw11.ReplaceParses", spec := "replaceParses", inPlace := ["internal/bytealg.IndexByteString", "internal/bytealg.IndexString", "internal/abi.NoEscape"], unfollowed := true, recurses := true, named := ["internal/bytealg.MaxLen"], plainKeys := false, apart := false }
def ReplaceParsesSaid : Prop := replaceParsesRow.holds Try.pinned (OpenSpec.ofChange replaceParsesSpec)

/-- ITS FALSE NEIGHBOUR: 'it returns false'. Refute it at one input. -/
def replaceParsesWrong : ChangeSpec := { name := "replaceParses", fn := fun _ => fun
  | [d1, d2, d3] => { results := [.lit (.bool false)], args := [d1, d2, d3] }
  | _ => none }
def ReplaceParsesWrongFalsely : Prop := replaceParsesRow.holds Try.pinned (OpenSpec.ofChange replaceParsesWrong)

/- THE SECOND FORM. 'bulk': how many values and letters a reading holds, each counted each time it is reached (what is shared counts as often as it is met; a slice's spare places count too). A statement '..UptoSaid' is the law's where the arguments, and the package variables that the reading takes, are together of bulk at most 1048576: NARROWER than '..Said'. Prove '..Said' where nothing that the law and all that it calls make is longer than what came in: it says more and counts as full. Else prove '..UptoSaid'. A law counts once. -/
mutual
def uptoBulk {H : Type} : DataW H → Nat
  | .lit (.string bytes) => bytes.length + 1
  | .lit _ => 1
  | .nil => 1
  | .ptr d => uptoBulk d + 1
  | .slice elems spare => uptoBulkAll elems + uptoBulkAll spare + 1
  | .agg parts => uptoBulkAll parts + 1
  | .iface _ d => uptoBulk d + 1
  | .map entries => uptoBulkEntries entries + 1
  | .held _ => 1
def uptoBulkAll {H : Type} : List (DataW H) → Nat
  | [] => 0
  | d :: r => uptoBulk d + uptoBulkAll r
def uptoBulkEntries {H : Type} : List (Lit × DataW H) → Nat
  | [] => 0
  | x :: r => uptoBulkEntry x + uptoBulkEntries r
def uptoBulkEntry {H : Type} : Lit × DataW H → Nat
  | (.string bytes, d) => bytes.length + uptoBulk d + 1
  | (_, d) => uptoBulk d + 1
 end
def uptoSmall : (H : Type) → List (DataW H) → Bool := fun _ ds => decide (uptoBulkAll ds ≤ 1048576)
def OpenSpec.upto (s : _root_.Go.ChangeSpec) : _root_.Go.OpenSpec := { _root_.Go.OpenSpec.ofChange s with cond := some uptoSmall }

/-- 'headgatelaw11.ReplaceItself', WHERE WHAT IT READS IS OF BULK AT MOST 1048576: true; the input reads as it did. -/
def replaceItselfUptoRow : OpenClaim := { program := "ytjdmdpjbijkjaaa", sum := "5cbb2830e4d2fe97611cf2511df130e62a0bd75778d71aa46183be6c11d902fb", func := "headgate/headgatelaw11.ReplaceItself", spec := "replaceItself", inPlace := ["internal/bytealg.IndexByteString", "internal/bytealg.IndexString", "internal/abi.NoEscape"], unfollowed := true, recurses := true, named := ["internal/bytealg.MaxLen"], plainKeys := false, apart := false, narrowed := true }
def ReplaceItselfUptoSaid : Prop := replaceItselfUptoRow.holds Try.pinned (OpenSpec.upto replaceItselfSpec)

/-- 'headgatelaw11.ReplaceBetween', WHERE WHAT IT READS IS OF BULK AT MOST 1048576: true; the input reads as it did. -/
def replaceBetweenUptoRow : OpenClaim := { program := "ytjdmdpjbijkjaaa", sum := "5cbb2830e4d2fe97611cf2511df130e62a0bd75778d71aa46183be6c11d902fb", func := "headgate/headgatelaw11.ReplaceBetween", spec := "replaceBetween", inPlace := ["internal/bytealg.IndexByteString", "internal/bytealg.IndexString", "internal/abi.NoEscape"], unfollowed := true, recurses := true, named := ["internal/bytealg.MaxLen"], plainKeys := false, apart := false, narrowed := true }
def ReplaceBetweenUptoSaid : Prop := replaceBetweenUptoRow.holds Try.pinned (OpenSpec.upto replaceBetweenSpec)

/-- 'headgatelaw11.ReplaceLong', WHERE WHAT IT READS IS OF BULK AT MOST 1048576: true; the input reads as it did. -/
def replaceLongUptoRow : OpenClaim := { program := "ytjdmdpjbijkjaaa", sum := "5cbb2830e4d2fe97611cf2511df130e62a0bd75778d71aa46183be6c11d902fb", func := "headgate/headgatelaw11.ReplaceLong", spec := "replaceLong", inPlace := ["internal/bytealg.IndexByteString", "internal/bytealg.IndexString", "internal/abi.NoEscape"], unfollowed := true, recurses := true, named := ["internal/bytealg.MaxLen"], plainKeys := false, apart := false, narrowed := true }
def ReplaceLongUptoSaid : Prop := replaceLongUptoRow.holds Try.pinned (OpenSpec.upto replaceLongSpec)

/-- 'headgatelaw11.ReplaceCounts', WHERE WHAT IT READS IS OF BULK AT MOST 1048576: true; the input reads as it did. -/
def replaceCountsUptoRow : OpenClaim := { program := "ytjdmdpjbijkjaaa", sum := "5cbb2830e4d2fe97611cf2511df130e62a0bd75778d71aa46183be6c11d902fb", func := "headgate/headgatelaw11.ReplaceCounts", spec := "replaceCounts", inPlace := ["internal/bytealg.IndexByteString", "internal/bytealg.IndexString", "internal/abi.NoEscape"], unfollowed := true, recurses := true, named := ["internal/bytealg.MaxLen"], plainKeys := false, apart := false, narrowed := true }
def ReplaceCountsUptoSaid : Prop := replaceCountsUptoRow.holds Try.pinned (OpenSpec.upto replaceCountsSpec)

/-- 'headgatelaw11.ReplaceParses', WHERE WHAT IT READS IS OF BULK AT MOST 1048576: true; the input reads as it did. -/
def replaceParsesUptoRow : OpenClaim := { program := "ytjdmdpjbijkjaaa", sum := "5cbb2830e4d2fe97611cf2511df130e62a0bd75778d71aa46183be6c11d902fb", func := "headgate/headgatelaw11.ReplaceParses", spec := "replaceParses", inPlace := ["internal/bytealg.IndexByteString", "internal/bytealg.IndexString", "internal/abi.NoEscape"], unfollowed := true, recurses := true, named := ["internal/bytealg.MaxLen"], plainKeys := false, apart := false, narrowed := true }
def ReplaceParsesUptoSaid : Prop := replaceParsesUptoRow.holds Try.pinned (OpenSpec.upto replaceParsesSpec)

end Rows
end Go.Proofs.Ytjdmdpjbijkjaaa
