/-
  No cell of these rows narrows 'for every input' (looked for: loops, veiled, ifaces, maps, wideKeys, modest, calm, conditions, laid).
  DERIVED. THE GIVEN ROWS OF THIS SEAT. 5 by the template 'for every input the law returns true; each argument reads behind the call as it read before'; 0 by the template 'total and deterministic' (their statements: YtpliolkifnnldaaTotals.lean).
  GIVEN WITH THE SEED: the statements are not yours to turn. If you find one false, say at which input.
  Laid BY PROGRAM, IN A SANDBOX (cutbox-rows.mjs): the forced cells as the released guide's own fill.sh prints them over the translation 8a11bdb7c6885257… (all of the seat's roots in one cut). By AI agents, Wed Nov 11 2026. No macro, syntax, notation, axiom, sorry.
-/
import Derived.Test.YtpliolkifnnldaaChecked
import GoSem.Claim
import GoSem.ClaimJoined
import GoSem.ClaimMapViews
import Derived.JoinedTies
import Derived.KernelRfl
namespace Go.Proofs.Ytpliolkifnnldaa
/- THE CELL 'sum', in the pinned program and in every row, IS THE sha256 OF THE DUMP (.gsa) THAT YtpliolkifnnldaaProg.lean LOADS. Nothing in Lean hashes anything: it is a label: what it is worth is what the hold of that sum in a sandbox is worth. -/
noncomputable def Try.pinned : Pinned := { name := "ytpliolkifnnldaa", sum := "8a11bdb7c6885257d7d300763c058eebf3a6cde90859723b25bce424a9349818", checked := Try.checked }
namespace Rows
def none {H : Type} : Left H := { results := [], args := [] }

/-- 'headgatelaw15.AddressLines': WHATEVER THE INPUT: true; the input reads as it did. -/
def addressLinesSpec : ChangeSpec := { name := "addressLines", fn := fun _ => fun
  | [d1, d2, d3] => { results := [.lit (.bool true)], args := [d1, d2, d3] }
  | _ => none }
def addressLinesRow : OpenClaim := { program := "ytpliolkifnnldaa", sum := "8a11bdb7c6885257d7d300763c058eebf3a6cde90859723b25bce424a9349818", func := "headgate/headgatelaw15.AddressLines", spec := "addressLines", apart := false }
def AddressLinesSaid : Prop := addressLinesRow.holds Try.pinned (OpenSpec.ofChange addressLinesSpec)

/-- ITS FALSE NEIGHBOUR: 'it returns false'. Refute it at one input. -/
def addressLinesWrong : ChangeSpec := { name := "addressLines", fn := fun _ => fun
  | [d1, d2, d3] => { results := [.lit (.bool false)], args := [d1, d2, d3] }
  | _ => none }
def AddressLinesWrongFalsely : Prop := addressLinesRow.holds Try.pinned (OpenSpec.ofChange addressLinesWrong)

/-- 'headgatelaw15.AddressOpens': WHATEVER THE INPUT: true; the input reads as it did. -/
def addressOpensSpec : ChangeSpec := { name := "addressOpens", fn := fun _ => fun
  | [d1, d2, d3] => { results := [.lit (.bool true)], args := [d1, d2, d3] }
  | _ => none }
def addressOpensRow : OpenClaim := { program := "ytpliolkifnnldaa", sum := "8a11bdb7c6885257d7d300763c058eebf3a6cde90859723b25bce424a9349818", func := "headgate/headgatelaw15.AddressOpens", spec := "addressOpens", apart := false }
def AddressOpensSaid : Prop := addressOpensRow.holds Try.pinned (OpenSpec.ofChange addressOpensSpec)

/-- ITS FALSE NEIGHBOUR: 'it returns false'. Refute it at one input. -/
def addressOpensWrong : ChangeSpec := { name := "addressOpens", fn := fun _ => fun
  | [d1, d2, d3] => { results := [.lit (.bool false)], args := [d1, d2, d3] }
  | _ => none }
def AddressOpensWrongFalsely : Prop := addressOpensRow.holds Try.pinned (OpenSpec.ofChange addressOpensWrong)

/-- 'headgatelaw15.AddressPatterns': WHATEVER THE INPUT: true; the input reads as it did. -/
def addressPatternsSpec : ChangeSpec := { name := "addressPatterns", fn := fun _ => fun
  | [d1, d2] => { results := [.lit (.bool true)], args := [d1, d2] }
  | _ => none }
def addressPatternsRow : OpenClaim := { program := "ytpliolkifnnldaa", sum := "8a11bdb7c6885257d7d300763c058eebf3a6cde90859723b25bce424a9349818", func := "headgate/headgatelaw15.AddressPatterns", spec := "addressPatterns", apart := false }
def AddressPatternsSaid : Prop := addressPatternsRow.holds Try.pinned (OpenSpec.ofChange addressPatternsSpec)

/-- ITS FALSE NEIGHBOUR: 'it returns false'. Refute it at one input. -/
def addressPatternsWrong : ChangeSpec := { name := "addressPatterns", fn := fun _ => fun
  | [d1, d2] => { results := [.lit (.bool false)], args := [d1, d2] }
  | _ => none }
def AddressPatternsWrongFalsely : Prop := addressPatternsRow.holds Try.pinned (OpenSpec.ofChange addressPatternsWrong)

/-- 'headgatelaw15.AddressOne': WHATEVER THE INPUT: true; the input reads as it did. -/
def addressOneSpec : ChangeSpec := { name := "addressOne", fn := fun _ => fun
  | [d1, d2, d3] => { results := [.lit (.bool true)], args := [d1, d2, d3] }
  | _ => none }
def addressOneRow : OpenClaim := { program := "ytpliolkifnnldaa", sum := "8a11bdb7c6885257d7d300763c058eebf3a6cde90859723b25bce424a9349818", func := "headgate/headgatelaw15.AddressOne", spec := "addressOne", apart := false }
def AddressOneSaid : Prop := addressOneRow.holds Try.pinned (OpenSpec.ofChange addressOneSpec)

/-- ITS FALSE NEIGHBOUR: 'it returns false'. Refute it at one input. -/
def addressOneWrong : ChangeSpec := { name := "addressOne", fn := fun _ => fun
  | [d1, d2, d3] => { results := [.lit (.bool false)], args := [d1, d2, d3] }
  | _ => none }
def AddressOneWrongFalsely : Prop := addressOneRow.holds Try.pinned (OpenSpec.ofChange addressOneWrong)

/-- 'headgatelaw15.AddressNeeds': WHATEVER THE INPUT: true; the input reads as it did. -/
def addressNeedsSpec : ChangeSpec := { name := "addressNeeds", fn := fun _ => fun
  | [d1, d2, d3] => { results := [.lit (.bool true)], args := [d1, d2, d3] }
  | _ => none }
def addressNeedsRow : OpenClaim := { program := "ytpliolkifnnldaa", sum := "8a11bdb7c6885257d7d300763c058eebf3a6cde90859723b25bce424a9349818", func := "headgate/headgatelaw15.AddressNeeds", spec := "addressNeeds", apart := false }
def AddressNeedsSaid : Prop := addressNeedsRow.holds Try.pinned (OpenSpec.ofChange addressNeedsSpec)

/-- ITS FALSE NEIGHBOUR: 'it returns false'. Refute it at one input. -/
def addressNeedsWrong : ChangeSpec := { name := "addressNeeds", fn := fun _ => fun
  | [d1, d2, d3] => { results := [.lit (.bool false)], args := [d1, d2, d3] }
  | _ => none }
def AddressNeedsWrongFalsely : Prop := addressNeedsRow.holds Try.pinned (OpenSpec.ofChange addressNeedsWrong)

/- THE SECOND FORM. 'bulk': how many values and letters a reading holds, each counted each time it is reached (what is shared counts as often as it is met; a slice's spare places count too). A statement '..UptoSaid' is the law's where the arguments, and the package variables that the reading takes, are together of bulk at most 1048576: NARROWER than '..Said'. Prove '..Said' where nothing that the law and all that it calls make is longer than what came in: it says more and counts as full. Else prove '..UptoSaid'. A law counts once. -/
mutual
def uptoBulk {H : Type} : DataW H → Nat
  | .lit (.string bytes) => bytes.length + 1
  | .lit _ => 1
  | .nil => 1
  | .ptr d => uptoBulk d + 1
  | .slice elems spare => uptoBulkAll elems + uptoBulkAll spare + 1
  | .agg parts => uptoBulkAll parts + 1
  | .iface _ d => uptoBulk d + 1
  | .map entries => uptoBulkEntries entries + 1
  | .held _ => 1
def uptoBulkAll {H : Type} : List (DataW H) → Nat
  | [] => 0
  | d :: r => uptoBulk d + uptoBulkAll r
def uptoBulkEntries {H : Type} : List (Lit × DataW H) → Nat
  | [] => 0
  | x :: r => uptoBulkEntry x + uptoBulkEntries r
def uptoBulkEntry {H : Type} : Lit × DataW H → Nat
  | (.string bytes, d) => bytes.length + uptoBulk d + 1
  | (_, d) => uptoBulk d + 1
 end
def uptoSmall : (H : Type) → List (DataW H) → Bool := fun _ ds => decide (uptoBulkAll ds ≤ 1048576)
def OpenSpec.upto (s : _root_.Go.ChangeSpec) : _root_.Go.OpenSpec := { _root_.Go.OpenSpec.ofChange s with cond := some uptoSmall }

/-- 'headgatelaw15.AddressLines', WHERE WHAT IT READS IS OF BULK AT MOST 1048576: true; the input reads as it did. -/
def addressLinesUptoRow : OpenClaim := { program := "ytpliolkifnnldaa", sum := "8a11bdb7c6885257d7d300763c058eebf3a6cde90859723b25bce424a9349818", func := "headgate/headgatelaw15.AddressLines", spec := "addressLines", apart := false, narrowed := true }
def AddressLinesUptoSaid : Prop := addressLinesUptoRow.holds Try.pinned (OpenSpec.upto addressLinesSpec)

/-- 'headgatelaw15.AddressOpens', WHERE WHAT IT READS IS OF BULK AT MOST 1048576: true; the input reads as it did. -/
def addressOpensUptoRow : OpenClaim := { program := "ytpliolkifnnldaa", sum := "8a11bdb7c6885257d7d300763c058eebf3a6cde90859723b25bce424a9349818", func := "headgate/headgatelaw15.AddressOpens", spec := "addressOpens", apart := false, narrowed := true }
def AddressOpensUptoSaid : Prop := addressOpensUptoRow.holds Try.pinned (OpenSpec.upto addressOpensSpec)

/-- 'headgatelaw15.AddressPatterns', WHERE WHAT IT READS IS OF BULK AT MOST 1048576: true; the input reads as it did. -/
def addressPatternsUptoRow : OpenClaim := { program := "ytpliolkifnnldaa", sum := "8a11bdb7c6885257d7d300763c058eebf3a6cde90859723b25bce424a9349818", func := "headgate/headgatelaw15.AddressPatterns", spec := "addressPatterns", apart := false, narrowed := true }
def AddressPatternsUptoSaid : Prop := addressPatternsUptoRow.holds Try.pinned (OpenSpec.upto addressPatternsSpec)

/-- 'headgatelaw15.AddressOne', WHERE WHAT IT READS IS OF BULK AT MOST 1048576: true; the input reads as it did. -/
def addressOneUptoRow : OpenClaim := { program := "ytpliolkifnnldaa", sum := "8a11bdb7c6885257d7d300763c058eebf3a6cde90859723b25bce424a9349818", func := "headgate/headgatelaw15.AddressOne", spec := "addressOne", apart := false, narrowed := true }
def AddressOneUptoSaid : Prop := addressOneUptoRow.holds Try.pinned (OpenSpec.upto addressOneSpec)

/-- 'headgatelaw15.AddressNeeds', WHERE WHAT IT READS IS OF BULK AT MOST 1048576: true; the input reads as it did. -/
def addressNeedsUptoRow : OpenClaim := { program := "ytpliolkifnnldaa", sum := "8a11bdb7c6885257d7d300763c058eebf3a6cde90859723b25bce424a9349818", func := "headgate/headgatelaw15.AddressNeeds", spec := "addressNeeds", apart := false, narrowed := true }
def AddressNeedsUptoSaid : Prop := addressNeedsUptoRow.holds Try.pinned (OpenSpec.upto addressNeedsSpec)

end Rows
end Go.Proofs.Ytpliolkifnnldaa
