/-
  No cell of these rows narrows 'for every input' (looked for: loops, veiled, ifaces, maps, wideKeys, modest, calm, conditions, laid).
  DERIVED. THE GIVEN ROWS OF THIS SEAT. 4 by the template 'for every input the law returns true; each argument reads behind the call as it read before'; 0 by the template 'total and deterministic' (their statements: YtjafkmaolpkbnaaTotals.lean).
  GIVEN WITH THE SEED: the statements are not yours to turn. If you find one false, say at which input.
  Laid BY PROGRAM, IN A SANDBOX (cutbox-rows.mjs): the forced cells as the released guide's own fill.sh prints them over the translation 57461b18647da466… (all of the seat's roots in one cut). By AI agents, Wed Nov 11 2026. No macro, syntax, notation, axiom, sorry.
-/
import Derived.Test.YtjafkmaolpkbnaaChecked
import GoSem.Claim
import GoSem.ClaimJoined
import GoSem.ClaimMapViews
import Derived.JoinedTies
import Derived.KernelRfl
namespace Go.Proofs.Ytjafkmaolpkbnaa
/- THE CELL 'sum', in the pinned program and in every row, IS THE sha256 OF THE DUMP (.gsa) THAT YtjafkmaolpkbnaaProg.lean LOADS. Nothing in Lean hashes anything: it is a label: what it is worth is what the hold of that sum in a sandbox is worth. -/
noncomputable def Try.pinned : Pinned := { name := "ytjafkmaolpkbnaa", sum := "57461b18647da466ce38f1eda5669730ca272fd4082ca2d3ae4827a13c4785d0", checked := Try.checked }
namespace Rows
def none {H : Type} : Left H := { results := [], args := [] }

/-- 'headgatelaw12.TokenCuts': WHATEVER THE INPUT: true; the input reads as it did. -/
def tokenCutsSpec : ChangeSpec := { name := "tokenCuts", fn := fun _ => fun
  | [d1, d2, d3] => { results := [.lit (.bool true)], args := [d1, d2, d3] }
  | _ => none }
def tokenCutsRow : OpenClaim := { program := "ytjafkmaolpkbnaa", sum := "57461b18647da466ce38f1eda5669730ca272fd4082ca2d3ae4827a13c4785d0", func := "headgate/headgatelaw12.TokenCuts", spec := "tokenCuts", inPlace := ["internal/bytealg.IndexByteString"], apart := false }
def TokenCutsSaid : Prop := tokenCutsRow.holds Try.pinned (OpenSpec.ofChange tokenCutsSpec)

/-- ITS FALSE NEIGHBOUR: 'it returns false'. Refute it at one input. -/
def tokenCutsWrong : ChangeSpec := { name := "tokenCuts", fn := fun _ => fun
  | [d1, d2, d3] => { results := [.lit (.bool false)], args := [d1, d2, d3] }
  | _ => none }
def TokenCutsWrongFalsely : Prop := tokenCutsRow.holds Try.pinned (OpenSpec.ofChange tokenCutsWrong)

/-- 'headgatelaw12.TokenBack': WHATEVER THE INPUT: true; the input reads as it did. -/
def tokenBackSpec : ChangeSpec := { name := "tokenBack", fn := fun _ => fun
  | [d1, d2, d3] => { results := [.lit (.bool true)], args := [d1, d2, d3] }
  | _ => none }
def tokenBackRow : OpenClaim := { program := "ytjafkmaolpkbnaa", sum := "57461b18647da466ce38f1eda5669730ca272fd4082ca2d3ae4827a13c4785d0", func := "headgate/headgatelaw12.TokenBack", spec := "tokenBack", inPlace := ["internal/bytealg.IndexByteString"], apart := false }
def TokenBackSaid : Prop := tokenBackRow.holds Try.pinned (OpenSpec.ofChange tokenBackSpec)

/-- ITS FALSE NEIGHBOUR: 'it returns false'. Refute it at one input. -/
def tokenBackWrong : ChangeSpec := { name := "tokenBack", fn := fun _ => fun
  | [d1, d2, d3] => { results := [.lit (.bool false)], args := [d1, d2, d3] }
  | _ => none }
def TokenBackWrongFalsely : Prop := tokenBackRow.holds Try.pinned (OpenSpec.ofChange tokenBackWrong)

/-- 'headgatelaw12.TokenNumbers': WHATEVER THE INPUT: true; the input reads as it did. -/
def tokenNumbersSpec : ChangeSpec := { name := "tokenNumbers", fn := fun _ => fun
  | [d1, d2, d3] => { results := [.lit (.bool true)], args := [d1, d2, d3] }
  | _ => none }
def tokenNumbersRow : OpenClaim := { program := "ytjafkmaolpkbnaa", sum := "57461b18647da466ce38f1eda5669730ca272fd4082ca2d3ae4827a13c4785d0", func := "headgate/headgatelaw12.TokenNumbers", spec := "tokenNumbers", inPlace := ["internal/bytealg.IndexByteString"], apart := false }
def TokenNumbersSaid : Prop := tokenNumbersRow.holds Try.pinned (OpenSpec.ofChange tokenNumbersSpec)

/-- ITS FALSE NEIGHBOUR: 'it returns false'. Refute it at one input. -/
def tokenNumbersWrong : ChangeSpec := { name := "tokenNumbers", fn := fun _ => fun
  | [d1, d2, d3] => { results := [.lit (.bool false)], args := [d1, d2, d3] }
  | _ => none }
def TokenNumbersWrongFalsely : Prop := tokenNumbersRow.holds Try.pinned (OpenSpec.ofChange tokenNumbersWrong)

/-- 'headgatelaw12.TokenLines': WHATEVER THE INPUT: true; the input reads as it did. -/
def tokenLinesSpec : ChangeSpec := { name := "tokenLines", fn := fun _ => fun
  | [d1, d2] => { results := [.lit (.bool true)], args := [d1, d2] }
  | _ => none }
def tokenLinesRow : OpenClaim := { program := "ytjafkmaolpkbnaa", sum := "57461b18647da466ce38f1eda5669730ca272fd4082ca2d3ae4827a13c4785d0", func := "headgate/headgatelaw12.TokenLines", spec := "tokenLines", inPlace := ["internal/bytealg.IndexByteString"], apart := false }
def TokenLinesSaid : Prop := tokenLinesRow.holds Try.pinned (OpenSpec.ofChange tokenLinesSpec)

/-- ITS FALSE NEIGHBOUR: 'it returns false'. Refute it at one input. -/
def tokenLinesWrong : ChangeSpec := { name := "tokenLines", fn := fun _ => fun
  | [d1, d2] => { results := [.lit (.bool false)], args := [d1, d2] }
  | _ => none }
def TokenLinesWrongFalsely : Prop := tokenLinesRow.holds Try.pinned (OpenSpec.ofChange tokenLinesWrong)

/- THE SECOND FORM. 'bulk': how many values and letters a reading holds, each counted each time it is reached (what is shared counts as often as it is met; a slice's spare places count too). A statement '..UptoSaid' is the law's where the arguments, and the package variables that the reading takes, are together of bulk at most 1048576: NARROWER than '..Said'. Prove '..Said' where nothing that the law and all that it calls make is longer than what came in: it says more and counts as full. Else prove '..UptoSaid'. A law counts once. -/
mutual
def uptoBulk {H : Type} : DataW H → Nat
  | .lit (.string bytes) => bytes.length + 1
  | .lit _ => 1
  | .nil => 1
  | .ptr d => uptoBulk d + 1
  | .slice elems spare => uptoBulkAll elems + uptoBulkAll spare + 1
  | .agg parts => uptoBulkAll parts + 1
  | .iface _ d => uptoBulk d + 1
  | .map entries => uptoBulkEntries entries + 1
  | .held _ => 1
def uptoBulkAll {H : Type} : List (DataW H) → Nat
  | [] => 0
  | d :: r => uptoBulk d + uptoBulkAll r
def uptoBulkEntries {H : Type} : List (Lit × DataW H) → Nat
  | [] => 0
  | x :: r => uptoBulkEntry x + uptoBulkEntries r
def uptoBulkEntry {H : Type} : Lit × DataW H → Nat
  | (.string bytes, d) => bytes.length + uptoBulk d + 1
  | (_, d) => uptoBulk d + 1
 end
def uptoSmall : (H : Type) → List (DataW H) → Bool := fun _ ds => decide (uptoBulkAll ds ≤ 1048576)
def OpenSpec.upto (s : _root_.Go.ChangeSpec) : _root_.Go.OpenSpec := { _root_.Go.OpenSpec.ofChange s with cond := some uptoSmall }

/-- 'headgatelaw12.TokenCuts', WHERE WHAT IT READS IS OF BULK AT MOST 1048576: true; the input reads as it did. -/
def tokenCutsUptoRow : OpenClaim := { program := "ytjafkmaolpkbnaa", sum := "57461b18647da466ce38f1eda5669730ca272fd4082ca2d3ae4827a13c4785d0", func := "headgate/headgatelaw12.TokenCuts", spec := "tokenCuts", inPlace := ["internal/bytealg.IndexByteString"], apart := false, narrowed := true }
def TokenCutsUptoSaid : Prop := tokenCutsUptoRow.holds Try.pinned (OpenSpec.upto tokenCutsSpec)

/-- 'headgatelaw12.TokenBack', WHERE WHAT IT READS IS OF BULK AT MOST 1048576: true; the input reads as it did. -/
def tokenBackUptoRow : OpenClaim := { program := "ytjafkmaolpkbnaa", sum := "57461b18647da466ce38f1eda5669730ca272fd4082ca2d3ae4827a13c4785d0", func := "headgate/headgatelaw12.TokenBack", spec := "tokenBack", inPlace := ["internal/bytealg.IndexByteString"], apart := false, narrowed := true }
def TokenBackUptoSaid : Prop := tokenBackUptoRow.holds Try.pinned (OpenSpec.upto tokenBackSpec)

/-- 'headgatelaw12.TokenNumbers', WHERE WHAT IT READS IS OF BULK AT MOST 1048576: true; the input reads as it did. -/
def tokenNumbersUptoRow : OpenClaim := { program := "ytjafkmaolpkbnaa", sum := "57461b18647da466ce38f1eda5669730ca272fd4082ca2d3ae4827a13c4785d0", func := "headgate/headgatelaw12.TokenNumbers", spec := "tokenNumbers", inPlace := ["internal/bytealg.IndexByteString"], apart := false, narrowed := true }
def TokenNumbersUptoSaid : Prop := tokenNumbersUptoRow.holds Try.pinned (OpenSpec.upto tokenNumbersSpec)

/-- 'headgatelaw12.TokenLines', WHERE WHAT IT READS IS OF BULK AT MOST 1048576: true; the input reads as it did. -/
def tokenLinesUptoRow : OpenClaim := { program := "ytjafkmaolpkbnaa", sum := "57461b18647da466ce38f1eda5669730ca272fd4082ca2d3ae4827a13c4785d0", func := "headgate/headgatelaw12.TokenLines", spec := "tokenLines", inPlace := ["internal/bytealg.IndexByteString"], apart := false, narrowed := true }
def TokenLinesUptoSaid : Prop := tokenLinesUptoRow.holds Try.pinned (OpenSpec.upto tokenLinesSpec)

end Rows
end Go.Proofs.Ytjafkmaolpkbnaa
