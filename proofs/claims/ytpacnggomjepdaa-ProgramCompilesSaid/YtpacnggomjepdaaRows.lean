/-
  No cell of these rows narrows 'for every input' (looked for: loops, veiled, ifaces, maps, wideKeys, modest, calm, conditions, laid).
  DERIVED. THE GIVEN ROWS OF THIS SEAT. 5 by the template 'for every input the law returns true; each argument reads behind the call as it read before'; 0 by the template 'total and deterministic' (their statements: YtpacnggomjepdaaTotals.lean).
  GIVEN WITH THE SEED: the statements are not yours to turn. If you find one false, say at which input.
  Laid BY PROGRAM, IN A SANDBOX (cutbox-rows.mjs): the forced cells as the released guide's own fill.sh prints them over the translation 2362ebe660724c0b… (all of the seat's roots in one cut). By AI agents, Wed Nov 11 2026. No macro, syntax, notation, axiom, sorry.
-/
import Derived.Test.YtpacnggomjepdaaChecked
import GoSem.Claim
import GoSem.ClaimJoined
import GoSem.ClaimMapViews
import Derived.JoinedTies
import Derived.KernelRfl
namespace Go.Proofs.Ytpacnggomjepdaa
/- THE CELL 'sum', in the pinned program and in every row, IS THE sha256 OF THE DUMP (.gsa) THAT YtpacnggomjepdaaProg.lean LOADS. Nothing in Lean hashes anything: it is a label: what it is worth is what the hold of that sum in a sandbox is worth. -/
noncomputable def Try.pinned : Pinned := { name := "ytpacnggomjepdaa", sum := "2362ebe660724c0b7c7d081f702c44e209e01f7dfbe1a84b9f70cae6d34a428c", checked := Try.checked }
namespace Rows
def none {H : Type} : Left H := { results := [], args := [] }

/-- 'headgatelaw14.ProgramLands': WHATEVER THE INPUT: true; the input reads as it did. -/
def programLandsSpec : ChangeSpec := { name := "programLands", fn := fun _ => fun
  | [d] => { results := [.lit (.bool true)], args := [d] }
  | _ => none }
def programLandsRow : OpenClaim := { program := "ytpacnggomjepdaa", sum := "2362ebe660724c0b7c7d081f702c44e209e01f7dfbe1a84b9f70cae6d34a428c", func := "headgate/headgatelaw14.ProgramLands", spec := "programLands", apart := false }
def ProgramLandsSaid : Prop := programLandsRow.holds Try.pinned (OpenSpec.ofChange programLandsSpec)

/-- ITS FALSE NEIGHBOUR: 'it returns false'. Refute it at one input. -/
def programLandsWrong : ChangeSpec := { name := "programLands", fn := fun _ => fun
  | [d] => { results := [.lit (.bool false)], args := [d] }
  | _ => none }
def ProgramLandsWrongFalsely : Prop := programLandsRow.holds Try.pinned (OpenSpec.ofChange programLandsWrong)

/-- 'headgatelaw14.ProgramNested': WHATEVER THE INPUT: true; the input reads as it did. -/
def programNestedSpec : ChangeSpec := { name := "programNested", fn := fun _ => fun
  | [d] => { results := [.lit (.bool true)], args := [d] }
  | _ => none }
def programNestedRow : OpenClaim := { program := "ytpacnggomjepdaa", sum := "2362ebe660724c0b7c7d081f702c44e209e01f7dfbe1a84b9f70cae6d34a428c", func := "headgate/headgatelaw14.ProgramNested", spec := "programNested", apart := false }
def ProgramNestedSaid : Prop := programNestedRow.holds Try.pinned (OpenSpec.ofChange programNestedSpec)

/-- ITS FALSE NEIGHBOUR: 'it returns false'. Refute it at one input. -/
def programNestedWrong : ChangeSpec := { name := "programNested", fn := fun _ => fun
  | [d] => { results := [.lit (.bool false)], args := [d] }
  | _ => none }
def ProgramNestedWrongFalsely : Prop := programNestedRow.holds Try.pinned (OpenSpec.ofChange programNestedWrong)

/-- 'headgatelaw14.ProgramPlain': WHATEVER THE INPUT: true; the input reads as it did. -/
def programPlainSpec : ChangeSpec := { name := "programPlain", fn := fun _ => fun
  | [d] => { results := [.lit (.bool true)], args := [d] }
  | _ => none }
def programPlainRow : OpenClaim := { program := "ytpacnggomjepdaa", sum := "2362ebe660724c0b7c7d081f702c44e209e01f7dfbe1a84b9f70cae6d34a428c", func := "headgate/headgatelaw14.ProgramPlain", spec := "programPlain", apart := false }
def ProgramPlainSaid : Prop := programPlainRow.holds Try.pinned (OpenSpec.ofChange programPlainSpec)

/-- ITS FALSE NEIGHBOUR: 'it returns false'. Refute it at one input. -/
def programPlainWrong : ChangeSpec := { name := "programPlain", fn := fun _ => fun
  | [d] => { results := [.lit (.bool false)], args := [d] }
  | _ => none }
def ProgramPlainWrongFalsely : Prop := programPlainRow.holds Try.pinned (OpenSpec.ofChange programPlainWrong)

/-- 'headgatelaw14.ProgramCompiles': WHATEVER THE INPUT: true; the input reads as it did. -/
def programCompilesSpec : ChangeSpec := { name := "programCompiles", fn := fun _ => fun
  | [d] => { results := [.lit (.bool true)], args := [d] }
  | _ => none }
def programCompilesRow : OpenClaim := { program := "ytpacnggomjepdaa", sum := "2362ebe660724c0b7c7d081f702c44e209e01f7dfbe1a84b9f70cae6d34a428c", func := "headgate/headgatelaw14.ProgramCompiles", spec := "programCompiles", unfollowed := true, recurses := true, apart := false }
def ProgramCompilesSaid : Prop := programCompilesRow.holds Try.pinned (OpenSpec.ofChange programCompilesSpec)

/-- ITS FALSE NEIGHBOUR: 'it returns false'. Refute it at one input. -/
def programCompilesWrong : ChangeSpec := { name := "programCompiles", fn := fun _ => fun
  | [d] => { results := [.lit (.bool false)], args := [d] }
  | _ => none }
def ProgramCompilesWrongFalsely : Prop := programCompilesRow.holds Try.pinned (OpenSpec.ofChange programCompilesWrong)

/-- 'headgatelaw14.ProgramFiles': WHATEVER THE INPUT: true; the input reads as it did. -/
def programFilesSpec : ChangeSpec := { name := "programFiles", fn := fun _ => fun
  | [d] => { results := [.lit (.bool true)], args := [d] }
  | _ => none }
def programFilesRow : OpenClaim := { program := "ytpacnggomjepdaa", sum := "2362ebe660724c0b7c7d081f702c44e209e01f7dfbe1a84b9f70cae6d34a428c", func := "headgate/headgatelaw14.ProgramFiles", spec := "programFiles", unfollowed := true, recurses := true, apart := false }
def ProgramFilesSaid : Prop := programFilesRow.holds Try.pinned (OpenSpec.ofChange programFilesSpec)

/-- ITS FALSE NEIGHBOUR: 'it returns false'. Refute it at one input. -/
def programFilesWrong : ChangeSpec := { name := "programFiles", fn := fun _ => fun
  | [d] => { results := [.lit (.bool false)], args := [d] }
  | _ => none }
def ProgramFilesWrongFalsely : Prop := programFilesRow.holds Try.pinned (OpenSpec.ofChange programFilesWrong)

/- THE SECOND FORM. 'bulk': how many values and letters a reading holds, each counted each time it is reached (what is shared counts as often as it is met; a slice's spare places count too). A statement '..UptoSaid' is the law's where the arguments, and the package variables that the reading takes, are together of bulk at most 1048576: NARROWER than '..Said'. Prove '..Said' where nothing that the law and all that it calls make is longer than what came in: it says more and counts as full. Else prove '..UptoSaid'. A law counts once. -/
mutual
def uptoBulk {H : Type} : DataW H → Nat
  | .lit (.string bytes) => bytes.length + 1
  | .lit _ => 1
  | .nil => 1
  | .ptr d => uptoBulk d + 1
  | .slice elems spare => uptoBulkAll elems + uptoBulkAll spare + 1
  | .agg parts => uptoBulkAll parts + 1
  | .iface _ d => uptoBulk d + 1
  | .map entries => uptoBulkEntries entries + 1
  | .held _ => 1
def uptoBulkAll {H : Type} : List (DataW H) → Nat
  | [] => 0
  | d :: r => uptoBulk d + uptoBulkAll r
def uptoBulkEntries {H : Type} : List (Lit × DataW H) → Nat
  | [] => 0
  | x :: r => uptoBulkEntry x + uptoBulkEntries r
def uptoBulkEntry {H : Type} : Lit × DataW H → Nat
  | (.string bytes, d) => bytes.length + uptoBulk d + 1
  | (_, d) => uptoBulk d + 1
 end
def uptoSmall : (H : Type) → List (DataW H) → Bool := fun _ ds => decide (uptoBulkAll ds ≤ 1048576)
def OpenSpec.upto (s : _root_.Go.ChangeSpec) : _root_.Go.OpenSpec := { _root_.Go.OpenSpec.ofChange s with cond := some uptoSmall }

/-- 'headgatelaw14.ProgramLands', WHERE WHAT IT READS IS OF BULK AT MOST 1048576: true; the input reads as it did. -/
def programLandsUptoRow : OpenClaim := { program := "ytpacnggomjepdaa", sum := "2362ebe660724c0b7c7d081f702c44e209e01f7dfbe1a84b9f70cae6d34a428c", func := "headgate/headgatelaw14.ProgramLands", spec := "programLands", apart := false, narrowed := true }
def ProgramLandsUptoSaid : Prop := programLandsUptoRow.holds Try.pinned (OpenSpec.upto programLandsSpec)

/-- 'headgatelaw14.ProgramNested', WHERE WHAT IT READS IS OF BULK AT MOST 1048576: true; the input reads as it did. -/
def programNestedUptoRow : OpenClaim := { program := "ytpacnggomjepdaa", sum := "2362ebe660724c0b7c7d081f702c44e209e01f7dfbe1a84b9f70cae6d34a428c", func := "headgate/headgatelaw14.ProgramNested", spec := "programNested", apart := false, narrowed := true }
def ProgramNestedUptoSaid : Prop := programNestedUptoRow.holds Try.pinned (OpenSpec.upto programNestedSpec)

/-- 'headgatelaw14.ProgramPlain', WHERE WHAT IT READS IS OF BULK AT MOST 1048576: true; the input reads as it did. -/
def programPlainUptoRow : OpenClaim := { program := "ytpacnggomjepdaa", sum := "2362ebe660724c0b7c7d081f702c44e209e01f7dfbe1a84b9f70cae6d34a428c", func := "headgate/headgatelaw14.ProgramPlain", spec := "programPlain", apart := false, narrowed := true }
def ProgramPlainUptoSaid : Prop := programPlainUptoRow.holds Try.pinned (OpenSpec.upto programPlainSpec)

/-- 'headgatelaw14.ProgramCompiles', WHERE WHAT IT READS IS OF BULK AT MOST 1048576: true; the input reads as it did. -/
def programCompilesUptoRow : OpenClaim := { program := "ytpacnggomjepdaa", sum := "2362ebe660724c0b7c7d081f702c44e209e01f7dfbe1a84b9f70cae6d34a428c", func := "headgate/headgatelaw14.ProgramCompiles", spec := "programCompiles", unfollowed := true, recurses := true, apart := false, narrowed := true }
def ProgramCompilesUptoSaid : Prop := programCompilesUptoRow.holds Try.pinned (OpenSpec.upto programCompilesSpec)

/-- 'headgatelaw14.ProgramFiles', WHERE WHAT IT READS IS OF BULK AT MOST 1048576: true; the input reads as it did. -/
def programFilesUptoRow : OpenClaim := { program := "ytpacnggomjepdaa", sum := "2362ebe660724c0b7c7d081f702c44e209e01f7dfbe1a84b9f70cae6d34a428c", func := "headgate/headgatelaw14.ProgramFiles", spec := "programFiles", unfollowed := true, recurses := true, apart := false, narrowed := true }
def ProgramFilesUptoSaid : Prop := programFilesUptoRow.holds Try.pinned (OpenSpec.upto programFilesSpec)

end Rows
end Go.Proofs.Ytpacnggomjepdaa
