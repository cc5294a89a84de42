/-
  NARROWER THAN 'FOR EVERY INPUT', by the rows' own cells (each row's printed sentence says how): MatchFinds: loops · MatchLeftmost: loops.
  DERIVED. THE GIVEN ROWS OF THIS SEAT. 9 by the template 'for every input the law returns true; each argument reads behind the call as it read before'; 0 by the template 'total and deterministic' (their statements: YtfcamlkbkehlnaaTotals.lean).
  GIVEN WITH THE SEED: the statements are not yours to turn. If you find one false, say at which input.
  Laid BY PROGRAM, IN A SANDBOX (cutbox-rows.mjs): the forced cells as the released guide's own fill.sh prints them over the translation e7bae2828d2225d4… (all of the seat's roots in one cut). By AI agents, Wed Nov 11 2026. No macro, syntax, notation, axiom, sorry.
-/
import Derived.Test.YtfcamlkbkehlnaaChecked
import GoSem.Claim
import GoSem.ClaimJoined
import GoSem.ClaimMapViews
import Derived.JoinedTies
import Derived.KernelRfl
namespace Go.Proofs.Ytfcamlkbkehlnaa
/- THE CELL 'sum', in the pinned program and in every row, IS THE sha256 OF THE DUMP (.gsa) THAT YtfcamlkbkehlnaaProg.lean LOADS. Nothing in Lean hashes anything: it is a label: what it is worth is what the hold of that sum in a sandbox is worth. -/
noncomputable def Try.pinned : Pinned := { name := "ytfcamlkbkehlnaa", sum := "e7bae2828d2225d4bdb4f1681b4f6b3f43ec9f1d536afa96cd6cd0c98f43c49e", checked := Try.checked }
namespace Rows
def none {H : Type} : Left H := { results := [], args := [] }

/-- 'headgatelaw10.MatchPatterns': WHATEVER THE INPUT: true; the input reads as it did. -/
def matchPatternsSpec : ChangeSpec := { name := "matchPatterns", fn := fun _ => fun
  | [d1, d2, d3] => { results := [.lit (.bool true)], args := [d1, d2, d3] }
  | _ => none }
def matchPatternsRow : OpenClaim := { program := "ytfcamlkbkehlnaa", sum := "e7bae2828d2225d4bdb4f1681b4f6b3f43ec9f1d536afa96cd6cd0c98f43c49e", func := "headgate/headgatelaw10.MatchPatterns", spec := "matchPatterns", inPlace := ["internal/bytealg.IndexByteString", "internal/bytealg.IndexString"], unfollowed := true, recurses := true, named := ["internal/bytealg.MaxLen"], plainKeys := false, apart := false }
def MatchPatternsSaid : Prop := matchPatternsRow.holds Try.pinned (OpenSpec.ofChange matchPatternsSpec)

/-- ITS FALSE NEIGHBOUR: 'it returns false'. Refute it at one input. -/
def matchPatternsWrong : ChangeSpec := { name := "matchPatterns", fn := fun _ => fun
  | [d1, d2, d3] => { results := [.lit (.bool false)], args := [d1, d2, d3] }
  | _ => none }
def MatchPatternsWrongFalsely : Prop := matchPatternsRow.holds Try.pinned (OpenSpec.ofChange matchPatternsWrong)

/-- 'headgatelaw10.MatchGroups': WHATEVER THE INPUT: true; the input reads as it did. -/
def matchGroupsSpec : ChangeSpec := { name := "matchGroups", fn := fun _ => fun
  | [d1, d2, d3] => { results := [.lit (.bool true)], args := [d1, d2, d3] }
  | _ => none }
def matchGroupsRow : OpenClaim := { program := "ytfcamlkbkehlnaa", sum := "e7bae2828d2225d4bdb4f1681b4f6b3f43ec9f1d536afa96cd6cd0c98f43c49e", func := "headgate/headgatelaw10.MatchGroups", spec := "matchGroups", inPlace := ["internal/bytealg.IndexByteString", "internal/bytealg.IndexString"], unfollowed := true, recurses := true, named := ["internal/bytealg.MaxLen"], plainKeys := false, apart := false }
def MatchGroupsSaid : Prop := matchGroupsRow.holds Try.pinned (OpenSpec.ofChange matchGroupsSpec)

/-- ITS FALSE NEIGHBOUR: 'it returns false'. Refute it at one input. -/
def matchGroupsWrong : ChangeSpec := { name := "matchGroups", fn := fun _ => fun
  | [d1, d2, d3] => { results := [.lit (.bool false)], args := [d1, d2, d3] }
  | _ => none }
def MatchGroupsWrongFalsely : Prop := matchGroupsRow.holds Try.pinned (OpenSpec.ofChange matchGroupsWrong)

/-- 'headgatelaw10.MatchPlain': WHATEVER THE INPUT: true; the input reads as it did. -/
def matchPlainSpec : ChangeSpec := { name := "matchPlain", fn := fun _ => fun
  | [d1, d2, d3] => { results := [.lit (.bool true)], args := [d1, d2, d3] }
  | _ => none }
def matchPlainRow : OpenClaim := { program := "ytfcamlkbkehlnaa", sum := "e7bae2828d2225d4bdb4f1681b4f6b3f43ec9f1d536afa96cd6cd0c98f43c49e", func := "headgate/headgatelaw10.MatchPlain", spec := "matchPlain", inPlace := ["internal/bytealg.IndexByteString", "internal/bytealg.IndexString"], unfollowed := true, recurses := true, named := ["internal/bytealg.MaxLen"], plainKeys := false, apart := false }
def MatchPlainSaid : Prop := matchPlainRow.holds Try.pinned (OpenSpec.ofChange matchPlainSpec)

/-- ITS FALSE NEIGHBOUR: 'it returns false'. Refute it at one input. -/
def matchPlainWrong : ChangeSpec := { name := "matchPlain", fn := fun _ => fun
  | [d1, d2, d3] => { results := [.lit (.bool false)], args := [d1, d2, d3] }
  | _ => none }
def MatchPlainWrongFalsely : Prop := matchPlainRow.holds Try.pinned (OpenSpec.ofChange matchPlainWrong)

/-- 'headgatelaw10.MatchRounds': WHATEVER THE INPUT: true; the input reads as it did. -/
def matchRoundsSpec : ChangeSpec := { name := "matchRounds", fn := fun _ => fun
  | [d1, d2, d3] => { results := [.lit (.bool true)], args := [d1, d2, d3] }
  | _ => none }
def matchRoundsRow : OpenClaim := { program := "ytfcamlkbkehlnaa", sum := "e7bae2828d2225d4bdb4f1681b4f6b3f43ec9f1d536afa96cd6cd0c98f43c49e", func := "headgate/headgatelaw10.MatchRounds", spec := "matchRounds", inPlace := ["internal/bytealg.IndexByteString", "internal/bytealg.IndexString"], unfollowed := true, recurses := true, named := ["internal/bytealg.MaxLen"], plainKeys := false, apart := false }
def MatchRoundsSaid : Prop := matchRoundsRow.holds Try.pinned (OpenSpec.ofChange matchRoundsSpec)

/-- ITS FALSE NEIGHBOUR: 'it returns false'. Refute it at one input. -/
def matchRoundsWrong : ChangeSpec := { name := "matchRounds", fn := fun _ => fun
  | [d1, d2, d3] => { results := [.lit (.bool false)], args := [d1, d2, d3] }
  | _ => none }
def MatchRoundsWrongFalsely : Prop := matchRoundsRow.holds Try.pinned (OpenSpec.ofChange matchRoundsWrong)

/-- 'headgatelaw10.MatchEither': WHATEVER THE INPUT: true; the input reads as it did. -/
def matchEitherSpec : ChangeSpec := { name := "matchEither", fn := fun _ => fun
  | [d1, d2] => { results := [.lit (.bool true)], args := [d1, d2] }
  | _ => none }
def matchEitherRow : OpenClaim := { program := "ytfcamlkbkehlnaa", sum := "e7bae2828d2225d4bdb4f1681b4f6b3f43ec9f1d536afa96cd6cd0c98f43c49e", func := "headgate/headgatelaw10.MatchEither", spec := "matchEither", inPlace := ["internal/bytealg.IndexByteString", "internal/bytealg.IndexString"], unfollowed := true, recurses := true, named := ["internal/bytealg.MaxLen"], plainKeys := false, apart := false }
def MatchEitherSaid : Prop := matchEitherRow.holds Try.pinned (OpenSpec.ofChange matchEitherSpec)

/-- ITS FALSE NEIGHBOUR: 'it returns false'. Refute it at one input. -/
def matchEitherWrong : ChangeSpec := { name := "matchEither", fn := fun _ => fun
  | [d1, d2] => { results := [.lit (.bool false)], args := [d1, d2] }
  | _ => none }
def MatchEitherWrongFalsely : Prop := matchEitherRow.holds Try.pinned (OpenSpec.ofChange matchEitherWrong)

/-- 'headgatelaw10.MatchRun': WHATEVER THE INPUT: true; the input reads as it did. -/
def matchRunSpec : ChangeSpec := { name := "matchRun", fn := fun _ => fun
  | [d1, d2] => { results := [.lit (.bool true)], args := [d1, d2] }
  | _ => none }
def matchRunRow : OpenClaim := { program := "ytfcamlkbkehlnaa", sum := "e7bae2828d2225d4bdb4f1681b4f6b3f43ec9f1d536afa96cd6cd0c98f43c49e", func := "headgate/headgatelaw10.MatchRun", spec := "matchRun", inPlace := ["internal/bytealg.IndexByteString", "internal/bytealg.IndexString"], unfollowed := true, recurses := true, named := ["internal/bytealg.MaxLen"], plainKeys := false, apart := false }
def MatchRunSaid : Prop := matchRunRow.holds Try.pinned (OpenSpec.ofChange matchRunSpec)

/-- ITS FALSE NEIGHBOUR: 'it returns false'. Refute it at one input. -/
def matchRunWrong : ChangeSpec := { name := "matchRun", fn := fun _ => fun
  | [d1, d2] => { results := [.lit (.bool false)], args := [d1, d2] }
  | _ => none }
def MatchRunWrongFalsely : Prop := matchRunRow.holds Try.pinned (OpenSpec.ofChange matchRunWrong)

/-- 'headgatelaw10.MatchFinds': WHATEVER THE INPUT: true; the input reads as it did. -/
def matchFindsSpec : ChangeSpec := { name := "matchFinds", fn := fun _ => fun
  | [d1, d2, d3] => { results := [.lit (.bool true)], args := [d1, d2, d3] }
  | _ => none }
def matchFindsRow : OpenClaim := { program := "ytfcamlkbkehlnaa", sum := "e7bae2828d2225d4bdb4f1681b4f6b3f43ec9f1d536afa96cd6cd0c98f43c49e", func := "headgate/headgatelaw10.MatchFinds", spec := "matchFinds", inPlace := ["internal/bytealg.IndexByteString", "internal/bytealg.IndexString"], unfollowed := true, recurses := true, named := ["internal/bytealg.MaxLen"], loops := true, plainKeys := false, apart := false }
def MatchFindsSaid : Prop := matchFindsRow.holds Try.pinned (OpenSpec.ofChange matchFindsSpec)

/-- ITS FALSE NEIGHBOUR: 'it returns false'. Refute it at one input. -/
def matchFindsWrong : ChangeSpec := { name := "matchFinds", fn := fun _ => fun
  | [d1, d2, d3] => { results := [.lit (.bool false)], args := [d1, d2, d3] }
  | _ => none }
def MatchFindsWrongFalsely : Prop := matchFindsRow.holds Try.pinned (OpenSpec.ofChange matchFindsWrong)

/-- 'headgatelaw10.MatchLeftmost': WHATEVER THE INPUT: true; the input reads as it did. -/
def matchLeftmostSpec : ChangeSpec := { name := "matchLeftmost", fn := fun _ => fun
  | [d1, d2, d3] => { results := [.lit (.bool true)], args := [d1, d2, d3] }
  | _ => none }
def matchLeftmostRow : OpenClaim := { program := "ytfcamlkbkehlnaa", sum := "e7bae2828d2225d4bdb4f1681b4f6b3f43ec9f1d536afa96cd6cd0c98f43c49e", func := "headgate/headgatelaw10.MatchLeftmost", spec := "matchLeftmost", inPlace := ["internal/bytealg.IndexByteString", "internal/bytealg.IndexString"], unfollowed := true, recurses := true, named := ["internal/bytealg.MaxLen"], loops := true, plainKeys := false, apart := false }
def MatchLeftmostSaid : Prop := matchLeftmostRow.holds Try.pinned (OpenSpec.ofChange matchLeftmostSpec)

/-- ITS FALSE NEIGHBOUR: 'it returns false'. Refute it at one input. -/
def matchLeftmostWrong : ChangeSpec := { name := "matchLeftmost", fn := fun _ => fun
  | [d1, d2, d3] => { results := [.lit (.bool false)], args := [d1, d2, d3] }
  | _ => none }
def MatchLeftmostWrongFalsely : Prop := matchLeftmostRow.holds Try.pinned (OpenSpec.ofChange matchLeftmostWrong)

/-- 'headgatelaw10.MatchAnchored': WHATEVER THE INPUT: true; the input reads as it did. -/
def matchAnchoredSpec : ChangeSpec := { name := "matchAnchored", fn := fun _ => fun
  | [d1, d2, d3] => { results := [.lit (.bool true)], args := [d1, d2, d3] }
  | _ => none }
def matchAnchoredRow : OpenClaim := { program := "ytfcamlkbkehlnaa", sum := "e7bae2828d2225d4bdb4f1681b4f6b3f43ec9f1d536afa96cd6cd0c98f43c49e", func := "headgate/headgatelaw10.MatchAnchored", spec := "matchAnchored", inPlace := ["internal/bytealg.IndexByteString", "internal/bytealg.IndexString"], unfollowed := true, recurses := true, named := ["internal/bytealg.MaxLen"], plainKeys := false, apart := false }
def MatchAnchoredSaid : Prop := matchAnchoredRow.holds Try.pinned (OpenSpec.ofChange matchAnchoredSpec)

/-- ITS FALSE NEIGHBOUR: 'it returns false'. Refute it at one input. -/
def matchAnchoredWrong : ChangeSpec := { name := "matchAnchored", fn := fun _ => fun
  | [d1, d2, d3] => { results := [.lit (.bool false)], args := [d1, d2, d3] }
  | _ => none }
def MatchAnchoredWrongFalsely : Prop := matchAnchoredRow.holds Try.pinned (OpenSpec.ofChange matchAnchoredWrong)

/- THE SECOND FORM. 'bulk': how many values and letters a reading holds, each counted each time it is reached (what is shared counts as often as it is met; a slice's spare places count too). A statement '..UptoSaid' is the law's where the arguments, and the package variables that the reading takes, are together of bulk at most 1048576: NARROWER than '..Said'. Prove '..Said' where nothing that the law and all that it calls make is longer than what came in: it says more and counts as full. Else prove '..UptoSaid'. A law counts once. -/
mutual
def uptoBulk {H : Type} : DataW H → Nat
  | .lit (.string bytes) => bytes.length + 1
  | .lit _ => 1
  | .nil => 1
  | .ptr d => uptoBulk d + 1
  | .slice elems spare => uptoBulkAll elems + uptoBulkAll spare + 1
  | .agg parts => uptoBulkAll parts + 1
  | .iface _ d => uptoBulk d + 1
  | .map entries => uptoBulkEntries entries + 1
  | .held _ => 1
def uptoBulkAll {H : Type} : List (DataW H) → Nat
  | [] => 0
  | d :: r => uptoBulk d + uptoBulkAll r
def uptoBulkEntries {H : Type} : List (Lit × DataW H) → Nat
  | [] => 0
  | x :: r => uptoBulkEntry x + uptoBulkEntries r
def uptoBulkEntry {H : Type} : Lit × DataW H → Nat
  | (.string bytes, d) => bytes.length + uptoBulk d + 1
  | (_, d) => uptoBulk d + 1
 end
def uptoSmall : (H : Type) → List (DataW H) → Bool := fun _ ds => decide (uptoBulkAll ds ≤ 1048576)
def OpenSpec.upto (s : _root_.Go.ChangeSpec) : _root_.Go.OpenSpec := { _root_.Go.OpenSpec.ofChange s with cond := some uptoSmall }

/-- 'headgatelaw10.MatchPatterns', WHERE WHAT IT READS IS OF BULK AT MOST 1048576: true; the input reads as it did. -/
def matchPatternsUptoRow : OpenClaim := { program := "ytfcamlkbkehlnaa", sum := "e7bae2828d2225d4bdb4f1681b4f6b3f43ec9f1d536afa96cd6cd0c98f43c49e", func := "headgate/headgatelaw10.MatchPatterns", spec := "matchPatterns", inPlace := ["internal/bytealg.IndexByteString", "internal/bytealg.IndexString"], unfollowed := true, recurses := true, named := ["internal/bytealg.MaxLen"], plainKeys := false, apart := false, narrowed := true }
def MatchPatternsUptoSaid : Prop := matchPatternsUptoRow.holds Try.pinned (OpenSpec.upto matchPatternsSpec)

/-- 'headgatelaw10.MatchGroups', WHERE WHAT IT READS IS OF BULK AT MOST 1048576: true; the input reads as it did. -/
def matchGroupsUptoRow : OpenClaim := { program := "ytfcamlkbkehlnaa", sum := "e7bae2828d2225d4bdb4f1681b4f6b3f43ec9f1d536afa96cd6cd0c98f43c49e", func := "headgate/headgatelaw10.MatchGroups", spec := "matchGroups", inPlace := ["internal/bytealg.IndexByteString", "internal/bytealg.IndexString"], unfollowed := true, recurses := true, named := ["internal/bytealg.MaxLen"], plainKeys := false, apart := false, narrowed := true }
def MatchGroupsUptoSaid : Prop := matchGroupsUptoRow.holds Try.pinned (OpenSpec.upto matchGroupsSpec)

/-- 'headgatelaw10.MatchPlain', WHERE WHAT IT READS IS OF BULK AT MOST 1048576: true; the input reads as it did. -/
def matchPlainUptoRow : OpenClaim := { program := "ytfcamlkbkehlnaa", sum := "e7bae2828d2225d4bdb4f1681b4f6b3f43ec9f1d536afa96cd6cd0c98f43c49e", func := "headgate/headgatelaw10.MatchPlain", spec := "matchPlain", inPlace := ["internal/bytealg.IndexByteString", "internal/bytealg.IndexString"], unfollowed := true, recurses := true, named := ["internal/bytealg.MaxLen"], plainKeys := false, apart := false, narrowed := true }
def MatchPlainUptoSaid : Prop := matchPlainUptoRow.holds Try.pinned (OpenSpec.upto matchPlainSpec)

/-- 'headgatelaw10.MatchRounds', WHERE WHAT IT READS IS OF BULK AT MOST 1048576: true; the input reads as it did. -/
def matchRoundsUptoRow : OpenClaim := { program := "ytfcamlkbkehlnaa", sum := "e7bae2828d2225d4bdb4f1681b4f6b3f43ec9f1d536afa96cd6cd0c98f43c49e", func := "headgate/headgatelaw10.MatchRounds", spec := "matchRounds", inPlace := ["internal/bytealg.IndexByteString", "internal/bytealg.IndexString"], unfollowed := true, recurses := true, named := ["internal/bytealg.MaxLen"], plainKeys := false, apart := false, narrowed := true }
def MatchRoundsUptoSaid : Prop := matchRoundsUptoRow.holds Try.pinned (OpenSpec.upto matchRoundsSpec)

/-- 'headgatelaw10.MatchEither', WHERE WHAT IT READS IS OF BULK AT MOST 1048576: true; the input reads as it did. -/
def matchEitherUptoRow : OpenClaim := { program := "ytfcamlkbkehlnaa", sum := "e7bae2828d2225d4bdb4f1681b4f6b3f43ec9f1d536afa96cd6cd0c98f43c49e", func := "headgate/headgatelaw10.MatchEither", spec := "matchEither", inPlace := ["internal/bytealg.IndexByteString", "internal/bytealg.IndexString"], unfollowed := true, recurses := true, named := ["internal/bytealg.MaxLen"], plainKeys := false, apart := false, narrowed := true }
def MatchEitherUptoSaid : Prop := matchEitherUptoRow.holds Try.pinned (OpenSpec.upto matchEitherSpec)

/-- 'headgatelaw10.MatchRun', WHERE WHAT IT READS IS OF BULK AT MOST 1048576: true; the input reads as it did. -/
def matchRunUptoRow : OpenClaim := { program := "ytfcamlkbkehlnaa", sum := "e7bae2828d2225d4bdb4f1681b4f6b3f43ec9f1d536afa96cd6cd0c98f43c49e", func := "headgate/headgatelaw10.MatchRun", spec := "matchRun", inPlace := ["internal/bytealg.IndexByteString", "internal/bytealg.IndexString"], unfollowed := true, recurses := true, named := ["internal/bytealg.MaxLen"], plainKeys := false, apart := false, narrowed := true }
def MatchRunUptoSaid : Prop := matchRunUptoRow.holds Try.pinned (OpenSpec.upto matchRunSpec)

/-- 'headgatelaw10.MatchFinds', WHERE WHAT IT READS IS OF BULK AT MOST 1048576: true; the input reads as it did. -/
def matchFindsUptoRow : OpenClaim := { program := "ytfcamlkbkehlnaa", sum := "e7bae2828d2225d4bdb4f1681b4f6b3f43ec9f1d536afa96cd6cd0c98f43c49e", func := "headgate/headgatelaw10.MatchFinds", spec := "matchFinds", inPlace := ["internal/bytealg.IndexByteString", "internal/bytealg.IndexString"], unfollowed := true, recurses := true, named := ["internal/bytealg.MaxLen"], loops := true, plainKeys := false, apart := false, narrowed := true }
def MatchFindsUptoSaid : Prop := matchFindsUptoRow.holds Try.pinned (OpenSpec.upto matchFindsSpec)

/-- 'headgatelaw10.MatchLeftmost', WHERE WHAT IT READS IS OF BULK AT MOST 1048576: true; the input reads as it did. -/
def matchLeftmostUptoRow : OpenClaim := { program := "ytfcamlkbkehlnaa", sum := "e7bae2828d2225d4bdb4f1681b4f6b3f43ec9f1d536afa96cd6cd0c98f43c49e", func := "headgate/headgatelaw10.MatchLeftmost", spec := "matchLeftmost", inPlace := ["internal/bytealg.IndexByteString", "internal/bytealg.IndexString"], unfollowed := true, recurses := true, named := ["internal/bytealg.MaxLen"], loops := true, plainKeys := false, apart := false, narrowed := true }
def MatchLeftmostUptoSaid : Prop := matchLeftmostUptoRow.holds Try.pinned (OpenSpec.upto matchLeftmostSpec)

/-- 'headgatelaw10.MatchAnchored', WHERE WHAT IT READS IS OF BULK AT MOST 1048576: true; the input reads as it did. -/
def matchAnchoredUptoRow : OpenClaim := { program := "ytfcamlkbkehlnaa", sum := "e7bae2828d2225d4bdb4f1681b4f6b3f43ec9f1d536afa96cd6cd0c98f43c49e", func := "headgate/headgatelaw10.MatchAnchored", spec := "matchAnchored", inPlace := ["internal/bytealg.IndexByteString", "internal/bytealg.IndexString"], unfollowed := true, recurses := true, named := ["internal/bytealg.MaxLen"], plainKeys := false, apart := false, narrowed := true }
def MatchAnchoredUptoSaid : Prop := matchAnchoredUptoRow.holds Try.pinned (OpenSpec.upto matchAnchoredSpec)

end Rows
end Go.Proofs.Ytfcamlkbkehlnaa
