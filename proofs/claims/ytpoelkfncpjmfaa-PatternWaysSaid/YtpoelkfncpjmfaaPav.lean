/- The tokens of a text without brackets, backslashes, anchors and braces. -/
import Derived.Test.YtpoelkfncpjmfaaPau
namespace Go.Proofs.Ytpoelkfncpjmfaa
open Go Go.RowKit

def okC (c : UInt8) : Prop := c.toNat ≠ 92 ∧ c.toNat ≠ 91 ∧ c.toNat ≠ 94 ∧ c.toNat ≠ 36 ∧ c.toNat ≠ 123
def dotT : Tok := ⟨0, withS s0 0 256, 0, 0⟩
def timesT (a b : Int) : Tok := ⟨4, s0, a, b⟩
def tokB (c : UInt8) (ts : List Tok) (d : Int) : List Tok × Int :=
  if (c.toNat : Int) = 46 then (ts ++ [dotT], d) else if (c.toNat : Int) = 42 ∧ (startsT ts || begunT ts) = true then (ts ++ [litT c], d) else if (c.toNat : Int) = 42 then (ts ++ [timesT 0 (-1)], d) else (ts ++ [litT c], d)
def tokE (c : UInt8) (ts : List Tok) (d : Int) : List Tok × Int :=
  if (c.toNat : Int) = 46 then (ts ++ [dotT], d) else if (c.toNat : Int) = 42 then (ts ++ [timesT 0 (-1)], d) else if (c.toNat : Int) = 43 then (ts ++ [timesT 1 (-1)], d) else if (c.toNat : Int) = 63 then (ts ++ [timesT 0 1], d) else
  if (c.toNat : Int) = 40 then (ts ++ [kT 1], d + 1) else if (c.toNat : Int) = 41 then (ts ++ [kT 2], d - 1) else if (c.toNat : Int) = 124 then (ts ++ [kT 3], d) else (ts ++ [litT c], d)
def tokF (f : UInt8 → List Tok → Int → List Tok × Int) : List UInt8 → List Tok → Int → Option (List Tok)
  | [], ts, d => if d = 0 then some ts else none
  | c :: l, ts, d => if (f c ts d).2 < 0 then none else tokF f l (f c ts d).1 (f c ts d).2
theorem tok_step {f : UInt8 → List Tok → Int → List Tok × Int} {c : UInt8} {l : List UInt8} {ts ts' : List Tok} {d d' : Int} {R : Option (List Tok)} (hR : tokF f (c :: l) ts d = R) (h : f c ts d = (ts', d')) (h0 : 0 ≤ d') : tokF f l ts' d' = R := by
  rw [← hR]
  show _ = if (f c ts d).2 < 0 then none else tokF f l (f c ts d).1 (f c ts d).2
  rw [h, if_neg (by dsimp only; omega)]
theorem tok_stop {f : UInt8 → List Tok → Int → List Tok × Int} {c : UInt8} {l : List UInt8} {ts ts' : List Tok} {d d' : Int} {R : Option (List Tok)} (hR : tokF f (c :: l) ts d = R) (h : f c ts d = (ts', d')) (h0 : d' < 0) : R = none := by
  rw [← hR]
  show (if (f c ts d).2 < 0 then none else tokF f l (f c ts d).1 (f c ts d).2) = none
  rw [h, if_pos (by dsimp only; omega)]
theorem tok_end {f : UInt8 → List Tok → Int → List Tok × Int} {ts : List Tok} {d : Int} {R : Option (List Tok)} (hR : tokF f [] ts d = R) : decide (d = 0) = R.isSome ∧ ∀ ts', R = some ts' → ts = ts' := by
  rw [← hR]
  show decide (d = 0) = (if d = 0 then some ts else none : Option (List Tok)).isSome ∧ _
  by_cases h : d = 0
  · rw [if_pos h]; exact ⟨by simp [h], fun ts' q => by rw [tokF, if_pos h] at q; exact Option.some.inj q⟩
  · rw [if_neg h]; exact ⟨by simp [h], fun ts' q => by rw [tokF, if_neg h] at q; cases q⟩

end Go.Proofs.Ytpoelkfncpjmfaa
