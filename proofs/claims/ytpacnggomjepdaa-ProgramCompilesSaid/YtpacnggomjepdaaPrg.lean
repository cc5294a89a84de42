/- Commands and instructions as rows of cells. -/
import Derived.Test.YtpacnggomjepdaaRows
import Derived.Test.YtpacnggomjepdaaP
import Derived.Test.YtpacnggomjepdaaF
import Derived.Test.YtpacnggomjepdaaN
namespace Go.Proofs.Ytpacnggomjepdaa
open Go Go.RowKit

/-- A command: place, name, text, file; all else is nothing. -/
structure Cm where
  re : Nat
  im : Nat
  nm : Int
  tx : ByteArray
  fi : ByteArray
  deriving Inhabited
def cmC (c : Cm) : List Value := [.complex .f64 c.re c.im, .int .u8 c.nm, .int .i64 0, .int .i64 0, .int .i64 0, .int .u64 0, .int .u64 0, .int .u64 0, .int .u64 0, .int .i64 0, .int .i64 0, .int .i64 0, .slice none 0 0, .int .i64 0, .int .i64 0, .int .i64 0, .int .u64 0, .int .u64 0, .int .u64 0, .int .u64 0, .int .i64 0, .int .i64 0, .int .i64 0, .slice none 0 0, .bool false, .string c.tx, .string ⟨#[]⟩, .int .i64 0, .int .u64 0, .int .u64 0, .int .u64 0, .int .u64 0, .int .i64 0, .int .i64 0, .int .i64 0, .slice none 0 0, .bool false, .slice none 0 0, .bool false, .bool false, .int .i64 0, .string c.fi]
def inC (p : Cm × Int) : List Value := cmC p.1 ++ [.int .i64 p.2]
theorem cmC_len (c : Cm) : (cmC c).length = 42 := rfl
theorem inC_len (p : Cm × Int) : (inC p).length = 43 := rfl
theorem cmC_one (c : Cm) : (cmC c).all (·.oneCell') = true := rfl
theorem inC_one (p : Cm × Int) : (inC p).all (·.oneCell') = true := rfl

section
variable {α : Type} (f : α → List Value) (sz : Nat) (hf : ∀ a, (f a).length = sz)
include hf
theorem fm_len (l : List α) : (l.flatMap f).length = l.length * sz := by
  induction l with
  | nil => simp
  | cons a l ih => rw [List.flatMap_cons, List.length_append, hf, ih, List.length_cons, Nat.succ_mul]; omega
theorem fm_drop (l : List α) : ∀ i, (l.flatMap f).drop (i * sz) = (l.drop i).flatMap f := by
  induction l with
  | nil => intro i; simp
  | cons a l ih =>
    intro i
    cases i with
    | zero => simp
    | succ i =>
      rw [List.flatMap_cons, List.drop_succ_cons, ← ih i, Nat.succ_mul, Nat.add_comm (i * sz) sz, ← List.drop_drop]
      congr 1
      rw [← hf a, List.drop_left]
theorem fm_elem (l : List α) (i : Nat) (a : α) (hi : l[i]? = some a) : ((l.flatMap f).drop (i * sz)).take sz = f a := by
  obtain ⟨h1, h2⟩ := List.getElem?_eq_some_iff.1 hi
  rw [fm_drop f sz hf, List.drop_eq_getElem_cons h1, List.flatMap_cons, h2, ← hf a, List.take_left]
theorem fm_get (l : List α) (i j : Nat) (a : α) (hi : l[i]? = some a) (hj : j < sz) : (l.flatMap f)[i * sz + j]? = (f a)[j]? := by
  have h := fm_elem f sz hf l i a hi
  rw [← h, List.getElem?_take, if_pos hj, List.getElem?_drop]
theorem fm_set (l : List α) (i j : Nat) (a a' : α) (v : Value) (hi : l[i]? = some a) (hj : j < sz) (ha : f a' = (f a).set j v) : (l.flatMap f).set (i * sz + j) v = (l.set i a').flatMap f := by
  obtain ⟨h1, h2⟩ := List.getElem?_eq_some_iff.1 hi
  apply List.ext_getElem?
  intro k
  rw [List.getElem?_set, fm_len f sz hf]
  have hb : i * sz + j < l.length * sz := by
    have : (i + 1) * sz ≤ l.length * sz := Nat.mul_le_mul_right _ h1
    rw [Nat.succ_mul] at this; omega
  have hs : 0 < sz := by omega
  have hk : k = k / sz * sz + k % sz := by rw [Nat.mul_comm]; exact (Nat.div_add_mod k sz).symm
  have hm : k % sz < sz := Nat.mod_lt _ hs
  by_cases hq : k / sz = i
  · have e1 : (l.set i a')[k / sz]? = some a' := by rw [hq, List.getElem?_set, if_pos rfl, if_pos h1]
    have e2 : l[k / sz]? = some a := by rw [hq]; exact hi
    rw [hk, fm_get f sz hf _ _ _ a' e1 hm, fm_get f sz hf _ _ _ a e2 hm, ha, List.getElem?_set, hq, hf]
    by_cases e : j = k % sz
    · rw [if_pos (by omega), if_pos (by omega), if_pos e, if_pos hj]
    · rw [if_neg (by omega), if_neg e]
  · have hne : i * sz + j ≠ k := fun h => hq (by rw [← h, Nat.mul_comm, Nat.mul_add_div hs, Nat.div_eq_of_lt hj]; omega)
    rw [if_neg hne]
    by_cases hlt : k / sz < l.length
    · have e2 : l[k / sz]? = some l[k / sz] := List.getElem?_eq_getElem hlt
      have e1 : (l.set i a')[k / sz]? = some l[k / sz] := by rw [List.getElem?_set, if_neg (fun h => hq h.symm)]; exact e2
      rw [hk, fm_get f sz hf _ _ _ _ e1 hm, fm_get f sz hf _ _ _ _ e2 hm]
    · have hge : l.length * sz ≤ k := by
        have : l.length * sz ≤ k / sz * sz := Nat.mul_le_mul_right _ (by omega)
        omega
      rw [List.getElem?_eq_none (by rw [fm_len f sz hf]; exact hge), List.getElem?_eq_none (by rw [fm_len f sz hf, List.length_set]; exact hge)]
end

end Go.Proofs.Ytpacnggomjepdaa
