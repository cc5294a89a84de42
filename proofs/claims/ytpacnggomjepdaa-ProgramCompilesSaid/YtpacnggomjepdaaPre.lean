/- Braces: what they compute. -/
import Derived.Test.YtpacnggomjepdaaPrd
import Derived.Test.YtpacnggomjepdaaT
namespace Go.Proofs.Ytpacnggomjepdaa
open Go Go.RowKit

/-- Behind i commands: those that stand open (the last one opened last), and the jumps; none: a closing one too many. -/
def brI (cs : Nat → Cm) : Nat → Option (List Nat × (Nat → Int))
  | 0 => some ([], fun _ => 0)
  | i + 1 => match brI cs i with
    | none => none
    | some (st, j) =>
      if (cs i).nm = 123 then some (st ++ [i], j)
      else if (cs i).nm = 125 then (if st = [] then none else some (st.dropLast, fun k => if k = st.getLastD 0 then (i : Int) else j k))
      else some (st, j)
theorem brI_lt (cs : Nat → Cm) (i : Nat) (st : List Nat) (j : Nat → Int) (h : brI cs i = some (st, j)) : (∀ k ∈ st, k < i) ∧ st.length ≤ i := by
  induction i generalizing st j with
  | zero => simp [brI] at h; simp [h.1]
  | succ i ih =>
    unfold brI at h
    split at h
    · cases h
    · rename_i st' j' he
      have hi := ih st' j' he
      split at h
      · simp only [Option.some.injEq, Prod.mk.injEq] at h
        rw [← h.1]
        refine ⟨fun k hk => ?_, by rw [List.length_append, List.length_singleton]; omega⟩
        rcases List.mem_append.1 hk with q | q
        · have := hi.1 k q; omega
        · rw [List.mem_singleton] at q; omega
      · split at h
        · split at h
          · cases h
          · simp only [Option.some.injEq, Prod.mk.injEq] at h
            rw [← h.1]
            refine ⟨fun k hk => ?_, by rw [List.length_dropLast]; omega⟩
            have := hi.1 k (List.dropLast_subset _ hk); omega
        · simp only [Option.some.injEq, Prod.mk.injEq] at h
          rw [← h.1]
          exact ⟨fun k hk => by have := hi.1 k hk; omega, by omega⟩
/-- The instructions. -/
def insOf (cs : Nat → Cm) (j : Nat → Int) (n : Nat) : List (Cm × Int) := (List.range n).map fun i => (cs i, j i)
theorem ins_len (cs : Nat → Cm) (j : Nat → Int) (n : Nat) : (insOf cs j n).length = n := by unfold insOf; simp
theorem ins_get (cs : Nat → Cm) (j : Nat → Int) (n i : Nat) (h : i < n) : (insOf cs j n)[i]? = some (cs i, j i) := by
  unfold insOf
  rw [List.getElem?_map, List.getElem?_range h]; rfl
theorem ins_set (cs : Nat → Cm) (j : Nat → Int) (n i : Nat) (v : Int) : (insOf cs j n).set i (cs i, v) = insOf cs (fun k => if k = i then v else j k) n := by
  apply List.ext_getElem?
  intro k
  rw [List.getElem?_set, ins_len]
  by_cases hk : k < n
  · rw [ins_get _ _ _ _ hk, ins_get _ _ _ _ hk]
    by_cases e : i = k
    · subst e; rw [if_pos rfl, if_pos hk, if_pos rfl]
    · rw [if_neg e, if_neg (fun q => e q.symm)]
  · rw [List.getElem?_eq_none (by rw [ins_len]; omega), List.getElem?_eq_none (by rw [ins_len]; omega)]
    by_cases e : i = k
    · rw [if_pos e, if_neg (by omega)]
    · rw [if_neg e]
/-- A jump's cell, set. -/
theorem ins_jump (cs : Nat → Cm) (j : Nat → Int) (n i : Nat) (v : Int) (h : i < n) : ((insOf cs j n).flatMap inC).set (i * 43 + 42) (.int .i64 v) = (insOf cs (fun k => if k = i then v else j k) n).flatMap inC := by
  rw [fm_set inC 43 inC_len _ i 42 (cs i, j i) (cs i, v) _ (ins_get cs j n i h) (by decide) rfl, ins_set]

end Go.Proofs.Ytpacnggomjepdaa
