/-
  A region that draws its order, of which several operations may come up: whichever; and a place where all its orders meet again.
-/
import Derived.Test.YtpoelkfncpjmfaaD
namespace Go.Proofs.Ytpoelkfncpjmfaa
open Go Go.RowKit
section
variable {P : Program} {N : Nat} {R : Regs} {S : World → Prop} {Q : Exit → Act → World → Prop} {ops : Array Oper} {W0 : World} {F : List Nat} {L : List Ent} {o : Oper} {fuel : Nat} {listed : Array Bool} {Sx : World → Prop}
def AllL (f : Nat → Prop) : List Nat → Prop
  | [] => True
  | k :: ks => f k ∧ AllL f ks
theorem AllL.get {f : Nat → Prop} : ∀ {l : List Nat}, AllL f l → ∀ i, i ∈ l → f i
  | [], _, i, hi => by cases hi
  | k :: ks, h, i, hi => by
    rcases List.mem_cons.1 hi with rfl | hi
    · exact h.1
    · exact AllL.get h.2 i hi
theorem a_doN (rs : List Nat) (hr : Region.ready .any ops listed = rs) (hne : rs ≠ []) (h : AllL (fun k => G N R S (wpOp P ops Q k (An P ops Q fuel (listed.setIfInBounds k true)))) rs) : G N R S (An P ops Q (fuel + 1) listed) := fun a w hR hS =>
  wpAny_all hr hne fun i hi => AllL.get h i hi a w hR hS
theorem h_doN (rs : List Nat) (hr : Region.ready .any ops listed = rs) (hne : rs ≠ []) (h : AllL (fun k => G N R (St W0 F L) (wpOp P ops Q k (fun a w => Sx w ∧ wpAnyH P .any ops Q Sx fuel (listed.setIfInBounds k true) a w))) rs) : G N R (St W0 F L) (wpAnyH P .any ops Q Sx (fuel + 1) listed) := fun a w hR hS =>
  wpAnyH_all hr hne fun i hi => AllL.get h i hi a w hR hS
theorem w_op (k : Nat) {T : Act → World → Prop} (hk : ops[k]? = some o) (h : G N R S (wpList P ops (Qn T Q) [o])) : G N R S (wpOp P ops Q k T) := fun a w hR hS => by
  have := h a w hR hS
  simp only [wpList] at this
  unfold wpOp
  rw [hk]
  dsimp only
  split at this
  · rename_i hwt
    rw [if_pos hwt]
    rcases this with q | q
    · exact .inl (wp_qn q)
    · exact .inr q
  · rename_i hwt
    rw [if_neg hwt]
    exact this
/-- All orders meet again. -/
theorem g_join {id : Nat} {l : List Oper} {α : Type} (R1 : α → Regs) (L1 : α → List Ent) (h1 : ∀ x, G N (R1 x) (St W0 F (L1 x)) (Q .normal))
    (h2 : (∀ x, G N (R1 x) (St W0 F (L1 x)) (Q .normal)) → G N R (St W0 F L) ((Code.region id l.toArray true).wp P Q)) : G N R (St W0 F L) ((Code.region id l.toArray true).wp P Q) := h2 h1
/-- Many orders meet within a region. -/
theorem h_meet {l : List Oper} {α : Type} (R1 : α → Regs) (L1 : α → List Ent) (fuel1 : Nat) (listed1 : Array Bool) (h1 : ∀ x, G N (R1 x) (St W0 F (L1 x)) (wpAnyH P .any l.toArray Q Sx fuel1 listed1))
    (h2 : (∀ x, G N (R1 x) (St W0 F (L1 x)) (wpAnyH P .any l.toArray Q Sx fuel1 listed1)) → G N R (St W0 F L) (wpAnyH P .any l.toArray Q Sx fuel listed)) : G N R (St W0 F L) (wpAnyH P .any l.toArray Q Sx fuel listed) := h2 h1
theorem h_fall {R' : Regs} {S' : World → Prop} {listed' : Array Bool} (h : G N R' S' (wpAnyH P .any ops Q Sx fuel listed')) (ks : List Nat) (hl : listed = listed') (hR : R.only ks = R') (hS : ∀ w, S w → S' w) : G N R S (wpAnyH P .any ops Q Sx fuel listed) := by
  subst hl; exact g_fall h ks hR hS
/-- A scope of several labels, some of which are reached from above, too. -/
theorem g_scope_falls {α : Type} {S : World → Prop} {Q : Exit → Act → World → Prop} {c : Code} (Rl : α → Regs) (Sl : α → World → Prop) (lab m : α → Nat)
    (pass : ∀ x, ∃ tail, findLabel c (lab x) = some (.seq .skip tail) ∧ G N (Rl x) (Sl x) (tail.wp P (Exit.jumps (At N Rl Sl lab m) (some (m x)) Q)))
    (first : (∀ x tail, findLabel c (lab x) = some (.seq .skip tail) → G N (Rl x) (Sl x) (tail.wp P (Exit.jumps (At N Rl Sl lab m) none Q))) → G N R S (c.wp P (Exit.jumps (At N Rl Sl lab m) none Q))) : G N R S ((Code.scope c).wp P Q) := by
  refine g_scope Rl Sl lab m (first fun x tail ht a w hR hS => ?_) fun x => ?_
  · obtain ⟨tail', ht', hp⟩ := pass x
    have he := Option.some.inj (ht'.symm.trans ht)
    injection he with _ he
    subst he
    refine wp_mono (hp a w hR hS) ?_
    intro e a' w' h
    cases e with
    | goto l => obtain ⟨k, _, hJ⟩ := h; exact ⟨k, (fun _ h => by cases h), hJ⟩
    | _ => exact h
  · obtain ⟨tail, ht, hp⟩ := pass x
    exact ⟨_, ht, g_seq (g_skip (g_then hp))⟩
end
end Go.Proofs.Ytpoelkfncpjmfaa
