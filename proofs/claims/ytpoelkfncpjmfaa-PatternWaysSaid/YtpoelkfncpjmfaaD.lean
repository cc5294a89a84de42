/-
  A region that draws its order, all its orders walked: what hangs on no memory is taken first, of the rest each that may come up.
-/
import Derived.Test.YtpoelkfncpjmfaaH
import Derived.Test.YtpoelkfncpjmfaaT
import Derived.Orders
namespace Go.Proofs.Ytpoelkfncpjmfaa
open Go Go.RowKit
section
variable {P : Program} {N : Nat} {R : Regs} {S : World → Prop} {Q : Exit → Act → World → Prop} {ops : Array Oper} {W0 : World} {F : List Nat} {L : List Ent} {o : Oper} {fuel : Nat} {listed : Array Bool}
abbrev An (P : Program) (ops : Array Oper) (Q : Exit → Act → World → Prop) (fuel : Nat) (listed : Array Bool) : Act → World → Prop := wpAny P .any ops Q fuel listed
theorem a_start {id : Nat} {l : List Oper} (hm : P.follows .mixedOrders = true) (h : G N R (St W0 F L) (An P l.toArray Q l.length (Array.replicate l.length false))) : G N R (St W0 F L) ((Code.region id l.toArray true).wp P Q) :=
  fun a w hR hS => wp_region_any hm (by simpa using h a _ hR hS.drew)
theorem a_take (k : Nat) {d : Nat} {v : Value} (hk : ops[k]? = some o) (hs : Region.noSelect ops = true) (hf : Region.free .any ops listed k = true) (hr : (Region.ready .any ops listed).contains k = true)
    (hQ : ∀ c a w d v, Q (.panic c) (a.put (some d) v) w → Q (.panic c) a w) (hw : want ops R o = some true) (hd : o.dst = some d) (hN : Nat.blt d N = true) (hv : Yv P N R (fun _ => True) o v)
    (h : G N ((d, v) :: R) S (An P ops Q fuel (listed.setIfInBounds k true))) : G N R S (An P ops Q (fuel + 1) listed) := fun a w hR hS => by
  refine wpAny_take hk hs hf hr (fun c a w => by rw [hd]; exact hQ c a w d v) (.inl ⟨wanted_of hw hR, fun w => hv a w hR trivial⟩) (h _ _ ?_ hS)
  rw [hd]; exact hR.put hN
/-- Operation k comes up. -/
theorem a_op (k : Nat) (hk : ops[k]? = some o) (h : G N R S (wpList P ops (Qn (An P ops Q fuel (listed.setIfInBounds k true)) Q) [o])) : G N R S (wpOp P ops Q k (An P ops Q fuel (listed.setIfInBounds k true))) := fun a w hR hS => by
  have := h a w hR hS
  simp only [wpList] at this
  unfold wpOp
  rw [hk]
  dsimp only
  split at this
  · rename_i hwt
    rw [if_pos hwt]
    rcases this with q | q
    · exact .inl (wp_qn q)
    · exact .inr q
  · rename_i hwt
    rw [if_neg hwt]
    exact this
theorem a_do1 (k : Nat) (hr : Region.ready .any ops listed = [k]) (h : G N R S (wpOp P ops Q k (An P ops Q fuel (listed.setIfInBounds k true)))) : G N R S (An P ops Q (fuel + 1) listed) := fun a w hR hS =>
  wpAny_all hr (by simp) fun i hi => by obtain rfl := List.mem_singleton.1 hi; exact h a w hR hS
theorem a_do2 (k j : Nat) (hr : Region.ready .any ops listed = [k, j]) (h : G N R S (wpOp P ops Q k (An P ops Q fuel (listed.setIfInBounds k true)))) (h2 : G N R S (wpOp P ops Q j (An P ops Q fuel (listed.setIfInBounds j true)))) : G N R S (An P ops Q (fuel + 1) listed) := fun a w hR hS =>
  wpAny_all hr (by simp) fun i hi => by
    rcases List.mem_cons.1 hi with rfl | hi
    · exact h a w hR hS
    · obtain rfl := List.mem_singleton.1 hi; exact h2 a w hR hS
theorem a_done (hr : Region.ready .any ops listed = []) (h : G N R S (Q .normal)) : G N R S (An P ops Q fuel listed) := fun a w hR hS => wpAny_done hr (h a w hR hS) fuel
end
end Go.Proofs.Ytpoelkfncpjmfaa
