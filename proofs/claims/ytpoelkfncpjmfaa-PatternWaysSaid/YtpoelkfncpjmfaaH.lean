/-
  A region that draws its order, some of whose operations write: what only reads is taken first, the rest comes one by one.
-/
import Derived.Test.YtpoelkfncpjmfaaR
import Derived.OrdersHeld
namespace Go.Proofs.Ytpoelkfncpjmfaa
open Go Go.RowKit
section
variable {P : Program} {N : Nat} {R : Regs} {Q : Exit → Act → World → Prop} {ops : Array Oper} {W0 : World} {F : List Nat} {L : List Ent} {o : Oper} {fuel : Nat} {listed : Array Bool} {Sx : World → Prop}
def Qn (T : Act → World → Prop) (Q : Exit → Act → World → Prop) : Exit → Act → World → Prop
  | .normal => T
  | e => Q e
theorem wp_qn {T K : Act → World → Prop} {a : Act} {w : World} (h : o.wp P a w K (Qn T Q)) : o.wp P a w K Q := by
  unfold Oper.wp at *
  generalize (execOp a.eval o).run P w = r at *
  cases r with
  | ok n w' => cases n <;> exact h
  | halt h' w' => cases h' <;> exact h
theorem h_start {id : Nat} {l : List Oper} (Sx : World → Prop) (hm : P.follows .mixedOrders = true) (h : G N R (St W0 F L) (wpAnyH P .any l.toArray Q Sx l.length (Array.replicate l.length false))) : G N R (St W0 F L) ((Code.region id l.toArray true).wp P Q) :=
  fun a w hR hS => wp_region_held (S := Sx) hm (by simpa using h a _ hR hS.drew)
theorem h_take (k : Nat) {d : Nat} {v : Value} (hk : ops[k]? = some o) (hs : Region.noSelect ops = true) (hf : Region.free .any ops listed k = true) (hr : (Region.ready .any ops listed).contains k = true)
    (hQ : ∀ c a w d v, Q (.panic c) (a.put (some d) v) w → Q (.panic c) a w) (hw : want ops R o = some true) (hd : o.dst = some d) (hN : Nat.blt d N = true) (hsub : ∀ w, St W0 F L w → Sx w) (hv : Yv P N R Sx o v)
    (h : G N ((d, v) :: R) (St W0 F L) (wpAnyH P .any ops Q Sx fuel (listed.setIfInBounds k true))) : G N R (St W0 F L) (wpAnyH P .any ops Q Sx (fuel + 1) listed) := fun a w hR hS => by
  refine wpAnyH_take hk hs hf hr (fun c a w => by rw [hd]; exact hQ c a w d v) (.inl ⟨wanted_of hw hR, fun w hw' => hv a w hR hw'⟩) (hsub w hS) (h _ _ ?_ hS)
  rw [hd]; exact hR.put hN
theorem h_do (k : Nat) (hk : ops[k]? = some o) (hr : Region.ready .any ops listed = [k])
    (h : G N R (St W0 F L) (wpList P ops (Qn (fun a w => Sx w ∧ wpAnyH P .any ops Q Sx fuel (listed.setIfInBounds k true) a w) Q) [o])) : G N R (St W0 F L) (wpAnyH P .any ops Q Sx (fuel + 1) listed) := fun a w hR hS => by
  refine wpAnyH_all hr (by simp) fun i hi => ?_
  obtain rfl := List.mem_singleton.1 hi
  have := h a w hR hS
  simp only [wpList] at this
  unfold wpOp
  rw [hk]
  dsimp only
  split at this
  · rename_i hwt
    rw [if_pos hwt]
    rcases this with q | q
    · exact .inl (wp_qn q)
    · exact .inr q
  · rename_i hwt
    rw [if_neg hwt]
    exact this
theorem h_and {X : Act → World → Prop} (hsub : ∀ w, St W0 F L w → Sx w) (h : G N R (St W0 F L) X) : G N R (St W0 F L) (fun a w => Sx w ∧ X a w) := fun a w hR hS => ⟨hsub w hS, h a w hR hS⟩
theorem h_done (hr : Region.ready .any ops listed = []) (h : G N R (St W0 F L) (Q .normal)) : G N R (St W0 F L) (wpAnyH P .any ops Q Sx fuel listed) := fun a w hR hS => wpAnyH_done hr (h a w hR hS) fuel
end
end Go.Proofs.Ytpoelkfncpjmfaa
