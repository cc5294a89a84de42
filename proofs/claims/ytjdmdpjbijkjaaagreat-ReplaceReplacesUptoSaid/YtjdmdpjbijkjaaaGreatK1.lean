/- The texts that the proof leans on, one behind the other (1 of 7). -/
import Derived.WalkKit
import Derived.Below
import Derived.Deep.Quiet
import Derived.Deep.MidRow
import Derived.Laws.Rows
import Derived.Laws.OwnMore
import Derived.ScopeJumps
import Derived.KernelRfl
import Derived.Deep.LoopGhost
import Derived.IntWalk
import Derived.WalkSpells
import Derived.Test.YtjdmdpjbijkjaaaGreatRows
import Derived.ProofKit
import Derived.OpenShut
import Derived.Carry
import Derived.Deep.Slices
import Derived.Shelf.Strings.Builder1
import Derived.Shelf.Small.Strs
import Derived.Shelf.Small.Wraps
import Derived.Shelf.Strings.BuilderF
import Derived.Shelf.Strings.BuilderK
import Derived.Shelf.Strconv.Itoa0
import Derived.Shelf.Strings.Search1
import Derived.Shelf.Strings.Search2
import Derived.Shelf.Strings.Cut
import Derived.Shelf.LaysM
import Derived.Shelf.Strings.Shaped
import Derived.Shelf.Strings.Prefix
import Derived.Shelf.Strings.BuilderCap
import Derived.Test.YtjdmdpjbijkjaaaGreatProg
import Derived.Shelf.Strings.BuilderX
import Derived.Shelf.Lays
import Derived.Maps.AppendAt
import Derived.Laws.BytesString
import Derived.Lib.AppendStr
import Derived.StillTail
import Derived.OrdersHeld
import Derived.Laws.Slices
import Derived.Orders
import Derived.DataElems
namespace Go.Proofs.YtjdmdpjbijkjaaaGreat
open Go Go.RowKit
theorem ret_bool {a b : Bool} (h : a = b) : Ending.returned (.bool a) = .returned (.bool b) := by rw [h]
theorem ret_int {k : IntKind} {a b : Int} (h : a = b) : Ending.returned (.int k a) = .returned (.int k b) := by rw [h]
abbrev Regs := List (Nat × Value)
structure Rf (N : Nat) (R : Regs) (a : Act) : Prop where
  size : a.tmps.size = N
  defers : a.defers = []
  get : ∀ i v, R.lookup i = some v → a.tmps[i]? = some v
def ev (R : Regs) : Operand → Option Value
  | .tmp i => R.lookup i
  | .const v => some v
  | .global g => some (.pointer (some ⟨g, 0, none⟩))
  | .func f => some (.func (.func f) #[] #[])
section
variable {N : Nat} {R R' : Regs} {a : Act} {v : Value} {d : Nat}
theorem Rf.eval (h : Rf N R a) {x : Operand} (hx : ev R x = some v) : a.eval x = v := by
  cases x with
  | tmp i =>
    have := h.get i v hx;simp [Act.eval, this]
  | const u => simp only [ev, Option.some.injEq] at hx; exact hx
  | global g => simpa [ev, Act.eval] using hx
  | func f => simpa [ev, Act.eval] using hx
theorem Rf.put (h : Rf N R a) (hd : Nat.blt d N = true) : Rf N ((d, v) :: R) (a.put (some d) v) := by
  have hd' : d < N := Nat.le_of_ble_eq_true hd;refine ⟨by simp [Act.put, h.size], h.defers, fun i u hi => ?_⟩;simp only [Act.put];rw [List.lookup_cons] at hi;by_cases e : i = d
  · subst e;simp at hi
    subst hi;simp [h.size, hd']
  · have e' : (i == d) = false := by simpa using e
    simp only [e'] at hi;rw [Array.getElem?_setIfInBounds_ne (fun q => e q.symm)];exact h.get i u hi
theorem Rf.sub (h : Rf N R a) (hs : ∀ i v, R'.lookup i = some v → R.lookup i = some v) : Rf N R' a :=
  ⟨h.size, h.defers, fun i v hi => h.get i v (hs i v hi)⟩
def Regs.only (R : Regs) : List Nat → Regs
  | [] => []
  | k :: ks => match R.lookup k with
    | some v => (k, v) :: Regs.only R ks
    | none => Regs.only R ks
theorem Rf.only (h : Rf N R a) (ks : List Nat) : Rf N (R.only ks) a := by
  refine h.sub fun i v hi => ?_;induction ks with
  | nil => simp [Regs.only] at hi
  | cons k ks ih =>
    unfold Regs.only at hi
    cases hk : R.lookup k with
    | none => rw [hk] at hi; exact ih hi
    | some u =>
      rw [hk] at hi;simp only [List.lookup_cons] at hi;by_cases e : i = k
      · subst e;simp at hi
        rw [hk, hi]
      · have e' : (i == k) = false := by simpa using e
        rw [e'] at hi;exact ih hi
end
structure Ent0 where
  fp : List Nat
  holds : World → Prop
  stable : ∀ w w' : World, (∀ k, k ∈ fp → w'.heap[k]? = w.heap[k]?) → holds w → holds w'
  inb : ∀ w, holds w → ∀ k, k ∈ fp → k < w.heap.size
theorem lt_of_some {w : World} {b : Nat} {o : Obj} (h : w.heap[b]? = some o) : b < w.heap.size := by
  by_cases hlt : b < w.heap.size
  · exact hlt
  · have hn : w.heap[b]? = none := by simp; omega
    rw [hn] at h; cases h
theorem ownsRow_stable {w w' : World} {e : TypeId} {size : Nat} {v : Value} {n : Nat} {xs : List Value} (hk : ∀ k, k ∈ v.ownBlock.toList → w'.heap[k]? = w.heap[k]?) (h : w.ownsRow 0 e size v n xs) : w'.ownsRow 0 e size v n xs := by
  obtain ⟨h1, h2⟩ := h;refine ⟨h1, ?_⟩;rcases h2 with h2 | ⟨g, cap, cur, hv, hg, hh, r⟩
  · exact .inl h2
  · refine .inr ⟨g, cap, cur, hv, hg, ?_, r⟩;rw [hk g (by simp [hv, Value.ownBlock])];exact hh
inductive Ent where
  | cells (b : Nat) (t : TypeId) (cs : List Value)
  | row (e : TypeId) (size : Nat) (v : Value) (n : Nat) (xs : List Value)
  | own (x : Ent0)
def Ent.fp : Ent → List Nat
  | .cells b _ _ => [b]
  | .row _ _ v _ _ => v.ownBlock.toList
  | .own x => x.fp
def Ent.holds : Ent → World → Prop
  | .cells b t cs, w => w.heap[b]? = some (.cells cs.toArray t (0, 0))
  | .row e size v n xs, w => w.ownsRow 0 e size v n xs
  | .own x, w => x.holds w
theorem Ent.stable (e : Ent) (w w' : World) (hk : ∀ k, k ∈ e.fp → w'.heap[k]? = w.heap[k]?) (h : e.holds w) : e.holds w' := by
  cases e with
  | cells b t cs => show w'.heap[b]? = _; rw [hk b (by simp [Ent.fp])]; exact h
  | row e size v n xs => exact ownsRow_stable hk h
  | own x => exact x.stable w w' hk h
theorem Ent.inb (e : Ent) (w : World) (h : e.holds w) (k : Nat) (hk : k ∈ e.fp) : k < w.heap.size := by
  cases e with
  | cells b t cs => simp [Ent.fp] at hk; subst hk; exact lt_of_some h
  | row e size v n xs =>
    have h' : w.ownsRow 0 e size v n xs := h;exact (h'.lt k (by simpa [Ent.fp] using hk)).2
  | own x => exact x.inb w h k hk
structure St (W0 : World) (F : List Nat) (L : List Ent) (w : World) : Prop where
  os : w.os = W0.os
  tape : w.tape = W0.tape
  output : w.output = W0.output
  size : W0.heap.size ≤ w.heap.size
  keep : ∀ k, k < W0.heap.size → k ∉ F → w.heap[k]? = W0.heap[k]?
  ok : ∀ e, e ∈ L → e.holds w
  own : ∀ e, e ∈ L → ∀ k, k ∈ e.fp → W0.heap.size ≤ k ∨ k ∈ F
  apart : L.Pairwise fun x y => ∀ k, k ∈ x.fp → k ∉ y.fp
section
variable {W0 w w' : World} {F : List Nat} {L L' : List Ent}
theorem St.refl (w : World) : St w [] [] w := ⟨rfl, rfl, rfl, Nat.le_refl _, fun _ _ _ => rfl, by simp, by simp, List.Pairwise.nil⟩
theorem St.below (h : St W0 [] L w) : Below W0.heap.size W0 w := ⟨h.os, h.tape, h.output, h.size, fun k hk => h.keep k hk (by simp)⟩
theorem St.of_below (h : Below W0.heap.size W0 w) : St W0 [] [] w := ⟨h.os, h.tape, h.output, h.size, fun k hk _ => h.block k hk, by simp, by simp, List.Pairwise.nil⟩
theorem St.get (h : St W0 F L w) {i : Nat} {e : Ent} (hi : L[i]? = some e) : e.holds w := h.ok e (List.mem_of_getElem? hi)
theorem St.cells (h : St W0 F L w) {i b : Nat} {t : TypeId} {cs : List Value} (hi : L[i]? = some (.cells b t cs)) : w.heap[b]? = some (.cells cs.toArray t (0, 0)) := h.get hi
theorem St.drew (h : St W0 F L w) : St W0 F L { w with drawn := w.drawn + 1 } :=
  ⟨h.os, h.tape, h.output, h.size, h.keep, fun e he => e.stable w _ (fun _ _ => rfl) (h.ok e he), h.own, h.apart⟩
theorem St.sub (h : St W0 F L w) (hs : L'.Sublist L) : St W0 F L' w :=
  ⟨h.os, h.tape, h.output, h.size, h.keep, fun e he => h.ok e (hs.subset he), fun e he => h.own e (hs.subset he), h.apart.sublist hs⟩
theorem pairwise_apart_perm (hp : L.Perm L') (h : L.Pairwise fun x y : Ent => ∀ k, k ∈ x.fp → k ∉ y.fp) : L'.Pairwise fun x y => ∀ k, k ∈ x.fp → k ∉ y.fp :=
  hp.pairwise h (fun hxy k hk hk' => hxy k hk' hk)
theorem St.perm (h : St W0 F L w) (hp : L.Perm L') : St W0 F L' w :=
  ⟨h.os, h.tape, h.output, h.size, h.keep, fun e he => h.ok e (hp.mem_iff.2 he), fun e he => h.own e (hp.mem_iff.2 he), pairwise_apart_perm hp h.apart⟩
theorem St.new (h : St W0 F L w) (t : TypeId) (cs : List Value) : St W0 F (.cells w.heap.size t cs :: L) (w.alloc (.cells cs.toArray t)) := by
  have hold : ∀ k, k < w.heap.size → (w.alloc (.cells cs.toArray t)).heap[k]? = w.heap[k]? := fun k hk => Below.heap_alloc _ _ _ hk;refine ⟨h.os, h.tape, h.output, ?_, fun k hk hF => ?_, fun e he => ?_, fun e he k hk => ?_, ?_⟩
  · have := h.size; simp; omega
  · rw [hold k (by have := h.size; omega)]; exact h.keep k hk hF
  · rcases List.mem_cons.1 he with rfl | he
    · exact heap_alloc_new _ _
    · exact e.stable w _ (fun k hk => hold k (e.inb w (h.ok e he) k hk)) (h.ok e he)
  · rcases List.mem_cons.1 he with rfl | he
    · simp [Ent.fp] at hk; subst hk; exact .inl h.size
    · exact h.own e he k hk
  · refine List.pairwise_cons.2 ⟨fun y hy k hk hk' => ?_, h.apart⟩;simp [Ent.fp] at hk; subst hk
    exact Nat.lt_irrefl _ (y.inb w (h.ok y hy) _ hk')
theorem St.write (h : St W0 F L w) {i : Nat} {e e' : Ent} (hi : L[i]? = some e) (hos : w'.os = w.os) (htape : w'.tape = w.tape) (hout : w'.output = w.output) (hsize : w.heap.size ≤ w'.heap.size)
    (hk : ∀ k, k < w.heap.size → k ∉ e.fp → w'.heap[k]? = w.heap[k]?) (hh : e'.holds w') (hfp : ∀ k, k ∈ e'.fp → k ∈ e.fp ∨ w.heap.size ≤ k) : St W0 F (L.set i e') w' := by
  have hmem : e ∈ L := List.mem_of_getElem? hi;have hilt : i < L.length := (List.getElem?_eq_some_iff.1 hi).1;have hie : L[i] = e := (List.getElem?_eq_some_iff.1 hi).2
  have hapart : ∀ y, ∀ j, j < L.length → j ≠ i → L[j]? = some y → ∀ k, k ∈ e.fp → k ∉ y.fp := by
    intro y j hj hne hy k hke hky;have hjy : L[j] = y := (List.getElem?_eq_some_iff.1 hy).2;rcases Nat.lt_or_ge i j with hlt | hge
    · exact (List.pairwise_iff_getElem.1 h.apart i j hilt hj hlt) k (by rw [hie]; exact hke) (by rw [hjy]; exact hky)
    · exact (List.pairwise_iff_getElem.1 h.apart j i hj hilt (by omega)) k (by rw [hjy]; exact hky) (by rw [hie]; exact hke)
  refine ⟨hos.trans h.os, htape.trans h.tape, hout.trans h.output, Nat.le_trans h.size hsize, fun k hk0 hF => ?_, fun y hy => ?_, fun y hy k hky => ?_, ?_⟩
  · rw [hk k (by have := h.size; omega) (fun hke => ?_)]
    · exact h.keep k hk0 hF
    · rcases h.own e hmem k hke with h1 | h1
      · omega
      · exact hF h1
  · obtain ⟨j, hj⟩ := List.getElem?_of_mem hy;rw [List.getElem?_set] at hj;by_cases e1 : i = j
    · simp [e1] at hj
      rw [← hj.2]; exact hh
    · simp [e1] at hj
      have hjlt : j < L.length := (List.getElem?_eq_some_iff.1 hj).1;have hyL : y ∈ L := List.mem_of_getElem? hj;exact y.stable w w' (fun k hky => hk k (y.inb w (h.ok y hyL) k hky) (fun hke => hapart y j hjlt (fun q => e1 q.symm) hj k hke hky)) (h.ok y hyL)
  · obtain ⟨j, hj⟩ := List.getElem?_of_mem hy;rw [List.getElem?_set] at hj;by_cases e1 : i = j
    · simp [e1] at hj
      rw [← hj.2] at hky;rcases hfp k hky with h1 | h1
      · exact h.own e hmem k h1
      · exact .inl (Nat.le_trans h.size h1)
    · simp [e1] at hj
      exact h.own y (List.mem_of_getElem? hj) k hky
  · rw [List.pairwise_iff_getElem];intro p q hp hq hpq k hkp hkq;simp only [List.length_set] at hp hq;rw [List.getElem_set] at hkp hkq
    have hfar : ∀ j, (hj : j < L.length) → j ≠ i → ∀ k, k ∈ e'.fp → k ∉ (L[j]).fp := by
      intro j hj hne k hk1 hk2;rcases hfp k hk1 with h1 | h1
      · exact hapart L[j] j hj hne (List.getElem?_eq_getElem hj) k h1 hk2
      · have := (L[j]).inb w (h.ok _ (List.getElem_mem hj)) k hk2;omega
    by_cases e1 : i = p
    · simp only [e1, if_true] at hkp;have e2 : i ≠ q := by omega
      rw [if_neg (by omega)] at hkq;exact hfar q hq (by omega) k hkp hkq
    · rw [if_neg e1] at hkp;by_cases e2 : i = q
      · simp only [e2, if_true] at hkq;exact hfar p hp (by omega) k hkq hkp
      · rw [if_neg e2] at hkq;exact (List.pairwise_iff_getElem.1 h.apart p q hp hq hpq) k hkp hkq
theorem St.setCell (h : St W0 F L w) {i b off : Nat} {t : TypeId} {cs : List Value} (hi : L[i]? = some (.cells b t cs)) (v : Value) :
    St W0 F (L.set i (.cells b t (cs.set off v))) (w.setCell ⟨b, off, none⟩ v) := by
  refine h.write hi rfl rfl rfl (by simp [World.setCell]) (fun k _ hk => Below.heap_setCell _ _ _ _ (by simpa [Ent.fp] using hk)) ?_ (fun k hk => .inl hk);have := heap_setCell_same w b off cs.toArray t v (h.cells hi);show (w.setCell ⟨b, off, none⟩ v).heap[b]? = _
  rw [this];simp
theorem St.join {L0 Lr : List Ent} (h : St W0 F (L0 ++ Lr) w) {F0 : List Nat} (hF0 : ∀ k, k ∈ F0 → ∃ e, e ∈ L0 ∧ k ∈ e.fp) (h1 : St w F0 L' w') : St W0 F (L' ++ Lr) w' := by
  have hr : ∀ e, e ∈ Lr → ∀ k, k ∈ e.fp → k < w.heap.size ∧ k ∉ F0 := by
    intro e he k hk;refine ⟨e.inb w (h.ok e (List.mem_append_right _ he)) k hk, fun hk0 => ?_⟩;obtain ⟨e0, he0, hk0'⟩ := hF0 k hk0;exact (List.pairwise_append.1 h.apart).2.2 e0 he0 e he k hk0' hk
  refine ⟨h1.os.trans h.os, h1.tape.trans h.tape, h1.output.trans h.output, Nat.le_trans h.size h1.size, fun k hk hF => ?_, fun e he => ?_, fun e he k hk => ?_, ?_⟩
  · rw [h1.keep k (by have := h.size; omega) (fun hk0 => ?_)]
    · exact h.keep k hk hF
    · obtain ⟨e0, he0, hk0'⟩ := hF0 k hk0;rcases h.own e0 (List.mem_append_left _ he0) k hk0' with h2 | h2
      · omega
      · exact hF h2
  · rcases List.mem_append.1 he with he | he
    · exact h1.ok e he
    · exact e.stable w w' (fun k hk => h1.keep k (hr e he k hk).1 (hr e he k hk).2) (h.ok e (List.mem_append_right _ he))
  · rcases List.mem_append.1 he with he | he
    · rcases h1.own e he k hk with h2 | h2
      · exact .inl (Nat.le_trans h.size h2)
      · obtain ⟨e0, he0, hk0'⟩ := hF0 k h2;exact h.own e0 (List.mem_append_left _ he0) k hk0'
    · exact h.own e (List.mem_append_right _ he) k hk
  · refine List.pairwise_append.2 ⟨h1.apart, (List.pairwise_append.1 h.apart).2.1, fun x hx y hy k hk hky => ?_⟩;rcases h1.own x hx k hk with h2 | h2
    · have := (hr y hy k hky).1; omega
    · exact (hr y hy k hky).2 h2
theorem St.then (h : St W0 F L w) (h1 : St w [] L' w') : St W0 F (L' ++ L) w' := St.join (L0 := []) (by simpa using h) (by simp) h1
end
def G (N : Nat) (R : Regs) (S : World → Prop) (X : Act → World → Prop) : Prop := ∀ a w, Rf N R a → S w → X a w
end Go.Proofs.YtjdmdpjbijkjaaaGreat

namespace Go.Proofs.YtjdmdpjbijkjaaaGreat
open Go Go.RowKit
section
variable {P : Program} {N : Nat} {R R' : Regs} {S S' : World → Prop} {Q : Exit → Act → World → Prop} {X : Act → World → Prop}
theorem G.mono {X Y : Act → World → Prop} (h : G N R S X) (hxy : ∀ a w, X a w → Y a w) : G N R S Y := fun a w hR hS => hxy a w (h a w hR hS)
theorem G.weaken (hs : ∀ w, S w → S' w) (h : G N R S' X) : G N R S X := fun a w hR hS => h a w hR (hs w hS)
theorem G.keep (ks : List Nat) (hR : R.only ks = R') (h : G N R' S X) : G N R S X := fun a w hr hS => h a w (hR ▸ hr.only ks) hS
theorem g_seq {x y : Code} (h : G N R S (x.wp P (Exit.then (y.wp P Q) Q))) : G N R S ((Code.seq x y).wp P Q) := fun a w hR hS => wp_seq (h a w hR hS)
theorem g_skip (h : G N R S (Q .normal)) : G N R S (Code.skip.wp P Q) := fun a w hR hS => wp_skip (h a w hR hS)
theorem g_label {l : Nat} (h : G N R S (Q .normal)) : G N R S ((Code.label l).wp P Q) := fun a w hR hS => wp_label (h a w hR hS)
theorem g_exit {id : Nat} (h : G N R S (Q (.exit id))) : G N R S ((Code.exit id).wp P Q) := fun a w hR hS => wp_exit (h a w hR hS)
theorem g_goto {l : Nat} (h : G N R S (Q (.goto l))) : G N R S ((Code.goto l).wp P Q) := fun a w hR hS => wp_goto (h a w hR hS)
theorem g_ret (h : G N R S (Q .ret)) : G N R S (Code.ret.wp P Q) := fun a w hR hS => wp_ret (h a w hR hS)
theorem g_block {id : Nat} {c : Code} (h : G N R S (c.wp P (Exit.inBlock id Q))) : G N R S ((Code.block id c).wp P Q) := fun a w hR hS => wp_block (h a w hR hS)
theorem g_cond_t {c : Operand} {x y : Code} (hc : ev R c = some (.bool true)) (h1 : G N R S (x.wp P Q)) : G N R S ((Code.cond c x y).wp P Q) := fun a w hR hS => wp_cond_true (hR.eval hc) (h1 a w hR hS)
theorem g_cond_f {c : Operand} {x y : Code} (hc : ev R c = some (.bool false)) (h1 : G N R S (y.wp P Q)) : G N R S ((Code.cond c x y).wp P Q) := fun a w hR hS => wp_cond_false (hR.eval hc) (h1 a w hR hS)
theorem g_then {K : Act → World → Prop} (h : G N R S K) : G N R S (Exit.then K Q .normal) := h
theorem g_then_exit {K : Act → World → Prop} {id : Nat} (h : G N R S (Q (.exit id))) : G N R S (Exit.then K Q (.exit id)) := h
theorem g_then_ret {K : Act → World → Prop} (h : G N R S (Q .ret)) : G N R S (Exit.then K Q .ret) := h
theorem g_then_goto {K : Act → World → Prop} {l : Nat} (h : G N R S (Q (.goto l))) : G N R S (Exit.then K Q (.goto l)) := h
theorem g_in_normal {id : Nat} (h : G N R S (Q .normal)) : G N R S (Exit.inBlock id Q .normal) := h
theorem g_in_ret {id : Nat} (h : G N R S (Q .ret)) : G N R S (Exit.inBlock id Q .ret) := h
theorem g_in_goto {id l : Nat} (h : G N R S (Q (.goto l))) : G N R S (Exit.inBlock id Q (.goto l)) := h
theorem g_in_exit {id : Nat} (h : G N R S (Q .normal)) : G N R S (Exit.inBlock id Q (.exit id)) := fun a w hR hS => by
  show Exit.inBlock id Q (.exit id) a w
  simp only [Exit.inBlock, if_true];exact h a w hR hS
theorem g_in_exit_ne {id id' : Nat} (hne : Nat.beq id' id = false) (h : G N R S (Q (.exit id'))) : G N R S (Exit.inBlock id Q (.exit id')) := fun a w hR hS => by
  have hne' : id' ≠ id := Nat.ne_of_beq_eq_false hne;show Exit.inBlock id Q (.exit id') a w
  simp only [Exit.inBlock, if_neg hne'];exact h a w hR hS
def Again {α : Type} (N : Nat) (Rl : α → Regs) (Sl : α → World → Prop) (m : α → Nat) (n : Nat) (a : Act) (w : World) : Prop := ∃ y, m y < n ∧ Rf N (Rl y) a ∧ Sl y w
theorem g_loop {α : Type} {c : Code} (Rl : α → Regs) (Sl : α → World → Prop) (m : α → Nat) (x0 : α) (ks : List Nat) (hR : R.only ks = Rl x0) (h0 : ∀ w, S w → Sl x0 w)
    (round : ∀ x, G N (Rl x) (Sl x) (c.wp P (Exit.then (Again N Rl Sl m (m x)) Q))) : G N R S ((Code.loop c).wp P Q) := by
  intro a w hr hS;refine wp_loop_ghost (fun n a w => ∃ x, m x = n ∧ Rf N (Rl x) a ∧ Sl x w) (m x0) ⟨x0, rfl, hR ▸ hr.only ks, h0 w hS⟩ ?_;rintro n a w ⟨x, rfl, hrx, hSx⟩;refine wp_mono (round x a w hrx hSx) ?_;intro e a' w' hq;cases e with
  | normal => obtain ⟨y, h1, h2, h3⟩ := hq; exact ⟨m y, h1, y, rfl, h2, h3⟩
  | _ => exact hq
theorem g_again {α : Type} {Rl : α → Regs} {Sl : α → World → Prop} {m : α → Nat} {n : Nat} (y : α) (ks : List Nat) (hm : m y < n) (hR : R.only ks = Rl y) (hS : ∀ w, S w → Sl y w) : G N R S (Exit.then (Again N Rl Sl m n) Q .normal) :=
  fun _ w hr hs => ⟨y, hm, hR ▸ hr.only ks, hS w hs⟩
def Exit.jumps (J : Nat → Nat → Act → World → Prop) (n : Option Nat) (Q : Exit → Act → World → Prop) : Exit → Act → World → Prop
  | .goto l, a, w => ∃ k, (∀ m, n = some m → k < m) ∧ J k l a w
  | e, a, w => Q e a w
theorem wp_scope_ghost {c : Code} (J : Nat → Nat → Act → World → Prop) {a : Act} {w : World}
    (first : c.wp P (Exit.jumps J none Q) a w)
    (pass : ∀ n l a w, J n l a w → ∃ rest, findLabel c l = some rest ∧ rest.wp P (Exit.jumps J (some n) Q) a w) : (Code.scope c).wp P Q a w := by
  intro b k cs;have hg : ∀ l rest, findLabel c l = some rest → gotoIn l (.inScope c :: k) = some (.code rest :: .inScope c :: k) := fun l rest hf => by simp [gotoIn, hf]
  have key : ∀ n l a w rest, J n l a w → findLabel c l = some rest → ∃ e a' w', Q e a' w' ∧ Arrives P (lone (b.at a (.code rest :: .inScope c :: k)) cs w) b k cs e a' w' := by
    intro n;induction n using Nat.strongRecOn with
    | _ n ih =>
      intro l a w rest hJ hf;obtain ⟨rest', hf', hw⟩ := pass n l a w hJ;rw [hf] at hf';obtain rfl := Option.some.inj hf';obtain ⟨e, a₁, w₁, hq, harr⟩ := hw b (.inScope c :: k) cs;cases e with
      | normal => exact ⟨.normal, a₁, w₁, hq, Steps.trans harr (.one step_inScope)⟩
      | exit id => exact ⟨.exit id, a₁, w₁, hq, fun k' hk => harr k' (by simp [exitTo, hk])⟩
      | goto l' =>
        obtain ⟨n', hlt, hJ'⟩ := hq;obtain ⟨rest2, hf2, _⟩ := pass n' l' a₁ w₁ hJ';obtain ⟨e₂, a₂, w₂, hq₂, harr₂⟩ := ih n' (hlt n rfl) l' a₁ w₁ rest2 hJ' hf2;exact ⟨e₂, a₂, w₂, hq₂, .of_steps (harr _ (hg l' rest2 hf2)) harr₂⟩
      | ret => exact ⟨_, a₁, w₁, hq, harr⟩
      | panic ch => exact ⟨_, a₁, w₁, hq, harr⟩
      | outgrown => exact ⟨_, a₁, w₁, hq, harr⟩
  obtain ⟨e, a₁, w₁, hq, harr⟩ := first b (.inScope c :: k) cs
  cases e with
  | normal => exact ⟨.normal, a₁, w₁, hq, .head step_scope (Steps.trans harr (.one step_inScope))⟩
  | exit id => exact ⟨.exit id, a₁, w₁, hq, fun k' hk => .head step_scope (harr k' (by simp [exitTo, hk]))⟩
  | goto l' =>
    obtain ⟨n', _, hJ'⟩ := hq;obtain ⟨rest2, hf2, _⟩ := pass n' l' a₁ w₁ hJ';obtain ⟨e₂, a₂, w₂, hq₂, harr₂⟩ := key n' l' a₁ w₁ rest2 hJ' hf2;exact ⟨e₂, a₂, w₂, hq₂, .of_steps (Steps.trans (.one step_scope) (harr _ (hg l' rest2 hf2))) harr₂⟩
  | ret => exact ⟨_, a₁, w₁, hq, .of_steps (.one step_scope) harr⟩
  | panic ch => exact ⟨_, a₁, w₁, hq, .of_steps (.one step_scope) harr⟩
  | outgrown => exact ⟨_, a₁, w₁, hq, .of_steps (.one step_scope) harr⟩
def At {α : Type} (N : Nat) (Rl : α → Regs) (Sl : α → World → Prop) (lab m : α → Nat) (n l : Nat) (a : Act) (w : World) : Prop := ∃ x, m x = n ∧ lab x = l ∧ Rf N (Rl x) a ∧ Sl x w
theorem g_scope {α : Type} {c : Code} (Rl : α → Regs) (Sl : α → World → Prop) (lab m : α → Nat)
    (first : G N R S (c.wp P (Exit.jumps (At N Rl Sl lab m) none Q)))
    (pass : ∀ x, ∃ rest, findLabel c (lab x) = some rest ∧ G N (Rl x) (Sl x) (rest.wp P (Exit.jumps (At N Rl Sl lab m) (some (m x)) Q))) : G N R S ((Code.scope c).wp P Q) := by
  intro a w hr hS;refine wp_scope_ghost (At N Rl Sl lab m) (first a w hr hS) ?_;rintro n l a w ⟨x, rfl, rfl, hrx, hSx⟩;obtain ⟨rest, hf, hg⟩ := pass x;exact ⟨rest, hf, hg a w hrx hSx⟩
theorem g_jump {α : Type} {Rl : α → Regs} {Sl : α → World → Prop} {lab m : α → Nat} {n : Option Nat} {l : Nat} (y : α) (ks : List Nat) (hl : lab y = l) (hm : ∀ j, n = some j → m y < j) (hR : R.only ks = Rl y) (hS : ∀ w, S w → Sl y w) : G N R S (Exit.jumps (At N Rl Sl lab m) n Q (.goto l)) :=
  fun _ w hr hs => ⟨m y, hm, y, rfl, hl, hR ▸ hr.only ks, hS w hs⟩
theorem g_jumps_ret {J : Nat → Nat → Act → World → Prop} {n : Option Nat} (h : G N R S (Q .ret)) : G N R S (Exit.jumps J n Q .ret) := h
def regsFrom (i : Nat) : List Value → Regs
  | [] => []
  | v :: vs => (i, v) :: regsFrom (i + 1) vs
theorem lookup_regsFrom (vs : List Value) : ∀ (i j : Nat) (v : Value), (regsFrom i vs).lookup j = some v → i ≤ j ∧ vs[j - i]? = some v := by
  induction vs with
  | nil => intro i j v h; simp [regsFrom] at h
  | cons u vs ih =>
    intro i j v h;simp only [regsFrom, List.lookup_cons] at h;by_cases e : j = i
    · subst e; simp at h; subst h; simp
    · have e' : (j == i) = false := by simpa using e
      rw [e'] at h;obtain ⟨h1, h2⟩ := ih (i + 1) j v h;refine ⟨by omega, ?_⟩;have : j - i = (j - (i + 1)) + 1 := by omega
      rw [this, List.getElem?_cons_succ]; exact h2
theorem fn_intro {f : FuncId} {fn : Func} {c : Code} {vs : List Value} {w : World} {Rr : Ending → World → Prop} {N : Nat} {R : Regs} (hf : P.funcs[f]? = some fn) (hb : fn.body = some c) (hN : fn.ntmps = N) (hn : Nat.ble vs.length N = true)
    (hR : regsFrom 0 vs = R) (h : G N R (St w [] []) (c.wp P (bodyPost P fn Rr))) : Calls P f vs.toArray w Rr := by
  subst hR;have hn' : vs.length ≤ N := Nat.le_of_ble_eq_true hn;refine calls_of_wp hf hb (h _ w ⟨?_, rfl, fun i v hi => ?_⟩ (St.refl w))
  · simp [hN]; omega
  · obtain ⟨_, h2⟩ := lookup_regsFrom vs 0 i v hi;simp only [Nat.sub_zero] at h2;have hlt : i < vs.length := (List.getElem?_eq_some_iff.1 h2).1;simp [Array.getElem?_append, hlt]
    exact (List.getElem?_eq_some_iff.1 h2).2
theorem St.start {w : World} (L : List Ent) (ok : ∀ e ∈ L, e.holds w) (ap : L.Pairwise fun x y => ∀ k, k ∈ x.fp → k ∉ y.fp) : St w (L.flatMap Ent.fp) L w :=
  ⟨rfl, rfl, rfl, Nat.le_refl _, fun _ _ _ => rfl, ok, fun e he _ hk => .inr (List.mem_flatMap.2 ⟨e, he, hk⟩), ap⟩
theorem fn_intro_own {f : FuncId} {fn : Func} {c : Code} {vs : List Value} {w : World} {Rr : Ending → World → Prop} {N : Nat} {R : Regs} {F : List Nat} {L : List Ent} (hf : P.funcs[f]? = some fn) (hb : fn.body = some c) (hN : fn.ntmps = N) (hn : Nat.ble vs.length N = true)
    (hR : regsFrom 0 vs = R) (hS : St w F L w) (h : G N R (St w F L) (c.wp P (bodyPost P fn Rr))) : Calls P f vs.toArray w Rr := by
  subst hR;have hn' : vs.length ≤ N := Nat.le_of_ble_eq_true hn;refine calls_of_wp hf hb (h _ w ⟨?_, rfl, fun i v hi => ?_⟩ hS)
  · simp [hN]; omega
  · obtain ⟨_, h2⟩ := lookup_regsFrom vs 0 i v hi;simp only [Nat.sub_zero] at h2;have hlt : i < vs.length := (List.getElem?_eq_some_iff.1 h2).1;simp [Array.getElem?_append, hlt]
    exact (List.getElem?_eq_some_iff.1 h2).2
theorem g_end {fn : Func} {Rr : Ending → World → Prop} {v : Value} (hv : ∀ a w, Rf N R a → S w → (results fn a.tmps).run P w = .ok v w) (h : ∀ w, S w → Rr (.returned v) w) : G N R S (bodyPost P fn Rr .ret) :=
  fun a w hr hS => ⟨hr.defers, v, hv a w hr hS, h w hS⟩
theorem g_end_normal {fn : Func} {Rr : Ending → World → Prop} (h : G N R S (bodyPost P fn Rr .ret)) : G N R S (bodyPost P fn Rr .normal) := h
theorem Rf.getD {a : Act} (h : Rf N R a) {t : Nat} {v : Value} (ht : R.lookup t = some v) : a.tmps[t]?.getD undef = v := by rw [h.get t v ht]; rfl
theorem g_end0 {fn : Func} {Rr : Ending → World → Prop} (hr : fn.results = #[]) (h : ∀ w, S w → Rr (.returned (.tuple #[])) w) : G N R S (bodyPost P fn Rr .ret) :=
  g_end (fun a w _ _ => by simp [results, hr]) h
theorem g_end1 {fn : Func} {Rr : Ending → World → Prop} {t : Nat} {v : Value} (hr : fn.results = #[.tmp t]) (ht : R.lookup t = some v) (h : ∀ w, S w → Rr (.returned v) w) : G N R S (bodyPost P fn Rr .ret) :=
  g_end (fun a w hR _ => by simp [results, hr, hR.getD ht]) h
theorem g_end2 {fn : Func} {Rr : Ending → World → Prop} {t u : Nat} {v v' : Value} (hr : fn.results = #[.tmp t, .tmp u]) (ht : R.lookup t = some v) (hu : R.lookup u = some v') (h : ∀ w, S w → Rr (.returned (.tuple #[v, v'])) w) : G N R S (bodyPost P fn Rr .ret) :=
  g_end (fun a w hR _ => by simp [results, hr, hR.getD ht, hR.getD hu]) h
theorem g_end3 {fn : Func} {Rr : Ending → World → Prop} {t u s : Nat} {v v' v'' : Value} (hr : fn.results = #[.tmp t, .tmp u, .tmp s]) (ht : R.lookup t = some v) (hu : R.lookup u = some v') (hs : R.lookup s = some v'') (h : ∀ w, S w → Rr (.returned (.tuple #[v, v', v''])) w) : G N R S (bodyPost P fn Rr .ret) :=
  g_end (fun a w hR _ => by simp [results, hr, hR.getD ht, hR.getD hu, hR.getD hs]) h
theorem run_row {w : World} {b off n : Nat} {t ty : TypeId} {cs vs : List Value} (hb : w.heap[b]? = some (.cells cs.toArray t (0, 0))) (ha : ∀ w, (isAgg ty).run P w = .ok true w) (hz : ∀ w, (sizeOf ty).run P w = .ok n w)
    (hv : (cs.drop off).take n = vs) (hn : vs.length = n) : (loadVar ty ⟨b, off, none⟩).run P w = .ok (.agg vs.toArray) w := by
  have hl : (loadCells ⟨b, off, none⟩ vs.length).run P w = .ok vs.toArray w :=
    run_loadCells_list (P := P) w ⟨b, off, none⟩ vs (fun j v hj => by
      rw [Addr.add_mid, cell_of_row w b (off + j) _ t (0, 0) hb];have hlt : j < vs.length := (List.getElem?_eq_some_iff.1 hj).1;rw [← hv] at hj;rw [List.getElem?_take] at hj;rw [if_pos (by omega), List.getElem?_drop] at hj;simpa using hj)
  rw [hn] at hl;simp [loadVar, Sem.run_bind, ha, hz, hl]
theorem g_end_cell {fn : Func} {Rr : Ending → World → Prop} {W0 : World} {F : List Nat} {L : List Ent} {t b n : Nat} {ty t' : TypeId} {cs : List Value} (i : Nat) (hr : fn.results = #[.cell t ty]) (ht : R.lookup t = some (.pointer (some ⟨b, 0, none⟩))) (hi : L[i]? = some (.cells b t' cs))
    (ha : ∀ w, (isAgg ty).run P w = .ok true w) (hz : ∀ w, (sizeOf ty).run P w = .ok n w) (hn : cs.length = n) (h : ∀ w, St W0 F L w → Rr (.returned (.agg cs.toArray)) w) : G N R (St W0 F L) (bodyPost P fn Rr .ret) :=
  g_end (fun a w hR hS => by
    have e := run_row (P := P) (off := 0) (vs := cs) (hS.cells hi) ha hz (by rw [List.drop_zero, List.take_of_length_le (by omega)]) hn;simp [results, hr, hR.getD ht, asAddr, e]) h
end
end Go.Proofs.YtjdmdpjbijkjaaaGreat

namespace Go.Proofs.YtjdmdpjbijkjaaaGreat
open Go Go.RowKit
section
variable {P : Program} {N : Nat} {R R' : Regs} {S S' : World → Prop} {Q : Exit → Act → World → Prop} {X : Act → World → Prop}
variable {W0 : World} {F : List Nat} {L : List Ent}
variable {ops : Array Oper} {rest : List Oper} {o : Oper} {dst : Option Tmp} {op : Op} {ty : TypeId} {pos : String} {af : Array Edge} {gd : Option (Nat × Bool)}
def Yv (P : Program) (N : Nat) (R : Regs) (S : World → Prop) (o : Oper) (v : Value) : Prop :=
  ∀ a w, Rf N R a → S w → (execOp a.eval o).run P w = .ok (.value v) w
def want (ops : Array Oper) (R : Regs) (o : Oper) : Option Bool :=
  match o.guard with
  | none => some true
  | some (j, b) => match (ops[j]?).bind (·.dst) with
    | none => none
    | some t => match R.lookup t with
      | some (.bool c) => some (c == b)
      | some (.tuple _) => some false
      | _ => none
theorem wanted_of {a : Act} {b : Bool} (h : want ops R o = some b) (hR : Rf N R a) : Region.wanted o (yielded ops a.tmps) = b := by
  unfold want at h
  unfold Region.wanted
  split at h
  · rename_i hg
    simp only [hg]; simpa using h
  · rename_i j b' hg
    simp only [hg];split at h
    · cases h
    · rename_i t ht
      unfold yielded
      simp only [ht, Option.bind_some];split at h
      · rename_i c hc
        rw [hR.get t _ hc];simp at h ⊢
        cases b <;> cases c <;> cases b' <;> simp_all
      · rename_i u hc
        rw [hR.get t _ hc];simp at h ⊢
        subst h;rfl
      · cases h
theorem g_ops {id : Nat} {l : List Oper} (h : G N R S (wpList P l.toArray Q l)) : G N R S ((Code.region id l.toArray false).wp P Q) := fun a w hR hS => wp_region_lit (h a w hR hS)
theorem g_one (hw : want ops R o = some true) (h : ∀ K : Act → World → Prop, G N R S (fun a w => (∀ a w, wpList P ops Q rest a w → K a w) → o.wp P a w K Q)) : G N R S (wpList P ops Q (o :: rest)) := fun a w hR hS =>
  wpList_step fun K hK => by
    rw [wanted_of hw hR, if_pos rfl];exact h K a w hR hS hK
theorem Oper.wp_ok {a : Act} {w w' : World} {K : Act → World → Prop} {v : Value} (h : (execOp a.eval o).run P w = .ok (.value v) w') (hK : K (a.put o.dst v) w') : o.wp P a w K Q := by
  unfold Oper.wp; rw [h]; exact hK
theorem Oper.wp_skip {a : Act} {w w' : World} {K : Act → World → Prop} (h : (execOp a.eval o).run P w = .ok .skip w') (hK : K (a.put o.dst undef) w') : o.wp P a w K Q := by
  unfold Oper.wp; rw [h]; exact hK
theorem g_val {d : Nat} {v : Value} (hw : want ops R o = some true) (hd : o.dst = some d) (hN : Nat.blt d N = true) (hv : Yv P N R S o v) (h : G N ((d, v) :: R) S (wpList P ops Q rest)) : G N R S (wpList P ops Q (o :: rest)) :=
  g_one hw fun _ a w hR hS hK => Oper.wp_ok (hv a w hR hS) (hK _ _ (h _ _ (by rw [hd]; exact hR.put hN) hS))
theorem g_not {d : Nat} (hw : want ops R o = some false) (hd : o.dst = some d) (hN : Nat.blt d N = true) (h : G N ((d, undef) :: R) S (wpList P ops Q rest)) : G N R S (wpList P ops Q (o :: rest)) := fun a w hR hS =>
  wpList_step fun K hK => by
    rw [wanted_of hw hR, if_neg (by simp)];exact hK _ _ (h _ _ (by rw [hd]; exact hR.put hN) hS)
def GQ (N : Nat) (R : Regs) (X : Act → Prop) : Prop := ∀ a, Rf N R a → X a
theorem g_quiet {id : Nat} {l : List Oper} (hm : P.follows .mixedOrders = true) (hB : Region.lexB .any l.toArray = true)
    (h : GQ N R (wpQuiet P l.toArray (St W0 F L) (fun a => ∀ w, St W0 F L w → Q .normal a w) l)) : G N R (St W0 F L) ((Code.region id l.toArray true).wp P Q) :=
  fun a w hR hS => wp_region_quiet (C := St W0 F L) hm hB hS.drew (by simpa using h a hR)
theorem q_nil (h : G N R S (Q .normal)) : GQ N R (wpQuiet P ops S (fun a => ∀ w, S w → Q .normal a w) []) := fun a hR w hS => h a w hR hS
theorem q_val {Qq : Act → Prop} {d : Nat} {v : Value} (hw : want ops R o = some true) (hd : o.dst = some d) (hN : Nat.blt d N = true) (hv : Yv P N R S o v) (h : GQ N ((d, v) :: R) (wpQuiet P ops S Qq rest)) : GQ N R (wpQuiet P ops S Qq (o :: rest)) := fun a hR => by
  simp only [wpQuiet];rw [wanted_of hw hR, if_pos rfl];refine ⟨v, fun w hS => ?_, h _ (by rw [hd]; exact hR.put hN)⟩;unfold Oper.quietAt
  rw [hv a w hR hS];exact ⟨rfl, rfl⟩
theorem q_not {Qq : Act → Prop} {d : Nat} (hw : want ops R o = some false) (hd : o.dst = some d) (hN : Nat.blt d N = true) (h : GQ N ((d, undef) :: R) (wpQuiet P ops S Qq rest)) : GQ N R (wpQuiet P ops S Qq (o :: rest)) := fun a hR => by
  simp only [wpQuiet];rw [wanted_of hw hR, if_neg (by simp)];exact h _ (by rw [hd]; exact hR.put hN)
theorem lookup_over {i : Nat} {v : Value} (R : Regs) (h : R.lookup i = some v) : ∀ j u, ((i, v) :: R).lookup j = some u → R.lookup j = some u := fun j u hu => by
  rw [List.lookup_cons] at hu;by_cases e : j = i
  · subst e; simp at hu; subst hu; exact h
  · have e' : (j == i) = false := by simpa using e
    rw [e'] at hu; exact hu
theorem g_caseb (i : Nat) {t : Bool} (hi : R.lookup i = some (.bool t)) (h1 : t = true → G N ((i, .bool true) :: R) S X) (h2 : t = false → G N ((i, .bool false) :: R) S X) : G N R S X := fun a w hR hS => by
  cases t with
  | true => exact h1 rfl a w (hR.sub (lookup_over R hi)) hS
  | false => exact h2 rfl a w (hR.sub (lookup_over R hi)) hS
theorem g_casep (i : Nat) {p : Prop} {inst : Decidable p} (hi : R.lookup i = some (.bool (@decide p inst))) (h1 : p → G N ((i, .bool true) :: R) S X) (h2 : ¬ p → G N ((i, .bool false) :: R) S X) : G N R S X :=
  g_caseb i hi (fun h => h1 (of_decide_eq_true h)) (fun h => h2 (of_decide_eq_false h))
theorem q_caseb {X : Act → Prop} (i : Nat) {t : Bool} (hi : R.lookup i = some (.bool t)) (h1 : t = true → GQ N ((i, .bool true) :: R) X) (h2 : t = false → GQ N ((i, .bool false) :: R) X) : GQ N R X := fun a hR => by
  cases t with
  | true => exact h1 rfl a (hR.sub (lookup_over R hi))
  | false => exact h2 rfl a (hR.sub (lookup_over R hi))
theorem q_casep {X : Act → Prop} (i : Nat) {p : Prop} {inst : Decidable p} (hi : R.lookup i = some (.bool (@decide p inst))) (h1 : p → GQ N ((i, .bool true) :: R) X) (h2 : ¬ p → GQ N ((i, .bool false) :: R) X) : GQ N R X :=
  q_caseb i hi (fun h => h1 (of_decide_eq_true h)) (fun h => h2 (of_decide_eq_false h))
theorem evs_map {a : Act} (hR : Rf N R a) : ∀ (xs : List Operand) (vs : List Value), xs.mapM (ev R) = some vs → xs.map a.eval = vs := by
  intro xs;induction xs with
  | nil => intro vs h; simp at h; simp [h]
  | cons x xs ih =>
    intro vs h;simp only [List.mapM_cons] at h;cases hx : ev R x with
    | none => simp [hx] at h
    | some v =>
      cases hr : xs.mapM (ev R) with
      | none => simp [hx, hr] at h
      | some us =>
        simp [hx, hr] at h
        subst h;simp [hR.eval hx, ih us hr]
theorem run_call {f : FuncId} {xs : List Operand} {ats : Array TypeId} {vs : List Value} {a : Act} {w : World} (hR : Rf N R a) (hx : xs.mapM (ev R) = some vs) (hf : ∀ args w, (callFunc f args).run P w = .ok (.enter f args) w) :
    (execOp a.eval ⟨dst, .call { callee := .value (.func f), args := xs.toArray, argTypes := ats }, ty, pos, af, gd⟩).run P w = .ok (.enter f vs.toArray) w := by
  have e := evs_map hR xs vs hx;simp [execOp, resolve, Deferred.ofValue, invoke, Act.eval, hf, ← e]
theorem g_call {α : Type} {d : Nat} {f : FuncId} {xs : List Operand} {ats : Array TypeId} {vs : List Value} (r : α → Value) (Sx : α → World → Prop)
    (hw : want ops R ⟨some d, .call { callee := .value (.func f), args := xs.toArray, argTypes := ats }, ty, pos, af, gd⟩ = some true) (hN : Nat.blt d N = true)
    (hx : xs.mapM (ev R) = some vs) (hf : ∀ args w, (callFunc f args).run P w = .ok (.enter f args) w) (hc : ∀ w, S w → Calls P f vs.toArray w (fun e w' => ∃ x, e = .returned (r x) ∧ Sx x w'))
    (h : ∀ x, G N ((d, r x) :: R) (Sx x) (wpList P ops Q rest)) : G N R S (wpList P ops Q (⟨some d, .call { callee := .value (.func f), args := xs.toArray, argTypes := ats }, ty, pos, af, gd⟩ :: rest)) :=
  g_one hw fun K a w hR hS hK => by
    unfold Oper.wp
    rw [run_call hR hx hf];refine (hc w hS).mono fun e w' ⟨x, he, hS'⟩ => ?_;subst he;exact hK _ _ (h x _ _ (hR.put hN) hS')
theorem g_call1 {d : Nat} {f : FuncId} {xs : List Operand} {ats : Array TypeId} {vs : List Value} {v : Value}
    (hw : want ops R ⟨some d, .call { callee := .value (.func f), args := xs.toArray, argTypes := ats }, ty, pos, af, gd⟩ = some true) (hN : Nat.blt d N = true)
    (hx : xs.mapM (ev R) = some vs) (hf : ∀ args w, (callFunc f args).run P w = .ok (.enter f args) w) (hc : ∀ w, St W0 F L w → Calls P f vs.toArray w (fun e w' => e = .returned v ∧ Below w.heap.size w w'))
    (h : G N ((d, v) :: R) (St W0 F L) (wpList P ops Q rest)) : G N R (St W0 F L) (wpList P ops Q (⟨some d, .call { callee := .value (.func f), args := xs.toArray, argTypes := ats }, ty, pos, af, gd⟩ :: rest)) :=
  g_call (α := Unit) (fun _ => v) (fun _ => St W0 F L) hw hN hx hf (fun w hS => (hc w hS).mono fun _ _ ⟨he, hb⟩ => ⟨(), he, by simpa using hS.then (St.of_below hb)⟩) fun _ => h
theorem q_call1 {Qq : Act → Prop} {d : Nat} {f : FuncId} {xs : List Operand} {ats : Array TypeId} {vs : List Value} {v : Value}
    (hw : want ops R ⟨some d, .call { callee := .value (.func f), args := xs.toArray, argTypes := ats }, ty, pos, af, gd⟩ = some true) (hN : Nat.blt d N = true)
    (hx : xs.mapM (ev R) = some vs) (hf : ∀ args w, (callFunc f args).run P w = .ok (.enter f args) w) (hc : ∀ w, St W0 F L w → Calls P f vs.toArray w (fun e w' => e = .returned v ∧ Below w.heap.size w w'))
    (h : GQ N ((d, v) :: R) (wpQuiet P ops (St W0 F L) Qq rest)) : GQ N R (wpQuiet P ops (St W0 F L) Qq (⟨some d, .call { callee := .value (.func f), args := xs.toArray, argTypes := ats }, ty, pos, af, gd⟩ :: rest)) := fun a hR => by
  simp only [wpQuiet];rw [wanted_of hw hR, if_pos rfl];refine ⟨v, fun w hS => ?_, h _ (hR.put hN)⟩;unfold Oper.quietAt
  rw [run_call hR hx hf];exact ⟨rfl, (hc w hS).mono fun _ _ ⟨he, hb⟩ => ⟨he, by simpa using hS.then (St.of_below hb)⟩⟩
theorem y_move {x : Operand} {v : Value} (hx : ev R x = some v) : Yv P N R S ⟨dst, .move x, ty, pos, af, gd⟩ v := fun a w hR _ => by simp [execOp, hR.eval hx]
theorem y_assign {x : Operand} {v : Value} (hx : ev R x = some v) : Yv P N R S ⟨dst, .assign x, ty, pos, af, gd⟩ v := fun a w hR _ => by simp [execOp, hR.eval hx]
theorem y_pick_t {c x y : Operand} {v : Value} (hc : ev R c = some (.bool true)) (hx : ev R x = some v) : Yv P N R S ⟨dst, .pick c x y, ty, pos, af, gd⟩ v := fun a w hR _ => by
  simp [execOp, hR.eval hx, hR.eval hc, asBool]
theorem y_pick_f {c x y : Operand} {v : Value} (hc : ev R c = some (.bool false)) (hy : ev R y = some v) : Yv P N R S ⟨dst, .pick c x y, ty, pos, af, gd⟩ v := fun a w hR _ => by
  simp [execOp, hR.eval hy, hR.eval hc, asBool]
theorem y_nilCheck {x : Operand} {p : Addr} (hx : ev R x = some (.pointer (some p))) : Yv P N R S ⟨dst, .nilCheck x, ty, pos, af, gd⟩ (.pointer (some p)) := fun a w hR _ => by
  simp [execOp, hR.eval hx]
def fieldOff (P : Program) (t : TypeId) (i : Nat) : Option Nat :=
  match P.underlying t with
  | some (.struct fs) => match fs[i]? with
    | some f => if ((P.info? f.type).map (·.size)) == some 0 then none else if (P.info? f.type).isNone then none else some f.offset
    | none => none
  | _ => none
theorem run_fieldAt {t : TypeId} {i k : Nat} (hk : fieldOff P t i = some k) (p : Addr) (w : World) : (Instr.fieldAt t (.pointer (some p)) i).run P w = .ok (.pointer (some (p.add k))) w := by
  unfold fieldOff at hk
  cases hu : P.underlying t with
  | none => simp [hu] at hk
  | some d =>
    cases d with
    | struct fs =>
      cases hf : fs[i]? with
      | none => simp [hu, hf] at hk
      | some f =>
        simp only [hu, hf] at hk;split at hk
        · cases hk
        · rename_i h0
          split at hk
          · cases hk
          · rename_i h1
            simp at hk; subst hk
            cases hi : P.info? f.type with
            | none => simp [hi] at h1
            | some inf =>
              simp [hi] at h0
              simp [Instr.fieldAt, Sem.run_bind, run_underlying hu w, hf, Instr.sureAddr, fieldPlace, sizeOf, typeInfo, hi, h0]
    | _ => simp [hu] at hk
theorem y_fieldAddr {x : Operand} {t : TypeId} {i k b off : Nat} {m : Nat} (hx : ev R x = some (.pointer (some ⟨b, off, none⟩))) (hk : fieldOff P t i = some k) (hm : off + k = m) : Yv P N R S ⟨dst, .fieldAddr t x i, ty, pos, af, gd⟩ (.pointer (some ⟨b, m, none⟩)) := fun a w hR _ => by
  subst hm;simp [execOp, hR.eval hx, run_fieldAt hk, Addr.add_mid]
def spliceL (zs : List Value) (off : Nat) (cs : List Value) : List Value := zs.take off ++ (cs ++ zs.drop (off + cs.length))
def fillL (zs : List Value) : List Nat → List (Nat × Value) → List Value
  | o :: os, v :: vs => fillL (spliceL zs o v.2.cells.toList) os vs
  | _, _ => zs
def evParts (R : Regs) : List (Nat × Operand) → Option (List (Nat × Value))
  | [] => some []
  | (i, x) :: r => match ev R x, evParts R r with
    | some v, some vs => some ((i, v) :: vs)
    | _, _ => none
theorem evParts_map {a : Act} (hR : Rf N R a) : ∀ (ps : List (Nat × Operand)) (vs : List (Nat × Value)), evParts R ps = some vs → ps.map (fun (i, x) => (i, a.eval x)) = vs := by
  intro ps;induction ps with
  | nil => intro vs h; simp [evParts] at h; simp [h]
  | cons p ps ih =>
    obtain ⟨i, x⟩ := p;intro vs h;unfold evParts at h
    split at h
    · rename_i v us hv hu
      simp at h; subst h
      simp [hR.eval hv, ih us hu]
    · cases h
theorem y_build {t : TypeId} {ps : List (Nat × Operand)} {vs : List (Nat × Value)} {zs : List Value} {offs : List Nat} (hv : evParts R ps = some vs) (_hz : ∀ w, (zeroValue t).run P w = .ok (.agg zs.toArray) w) (hb : P.built t vs = some (fillL zs offs vs).toArray) :
    Yv P N R S ⟨dst, .build t ps.toArray, ty, pos, af, gd⟩ (.agg (fillL zs offs vs).toArray) := fun a w hR _ => by
  have e := evParts_map hR ps vs hv;have e2 : (ps.toArray.map fun (i, x) => (i, a.eval x)).toList = vs := by simpa using e
  have := run_build w t (ps.toArray.map fun (i, x) => (i, a.eval x)) _ (by rw [e2]; exact hb);simp only [execOp, Sem.run_bind, this, Result.andThen_ok];rfl
theorem y_load1 {x : Operand} {t : TypeId} {p : Addr} {v : Value} (hx : ev R x = some (.pointer (some p))) (ha : ∀ w, (isAgg t).run P w = .ok false w) (hc : ∀ w, S w → w.cell? p = some v) : Yv P N R S ⟨dst, .load t x, ty, pos, af, gd⟩ v := fun a w hR hS => by
  simp [execOp, hR.eval hx, Sem.run_bind, Instr.loadAt, Instr.sureAddr, loadVar, ha, load, Sem.run, hc w hS]
theorem cell_ent {i b off : Nat} {t' : TypeId} {cs : List Value} {v : Value} (hi : L[i]? = some (.cells b t' cs)) (hv : cs[off]? = some v) : ∀ w, St W0 F L w → w.cell? ⟨b, off, none⟩ = some v := fun w hS => by
  rw [cell_of_row w b off _ t' (0, 0) (hS.cells hi)];simpa using hv
theorem y_ld {x : Operand} {t t' : TypeId} {b off : Nat} {cs : List Value} {v : Value} (i : Nat) (hx : ev R x = some (.pointer (some ⟨b, off, none⟩))) (ha : ∀ w, (isAgg t).run P w = .ok false w) (hi : L[i]? = some (.cells b t' cs)) (hv : cs[off]? = some v) : Yv P N R (St W0 F L) ⟨dst, .load t x, ty, pos, af, gd⟩ v :=
  y_load1 hx ha (cell_ent hi hv)
theorem y_ldN {x : Operand} {t t' : TypeId} {b off n : Nat} {cs vs : List Value} (i : Nat) (hx : ev R x = some (.pointer (some ⟨b, off, none⟩))) (ha : ∀ w, (isAgg t).run P w = .ok true w) (hz : ∀ w, (sizeOf t).run P w = .ok n w) (hi : L[i]? = some (.cells b t' cs)) (hv : (cs.drop off).take n = vs) (hn : vs.length = n) : Yv P N R (St W0 F L) ⟨dst, .load t x, ty, pos, af, gd⟩ (.agg vs.toArray) := fun a w hR hS => by
  simp [execOp, hR.eval hx, Instr.loadAt, Instr.sureAddr, run_row (hS.cells hi) ha hz hv hn]
theorem run_box (t : TypeId) (v : Value) (w : World) : (Instr.box t v).run P w = .ok (.pointer (some ⟨w.heap.size, 0, none⟩)) (w.alloc (.cells v.cells t)) := rfl
theorem run_newVar (t : TypeId) (v : Value) (w : World) : (newVar t v).run P w = .ok ⟨w.heap.size, 0, none⟩ (w.alloc (.cells v.cells t)) := rfl
theorem g_box {d : Nat} {x : Operand} {t : TypeId} {v : Value} {cs : List Value} (hw : want ops R ⟨some d, .box t x, ty, pos, af, gd⟩ = some true) (hN : Nat.blt d N = true) (hx : ev R x = some v) (hcs : v.cells = cs.toArray)
    (h : ∀ b, G N ((d, .pointer (some ⟨b, 0, none⟩)) :: R) (St W0 F (.cells b t cs :: L)) (wpList P ops Q rest)) : G N R (St W0 F L) (wpList P ops Q (⟨some d, .box t x, ty, pos, af, gd⟩ :: rest)) :=
  g_one hw fun _ a w hR hS hK => by
    refine Oper.wp_ok (w' := w.alloc (.cells cs.toArray t)) (v := .pointer (some ⟨w.heap.size, 0, none⟩)) (by simp [execOp, hR.eval hx, run_box, hcs]) (hK _ _ (h w.heap.size _ _ (hR.put hN) (hS.new t cs)))
theorem g_alloc {d : Nat} {t : TypeId} {v : Value} {cs : List Value} (hw : want ops R ⟨some d, .alloc t, ty, pos, af, gd⟩ = some true) (hN : Nat.blt d N = true) (hz : ∀ w, (zeroValue t).run P w = .ok v w) (hcs : v.cells = cs.toArray)
    (h : ∀ b, G N ((d, .pointer (some ⟨b, 0, none⟩)) :: R) (St W0 F (.cells b t cs :: L)) (wpList P ops Q rest)) : G N R (St W0 F L) (wpList P ops Q (⟨some d, .alloc t, ty, pos, af, gd⟩ :: rest)) :=
  g_one hw fun _ a w hR hS hK => by
    refine Oper.wp_ok (w' := w.alloc (.cells cs.toArray t)) (v := .pointer (some ⟨w.heap.size, 0, none⟩)) ?_ (hK _ _ (h w.heap.size _ _ (hR.put hN) (hS.new t cs)));simp [execOp, Instr.alloc, hz, Sem.run_bind, run_newVar, hcs]
theorem g_st {x y : Operand} {t t' : TypeId} {b off : Nat} {cs : List Value} {v : Value} (i : Nat) (hw : want ops R ⟨none, .store t x y, ty, pos, af, gd⟩ = some true) (hx : ev R x = some (.pointer (some ⟨b, off, none⟩))) (hy : ev R y = some v) (hz : ∀ w, (sizeOf t).run P w = .ok 1 w) (h1 : v.oneCell' = true)
    (hi : L[i]? = some (.cells b t' cs)) (hl : Nat.blt off cs.length = true) (h : G N R (St W0 F (L.set i (.cells b t' (cs.set off v)))) (wpList P ops Q rest)) : G N R (St W0 F L) (wpList P ops Q (⟨none, .store t x y, ty, pos, af, gd⟩ :: rest)) :=
  g_one hw fun _ a w hR hS hK => by
    refine Oper.wp_skip (w' := w.setCell ⟨b, off, none⟩ v) ?_ (hK _ _ (h _ _ hR (hS.setCell hi v)));have hc : v.cells = #[v] := by cases v <;> simp_all [Value.cells, Value.oneCell']
    have hcell : ∃ u, w.cell? ⟨b, off, none⟩ = some u := by
      rw [cell_of_row w b off _ t' (0, 0) (hS.cells hi)];exact ⟨cs[off]'(Nat.le_of_ble_eq_true hl), by rw [List.getElem?_toArray]; exact List.getElem?_eq_getElem (Nat.le_of_ble_eq_true hl)⟩
    obtain ⟨u, hu⟩ := hcell;have hfz : w.frozen? ⟨b, off, none⟩ = false := frozen_of_row w b off _ t' (hS.cells hi);have e0 : (⟨b, off, none⟩ : Addr).add 0 = ⟨b, off, none⟩ := by simp [Addr.add]
    simp [execOp, hR.eval hx, hR.eval hy, Sem.run_bind, Instr.storeAt, Instr.sureAddr, storeVar, hz, hc, storeCells, e0, run_store P w _ v .plain h1, hu, hfz]
theorem g_stN {x y : Operand} {t t' : TypeId} {b n : Nat} {cs vs : List Value} (i : Nat) (hw : want ops R ⟨none, .store t x y, ty, pos, af, gd⟩ = some true) (hx : ev R x = some (.pointer (some ⟨b, 0, none⟩))) (hy : ev R y = some (.agg vs.toArray)) (hz : (P.info? t).map (·.size) = some n) (h1 : vs.all (·.oneCell') = true)
    (hi : L[i]? = some (.cells b t' cs)) (hl : cs.length = n) (hn : vs.length = n) (h : G N R (St W0 F (L.set i (.cells b t' vs))) (wpList P ops Q rest)) : G N R (St W0 F L) (wpList P ops Q (⟨none, .store t x y, ty, pos, af, gd⟩ :: rest)) :=
  g_one hw fun _ a w hR hS hK => by
    refine wp_store_row t x y rfl b vs.toArray (hR.eval hx) (hR.eval hy) t' cs.toArray (hS.cells hi) (by simpa [hn] using hz) (by simp [hl, hn]) (by simpa using h1) (hK _ _ (h _ _ hR ?_));have hset := setRow_heap w b cs.toArray vs.toArray t' (0, 0) (hS.cells hi);exact hS.write hi rfl rfl rfl (by simp) (fun k _ hk => setRow_other w b k _ (by simpa [Ent.fp] using hk)) hset (fun k hk => .inl hk)
end
end Go.Proofs.YtjdmdpjbijkjaaaGreat

namespace Go.Proofs.YtjdmdpjbijkjaaaGreat
open Go Go.RowKit
section
variable {P : Program} {N : Nat} {R : Regs} {S : World → Prop}
variable {dst : Option Tmp} {ty t t' : TypeId} {pos : String} {af : Array Edge} {gd : Option (Nat × Bool)} {x y : Operand} {k : IntKind} {a b : Int}
theorem y_bin {bop : BinOp} {vx vy v : Value} (hx : ev R x = some vx) (hy : ev R y = some vy) (hb : ∀ w, (do eqGuard bop t x y vx vy; binOp bop t vx vy : Sem Value).run P w = .ok v w) : Yv P N R S ⟨dst, .binOp bop t x y t', ty, pos, af, gd⟩ v := fun a w hR _ => by
  have := hb w;simp only [Sem.run_bind] at this;simp only [execOp, hR.eval hx, hR.eval hy, Sem.run_bind, this];rfl
theorem y_un {uop : UnOp} {vx v : Value} (hx : ev R x = some vx) (hb : ∀ w, (Op.unary uop vx).run P w = .ok v w) : Yv P N R S ⟨dst, .unOp uop t x, ty, pos, af, gd⟩ v := fun a w hR _ => by
  simp only [execOp, hR.eval hx, Sem.run_bind, hb];rfl
theorem y_conv {vx v : Value} (hx : ev R x = some vx) (hb : ∀ w, (convert t t' vx).run P w = .ok v w) : Yv P N R S ⟨dst, .convert t t' x, ty, pos, af, gd⟩ v := fun a w hR _ => by
  simp only [execOp, hR.eval hx, Sem.run_bind, hb];rfl
theorem y_ieq (hx : ev R x = some (.int k a)) (hy : ev R y = some (.int k b)) : Yv P N R S ⟨dst, .binOp .eql t x y t', ty, pos, af, gd⟩ (.bool (decide (a = b))) := y_bin hx hy fun w => by simp [eqGuard, binOp, Op.intCmp]; rfl
theorem y_ine (hx : ev R x = some (.int k a)) (hy : ev R y = some (.int k b)) : Yv P N R S ⟨dst, .binOp .neq t x y t', ty, pos, af, gd⟩ (.bool (decide (a ≠ b))) := y_bin hx hy fun w => by simp [eqGuard, binOp, Op.intCmp]; by_cases h : a = b <;> simp [h]
theorem y_ilt (hx : ev R x = some (.int k a)) (hy : ev R y = some (.int k b)) : Yv P N R S ⟨dst, .binOp .lss t x y t', ty, pos, af, gd⟩ (.bool (decide (a < b))) := y_bin hx hy fun w => by simp [eqGuard, binOp, Op.intCmp]
theorem y_ile (hx : ev R x = some (.int k a)) (hy : ev R y = some (.int k b)) : Yv P N R S ⟨dst, .binOp .leq t x y t', ty, pos, af, gd⟩ (.bool (decide (a ≤ b))) := y_bin hx hy fun w => by simp [eqGuard, binOp, Op.intCmp]
theorem y_igt (hx : ev R x = some (.int k a)) (hy : ev R y = some (.int k b)) : Yv P N R S ⟨dst, .binOp .gtr t x y t', ty, pos, af, gd⟩ (.bool (decide (b < a))) := y_bin hx hy fun w => by simp [eqGuard, binOp, Op.intCmp]
theorem y_ige (hx : ev R x = some (.int k a)) (hy : ev R y = some (.int k b)) : Yv P N R S ⟨dst, .binOp .geq t x y t', ty, pos, af, gd⟩ (.bool (decide (b ≤ a))) := y_bin hx hy fun w => by simp [eqGuard, binOp, Op.intCmp]
theorem y_lit {o : Oper} {u : Bool} (c : Bool) (h : Yv P N R S o (.bool u)) (hu : u = c) : Yv P N R S o (.bool c) := hu ▸ h
theorem y_iadd (hx : ev R x = some (.int k a)) (hy : ev R y = some (.int k b)) : Yv P N R S ⟨dst, .binOp .add t x y t', ty, pos, af, gd⟩ (.int k (k.wrap (a + b))) := y_bin hx hy fun w => by simp [eqGuard, binOp, Op.intArith]
theorem y_isub (hx : ev R x = some (.int k a)) (hy : ev R y = some (.int k b)) : Yv P N R S ⟨dst, .binOp .sub t x y t', ty, pos, af, gd⟩ (.int k (k.wrap (a - b))) := y_bin hx hy fun w => by simp [eqGuard, binOp, Op.intArith]
theorem y_imul (hx : ev R x = some (.int k a)) (hy : ev R y = some (.int k b)) : Yv P N R S ⟨dst, .binOp .mul t x y t', ty, pos, af, gd⟩ (.int k (k.wrap (a * b))) := y_bin hx hy fun w => by simp [eqGuard, binOp, Op.intArith]
theorem y_iquo (hx : ev R x = some (.int k a)) (hy : ev R y = some (.int k b)) (h0 : b ≠ 0) : Yv P N R S ⟨dst, .binOp .quo t x y t', ty, pos, af, gd⟩ (.int k (k.wrap (a.tdiv b))) := y_bin hx hy fun w => by simp [eqGuard, binOp, Op.intDiv, h0]
theorem y_irem (hx : ev R x = some (.int k a)) (hy : ev R y = some (.int k b)) (h0 : b ≠ 0) : Yv P N R S ⟨dst, .binOp .rem t x y t', ty, pos, af, gd⟩ (.int k (a.tmod b)) := y_bin hx hy fun w => by simp [eqGuard, binOp, Op.intDiv, h0]
theorem wrap_in {c : Int} (h : -9223372036854775808 ≤ c ∧ c ≤ 9223372036854775807) : IntKind.i64.wrap c = c := IntWalk.i64_in _ (by omega)
theorem y_addi (hx : ev R x = some (.int .i64 a)) (hy : ev R y = some (.int .i64 b)) (h : -9223372036854775808 ≤ a + b ∧ a + b ≤ 9223372036854775807) : Yv P N R S ⟨dst, .binOp .add t x y t', ty, pos, af, gd⟩ (.int .i64 (a + b)) := by
  have := y_iadd (P := P) (N := N) (S := S) (dst := dst) (ty := ty) (t := t) (t' := t') (pos := pos) (af := af) (gd := gd) hx hy;rwa [wrap_in h] at this
theorem y_subi (hx : ev R x = some (.int .i64 a)) (hy : ev R y = some (.int .i64 b)) (h : -9223372036854775808 ≤ a - b ∧ a - b ≤ 9223372036854775807) : Yv P N R S ⟨dst, .binOp .sub t x y t', ty, pos, af, gd⟩ (.int .i64 (a - b)) := by
  have := y_isub (P := P) (N := N) (S := S) (dst := dst) (ty := ty) (t := t) (t' := t') (pos := pos) (af := af) (gd := gd) hx hy;rwa [wrap_in h] at this
theorem y_not {c : Bool} (hx : ev R x = some (.bool c)) : Yv P N R S ⟨dst, .unOp .not t x, ty, pos, af, gd⟩ (.bool (!c)) := y_un hx fun w => by simp [Op.unary]
theorem y_neg (hx : ev R x = some (.int k a)) : Yv P N R S ⟨dst, .unOp .neg t x, ty, pos, af, gd⟩ (.int k (k.wrap (0 - a))) := y_un hx fun w => by simp [Op.unary, Op.intArith]
theorem y_toInt {k' : IntKind} {d : TypeDesc} (hx : ev R x = some (.int k a)) (hs : P.underlying t = some d) (hd : P.underlying t' = some (.int k')) : Yv P N R S ⟨dst, .convert t t' x, ty, pos, af, gd⟩ (.int k' (k'.wrap a)) := y_conv hx fun w => by
  simp [convert, Sem.run_bind, run_underlying hs w, run_underlying hd w, Conv.intToInt]
theorem size_mk (l : List UInt8) : (⟨l.toArray⟩ : ByteArray).size = l.length := by show l.toArray.size = _; simp
variable {s u : ByteArray}
theorem ba_loop (s : ByteArray) (k : Nat) : ∀ (i : Nat) (r : List UInt8), s.size - i = k → ByteArray.toList.loop s i r = r.reverse ++ s.data.toList.drop i := by
  induction k with
  | zero =>
    intro i r h;unfold ByteArray.toList.loop
    rw [if_neg (by omega), List.drop_eq_nil_iff.2 (by show s.data.toList.length ≤ i; rw [Array.length_toList]; show s.size ≤ i; omega), List.append_nil]
  | succ k ih =>
    intro i r h;unfold ByteArray.toList.loop
    have hlt : i < s.data.toList.length := by rw [Array.length_toList]; show i < s.size; omega
    rw [if_pos (by omega), ih (i + 1) _ (by omega), List.drop_eq_getElem_cons hlt];have hlt' : i < s.data.size := by simpa using hlt
    have e : s.get! i = s.data.toList[i] := by
      show s.data[i]! = _
      rw [getElem!_pos s.data i hlt']; simp
    simp [e]
theorem ba_toList (s : ByteArray) : s.toList = s.data.toList := by
  have := ba_loop s s.size 0 [] (by omega);simpa [ByteArray.toList] using this
theorem ba_inj {s u : ByteArray} (h : s.data.toList = u.data.toList) : s = u := by
  cases s; cases u; congr 1; exact Array.toList_inj.1 h
theorem ba_eq (s u : ByteArray) : (s.toList == u.toList) = decide (s = u) := by
  rw [ba_toList, ba_toList];by_cases h : s = u
  · subst h; simp
  · have : (s.data.toList == u.data.toList) = false := by
      rw [beq_eq_false_iff_ne]; exact fun q => h (ba_inj q)
    rw [this, decide_eq_false h]
theorem y_seq (hx : ev R x = some (.string s)) (hy : ev R y = some (.string u)) : Yv P N R S ⟨dst, .binOp .eql t x y t', ty, pos, af, gd⟩ (.bool (decide (s = u))) := y_bin hx hy fun w => by simp [eqGuard, binOp, Op.stringOp, ba_eq]
theorem y_sne (hx : ev R x = some (.string s)) (hy : ev R y = some (.string u)) : Yv P N R S ⟨dst, .binOp .neq t x y t', ty, pos, af, gd⟩ (.bool (decide (s ≠ u))) := y_bin hx hy fun w => by simp [eqGuard, binOp, Op.stringOp, ba_eq]
theorem y_scat (hx : ev R x = some (.string s)) (hy : ev R y = some (.string u)) (h : s.size + u.size ≤ 9223372036854775807) : Yv P N R S ⟨dst, .binOp .add t x y t', ty, pos, af, gd⟩ (.string (s ++ u)) := y_bin hx hy fun w => by
  have h' : ¬ (((s.size + u.size : Nat) : Int) > IntKind.i64.max) := by
    have e : IntKind.i64.max = 9223372036854775807 := by decide
    rw [e]; omega
  simp only [eqGuard, binOp, Op.stringOp, if_neg h'];rfl
theorem y_builtin {b : Builtin} {xs : List Operand} {vs : List Value} {ats : Array TypeId} {v : Value} (hx : xs.mapM (ev R) = some vs) (hb : ∀ ks w, S w → (builtin b ats ty ks vs.toArray).run P w = .ok (.value v) w) : Yv P N R S ⟨dst, .call { callee := .builtin b, args := xs.toArray, argTypes := ats }, ty, pos, af, gd⟩ v := fun a w hR hS => by
  have e := evs_map hR xs vs hx;simp only [execOp, resolve, invoke, Sem.run_bind, Sem.run_pure, Result.andThen_ok];have e2 : xs.toArray.map a.eval = vs.toArray := by simp [← e]
  rw [e2];exact hb _ w hS
theorem y_slen {tt : TypeId} (hx : ev R x = some (.string s)) (ht : P.underlying tt = some .string) : Yv P N R S ⟨dst, .call { callee := .builtin .len, args := #[x], argTypes := #[tt] }, ty, pos, af, gd⟩ (.int .i64 s.size) :=
  y_builtin (xs := [x]) (vs := [.string s]) (by simp [hx]) fun _ w _ => by simp [builtin, Builtin.len_, Sem.run_bind, run_underlying ht w, goInt]
theorem y_llen {tt et : TypeId} {p : Option Addr} {n c : Nat} (hx : ev R x = some (.slice p n c)) (ht : P.underlying tt = some (.slice et)) : Yv P N R S ⟨dst, .call { callee := .builtin .len, args := #[x], argTypes := #[tt] }, ty, pos, af, gd⟩ (.int .i64 n) :=
  y_builtin (xs := [x]) (vs := [.slice p n c]) (by simp [hx]) fun _ w _ => by simp [builtin, Builtin.len_, Sem.run_bind, run_underlying ht w, goInt]
theorem y_sidx {i : Nat} {c : UInt8} (hx : ev R x = some (.string s)) (hy : ev R y = some (.int k i)) (ht : P.underlying t = some .string) (hc : s[i]? = some c) : Yv P N R S ⟨dst, .index t x y, ty, pos, af, gd⟩ (.int .u8 c.toNat) := fun a w hR _ => by
  simp [execOp, hR.eval hx, hR.eval hy, Instr.index, asIntOf, Sem.run_bind, run_underlying ht w, hc]
theorem y_sidxI {i : Int} {c : UInt8} (hx : ev R x = some (.string s)) (hy : ev R y = some (.int k i)) (ht : P.underlying t = some .string) (h0 : 0 ≤ i) (hc : s[i.toNat]? = some c) : Yv P N R S ⟨dst, .index t x y, ty, pos, af, gd⟩ (.int .u8 c.toNat) := by
  obtain ⟨j, rfl⟩ := Int.eq_ofNat_of_zero_le h0;exact y_sidx hx hy ht (by simpa using hc)
def by8 (s : ByteArray) (i : Int) : UInt8 := (s[i.toNat]?).getD 0
def bt (s : ByteArray) (i : Int) : Int := (by8 s i).toNat
theorem y_sat {i : Int} (hx : ev R x = some (.string s)) (hy : ev R y = some (.int k i)) (ht : P.underlying t = some .string) (h0 : 0 ≤ i) (h1 : i < s.size) : Yv P N R S ⟨dst, .index t x y, ty, pos, af, gd⟩ (.int .u8 (bt s i)) := by
  have hlt : i.toNat < s.size := by omega
  have hc : s[i.toNat]? = some s[i.toNat] := by simp [hlt]
  have := y_sidxI (P := P) (N := N) (S := S) (dst := dst) (ty := ty) (pos := pos) (af := af) (gd := gd) hx hy ht h0 hc;unfold bt by8
  rw [hc];exact this
theorem y_sslice {lo hi : Operand} {l h : Nat} (hx : ev R x = some (.string s)) (hl : ev R lo = some (.int .i64 l)) (hh : ev R hi = some (.int .i64 h)) (ht : P.underlying t = some .string) (h1 : l ≤ h) (h2 : h ≤ s.size) : Yv P N R S ⟨dst, .slice t x (some lo) (some hi) none, ty, pos, af, gd⟩ (.string (s.extract l h)) := fun a w hR _ => by
  have e1 : ((0 : Int) ≤ h ∧ (h : Int) ≤ s.size) := by omega
  have e2 : ((0 : Int) ≤ l ∧ (l : Int) ≤ h) := by omega
  simp [execOp, hR.eval hx, hR.eval hl, hR.eval hh, Instr.sliceAt, Instr.slice, Instr.sliceBounds, Instr.sliceBound, asIntOf, Sem.run_bind, run_underlying ht w, h1, h2]
theorem y_sfrom {lo : Operand} {l : Nat} (hx : ev R x = some (.string s)) (hl : ev R lo = some (.int .i64 l)) (ht : P.underlying t = some .string) (h2 : l ≤ s.size) : Yv P N R S ⟨dst, .slice t x (some lo) none none, ty, pos, af, gd⟩ (.string (s.extract l s.size)) := fun a w hR _ => by
  simp [execOp, hR.eval hx, hR.eval hl, Instr.sliceAt, Instr.slice, Instr.sliceBounds, Instr.sliceBound, asIntOf, Sem.run_bind, run_underlying ht w, h2]
theorem y_sto {hi : Operand} {h : Nat} (hx : ev R x = some (.string s)) (hh : ev R hi = some (.int .i64 h)) (ht : P.underlying t = some .string) (h2 : h ≤ s.size) : Yv P N R S ⟨dst, .slice t x none (some hi) none, ty, pos, af, gd⟩ (.string (s.extract 0 h)) := fun a w hR _ => by
  simp [execOp, hR.eval hx, hR.eval hh, Instr.sliceAt, Instr.slice, Instr.sliceBounds, Instr.sliceBound, asIntOf, Sem.run_bind, run_underlying ht w, h2]
theorem y_ssl {lo hi : Operand} {l h : Int} (hx : ev R x = some (.string s)) (hl : ev R lo = some (.int .i64 l)) (hh : ev R hi = some (.int .i64 h)) (ht : P.underlying t = some .string) (h0 : 0 ≤ l) (h1 : l ≤ h) (h2 : h ≤ s.size) : Yv P N R S ⟨dst, .slice t x (some lo) (some hi) none, ty, pos, af, gd⟩ (.string (s.extract l.toNat h.toNat)) := by
  obtain ⟨l', rfl⟩ := Int.eq_ofNat_of_zero_le h0;obtain ⟨h', rfl⟩ := Int.eq_ofNat_of_zero_le (a := h) (by omega);exact y_sslice hx hl hh ht (by omega) (by omega)
theorem y_sfr {lo : Operand} {l : Int} (hx : ev R x = some (.string s)) (hl : ev R lo = some (.int .i64 l)) (ht : P.underlying t = some .string) (h0 : 0 ≤ l) (h2 : l ≤ s.size) : Yv P N R S ⟨dst, .slice t x (some lo) none none, ty, pos, af, gd⟩ (.string (s.extract l.toNat s.size)) := by
  obtain ⟨l', rfl⟩ := Int.eq_ofNat_of_zero_le h0;exact y_sfrom hx hl ht (by omega)
theorem y_stoI {hi : Operand} {h : Int} (hx : ev R x = some (.string s)) (hh : ev R hi = some (.int .i64 h)) (ht : P.underlying t = some .string) (h0 : 0 ≤ h) (h2 : h ≤ s.size) : Yv P N R S ⟨dst, .slice t x none (some hi) none, ty, pos, af, gd⟩ (.string (s.extract 0 h.toNat)) := by
  obtain ⟨h', rfl⟩ := Int.eq_ofNat_of_zero_le h0;exact y_sto hx hh ht (by omega)
variable {W0 : World} {F : List Nat} {L : List Ent} {Q : Exit → Act → World → Prop} {ops : Array Oper} {rest : List Oper}
theorem y_extract {vs : Array Value} {i : Nat} {v : Value} (hx : ev R x = some (.tuple vs)) (hv : vs[i]? = some v) : Yv P N R S ⟨dst, .extract x i, ty, pos, af, gd⟩ v := fun a w hR _ => by
  simp [execOp, hR.eval hx, Instr.extract, hv]
def builtSl (P : Program) (e : TypeId) (len : Nat) (vs : List (Nat × Value)) : Option (List Value) :=
  match P.info? e with
  | none => none
  | some ie => match ie.zero with
    | none => none
    | some z => if len * ie.size > 2 ^ 24 then none else if len * ie.size = 0 then none else
      (Instr.fill (fun i => some (i * ie.size, ie.size)) ((Array.range (len * ie.size)).map (z.cells[· % z.cells.size]!)) vs).map Array.toList
theorem run_buildSl {t e : TypeId} {len : Nat} {vs : Array (Nat × Value)} {cs : List Value} (hu : P.underlying t = some (.slice e)) (hb : builtSl P e len vs.toList = some cs) (w : World) :
    (Instr.buildSlice t len vs).run P w = .ok (.slice (some ⟨w.heap.size, 0, none⟩) len len) (w.alloc (.cells cs.toArray e)) := by
  unfold builtSl at hb
  cases hie : P.info? e with
  | none => simp [hie] at hb
  | some ie =>
    cases hz : ie.zero with
    | none => simp [hie, hz] at hb
    | some z =>
      simp only [hie, hz] at hb;split at hb
      · cases hb
      · rename_i h1
        split at hb
        · cases hb
        · rename_i h2
          simp only [Option.map_eq_some_iff] at hb;obtain ⟨cells, hf, rfl⟩ := hb;simp [Instr.buildSlice, run_underlying hu, sizeOf, typeInfo, zeroValue, hie, hz, h1, h2, hf, newRow]
theorem g_buildSlice {d : Nat} {t e : TypeId} {len : Nat} {ps : List (Nat × Operand)} {vs : List (Nat × Value)} {z : Value} {offs : List Nat} (hw : want ops R ⟨some d, .buildSlice t len ps.toArray, ty, pos, af, gd⟩ = some true) (hN : Nat.blt d N = true)
    (hu : P.underlying t = some (.slice e)) (hv : evParts R ps = some vs) (_hz : ∀ w, (zeroValue e).run P w = .ok z w) (hb : builtSl P e len vs = some (fillL (List.replicate len z.cells.toList).flatten offs vs))
    (h : ∀ b, G N ((d, .slice (some ⟨b, 0, none⟩) len len) :: R) (St W0 F (.cells b e (fillL (List.replicate len z.cells.toList).flatten offs vs) :: L)) (wpList P ops Q rest)) : G N R (St W0 F L) (wpList P ops Q (⟨some d, .buildSlice t len ps.toArray, ty, pos, af, gd⟩ :: rest)) :=
  g_one hw fun _ a w hR hS hK => by
    have e1 := evParts_map hR ps vs hv;have e2 : (ps.toArray.map fun (i, x) => (i, a.eval x)).toList = vs := by simpa using e1
    refine Oper.wp_ok (w' := w.alloc (.cells (fillL (List.replicate len z.cells.toList).flatten offs vs).toArray e)) (v := .slice (some ⟨w.heap.size, 0, none⟩) len len) ?_ (hK _ _ (h w.heap.size _ _ (hR.put hN) (hS.new e _)));have := run_buildSl (P := P) (t := t) (len := len) (vs := ps.toArray.map fun (i, x) => (i, a.eval x)) hu (by rw [e2]; exact hb) w;simp only [execOp, Sem.run_bind, this, Result.andThen_ok];rfl
theorem y_idxAddr {t e : TypeId} {b o n c sz m : Nat} {i : Int} (hx : ev R x = some (.slice (some ⟨b, o, none⟩) n c)) (hy : ev R y = some (.int k i)) (ht : P.underlying t = some (.slice e)) (hz : ∀ w, (sizeOf e).run P w = .ok sz w) (h0 : 0 ≤ i) (h1 : i < n) (hm : o + i.toNat * sz = m) :
    Yv P N R S ⟨dst, .indexAddr t x y, ty, pos, af, gd⟩ (.pointer (some ⟨b, m, none⟩)) := fun a w hR _ => by
  subst hm;simp [execOp, hR.eval hx, hR.eval hy, Instr.indexAt, asIntOf, Sem.run_bind, run_underlying ht w, hz, h0, h1, Addr.add_mid]
theorem y_idxAt {t e : TypeId} {p : Addr} {n c sz : Nat} {i : Int} (hx : ev R x = some (.slice (some p) n c)) (hy : ev R y = some (.int k i)) (ht : P.underlying t = some (.slice e)) (hz : ∀ w, (sizeOf e).run P w = .ok sz w) (h0 : 0 ≤ i) (h1 : i < n) :
    Yv P N R S ⟨dst, .indexAddr t x y, ty, pos, af, gd⟩ (.pointer (some (p.add (i.toNat * sz)))) := fun a w hR _ => by
  simp [execOp, hR.eval hx, hR.eval hy, Instr.indexAt, asIntOf, Sem.run_bind, run_underlying ht w, hz, h0, h1]
structure RdSl (W : World) (p : Option Addr) (n sz : Nat) (f : Nat → Nat → Value) : Prop where
  addr : 0 < n → p = some (p.getD default)
  blk : 0 < n → (p.getD default).block < W.heap.size
  cell : ∀ i j, i < n → j < sz → W.cell? ((p.getD default).add (i * sz + j)) = some (f i j)
theorem y_rdAddr {t e : TypeId} {p : Option Addr} {n c sz : Nat} {i : Int} {W : World} {f : Nat → Nat → Value} (hr : RdSl W p n sz f) (hx : ev R x = some (.slice p n c)) (hy : ev R y = some (.int k i)) (ht : P.underlying t = some (.slice e)) (hz : ∀ w, (sizeOf e).run P w = .ok sz w) (h0 : 0 ≤ i) (h1 : i < n) :
    Yv P N R S ⟨dst, .indexAddr t x y, ty, pos, af, gd⟩ (.pointer (some ((p.getD default).add (i.toNat * sz)))) := by
  have hp := hr.addr (by omega);rw [hp] at hx;exact y_idxAt hx hy ht hz h0 h1
end
end Go.Proofs.YtjdmdpjbijkjaaaGreat

namespace Go.Proofs.YtjdmdpjbijkjaaaGreat
open Go.ChangeShapes Go.WideShapes Go.ChangeAt Go.RowKit
section
variable {H : Type} {enc : TypeId × Value → H} {P : Program}
theorem trodAll_below {W W' : World} (hl : laidOutB P = true) (hb : Below W.heap.size W W') : ∀ (ts : List TypeId) (vs : List Value) (ds : List (DataW H)) (ps : List MemPlace),
    ts.all (fun t => P.readableRec t && decide (t < P.types.size)) = true → (∀ x ∈ ps, x.block < W.heap.size) → DataW.TrodAll enc P W 0 (fun _ => true) true ts vs ds ps →
    DataW.TrodAll enc P W' 0 (fun b => decide (b < W.heap.size)) true ts vs ds ps := by
  intro ts;induction ts with
  | nil =>
    intro vs ds ps _ _ h;cases vs <;> cases ds <;> simp_all [DataW.TrodAll]
  | cons t ts ih =>
    intro vs ds ps hr hlt h;cases vs with
    | nil => simp [DataW.TrodAll] at h
    | cons v vs =>
      cases ds with
      | nil => simp [DataW.TrodAll] at h
      | cons d ds =>
        obtain ⟨p, q, h1, h2, rfl⟩ := h;simp only [List.all_cons, Bool.and_eq_true, decide_eq_true_eq] at hr;exact ⟨p, q, Below.trod hl hr.1.1 hr.1.2 h1 hb (fun x hx => hlt x (List.mem_append_left _ hx)), ih vs ds q (by simpa using hr.2) (fun x hx => hlt x (List.mem_append_right _ hx)) h2, rfl⟩
theorem law_post {f : Func} {s : ChangeSpec} {W W' : World} {args : Array Value} {ds : List (DataW H)} {before : List MemPlace} {tb : TypeId}
    (hW : DataW.Whole enc P f.params.toList s.vars false W args.toList ds [] before) (hv : s.vars = []) (hl : laidOutB P = true) (hr : f.params.toList.all (fun t => P.readableRec t && decide (t < P.types.size)) = true)
    (hrt : f.resultTypes = #[tb]) (htb : P.underlying tb = some .bool) (hs : s.fn H (ds ++ []) = { results := [.lit (.bool true)], args := ds }) (hb : Below W.heap.size W W') :
    s.post enc P f false true false false W args (.bool true) W' := by
  have hlt := hW.lt;have hW' := hW;obtain ⟨p, q, hA, hV, rfl, hfz, hnd⟩ := hW;refine ⟨ds, [], p ++ q, [], p, [], hW', ?_, ?_, ?_, hb.frame _, fun h => by cases h⟩
  · rw [hs, hrt];exact trodAll_cons_mk (shut_bool htb _) trodAll_mk0
  · rw [hs];exact trodAll_below hl hb _ _ _ _ hr (fun x hx => hlt x (List.mem_append_left _ hx)) hA
  · rw [hs, hv];rfl
theorem rd_struct {r : Reach} {b0 base : Nat} {spare : Nat → Bool} {held : Bool} {W : World} {t : TypeId} {fs : Array Field} {v : Value} {d : DataW H} {p : List MemPlace} (ht : P.underlying t = some (.struct fs)) (hv : Value.okWide P W r b0 t v) (h : DataW.Trod enc P W base spare held t v d p) :
    ∃ l : List Value, v = .agg l.toArray ∧ l.length = P.cellsOf t ∧ ∃ n, ∀ (j : Nat) (f : Field), fs[j]? = some f → ∀ o s ty, f.offset = o → P.cellsOf f.type = s → f.type = ty → ∃ y, DataW.trod enc P W base spare held n ty ((l.drop o).take s) = some y := by
  obtain ⟨cs, rfl, hsz⟩ := okWide_struct ht hv;obtain ⟨fuel, hf⟩ := h;obtain ⟨xs, n, _, hx, hl, hlen, hg⟩ := DataW.trod_struct ht hf;refine ⟨cs.toList, by simp, by simpa using hsz, n, fun j f hj o s ty ho hs hty => ?_⟩;subst ho hs hty;have hjl : j < fs.size := (Array.getElem?_eq_some_iff.1 hj).1;exact ⟨xs[j]'(by omega), by rw [← List.getElem?_eq_getElem]; exact hg j f hj⟩
theorem list2 {α : Type} {l : List α} (h : l.length = 2) : ∃ a b, l = [a, b] := by
  match l, h with | [a, b], _ => exact ⟨a, b, rfl⟩
end
end Go.Proofs.YtjdmdpjbijkjaaaGreat

namespace Go.Proofs
open Go.Shelf
def Tryz.lays170_ren : Go.Shelf.Ren := ⟨fun | 170 => 16 | n => n, fun | 70 => 49 | 3 => 3 | 0 => 0 | 72 => 52 | 37 => 50 | 5 => 5 | n => n, fun | n => n⟩
theorem Tryz.lays170 : Go.Proofs.Lays.n170 Tryz.prog Tryz.lays170_ren := {
  mixed := by kernel_rfl
  f170 := Tryz.func16.trans (congrArg some (by kernel_rfl))
  t0 := Tryz.underlying0
  a0 := Tryz.isAgg0
  z0 := Tryz.sizeOf0
  v0 := Tryz.zeroValue0
  t3 := Tryz.underlying3
  a3 := Tryz.isAgg3
  z3 := Tryz.sizeOf3
  v3 := Tryz.zeroValue3
  t37 := Tryz.underlying50
  a37 := Tryz.isAgg50
  z37 := Tryz.sizeOf50
  v37 := Tryz.zeroValue50
  t70 := Tryz.underlying49
  a70 := Tryz.isAgg49
  z70 := Tryz.sizeOf49
  v70 := Tryz.zeroValue49
  t72 := Tryz.underlying52
  a72 := Tryz.isAgg52
  z72 := Tryz.sizeOf52
  v72 := Tryz.zeroValue52 }
def Tryz.lays169_ren : Go.Shelf.Ren := ⟨fun | 169 => 17 | n => n, fun | 70 => 49 | 9 => 9 | 0 => 0 | 72 => 52 | 37 => 50 | 127 => 82 | 3 => 3 | 5 => 5 | n => n, fun | n => n⟩
theorem Tryz.lays169 : Go.Proofs.Lays.n169 Tryz.prog Tryz.lays169_ren := {
  mixed := by kernel_rfl
  f169 := Tryz.func17.trans (congrArg some (by kernel_rfl))
  t0 := Tryz.underlying0
  a0 := Tryz.isAgg0
  z0 := Tryz.sizeOf0
  v0 := Tryz.zeroValue0
  t3 := Tryz.underlying3
  a3 := Tryz.isAgg3
  z3 := Tryz.sizeOf3
  v3 := Tryz.zeroValue3
  t9 := Tryz.underlying9
  a9 := Tryz.isAgg9
  z9 := Tryz.sizeOf9
  v9 := Tryz.zeroValue9
  t37 := Tryz.underlying50
  a37 := Tryz.isAgg50
  z37 := Tryz.sizeOf50
  v37 := Tryz.zeroValue50
  t70 := Tryz.underlying49
  a70 := Tryz.isAgg49
  z70 := Tryz.sizeOf49
  v70 := Tryz.zeroValue49
  t72 := Tryz.underlying52
  a72 := Tryz.isAgg52
  z72 := Tryz.sizeOf52
  v72 := Tryz.zeroValue52
  t127 := Tryz.underlying82
  a127 := Tryz.isAgg82
  z127 := Tryz.sizeOf82
  v127 := Tryz.zeroValue82 }
theorem Tryz.Builder_Extra_169 : Builder.Extra Tryz.prog Tryz.lays169_ren := {
  sizeBuilder := by kernel_rfl
  liesBuilder := by kernel_rfl
  t5 := Tryz.underlying5
  a5 := Tryz.isAgg5
  z5 := Tryz.sizeOf5
  v5 := Tryz.zeroValue5
  infoByte := by kernel_rfl
  cellsByte := by kernel_rfl
  sizeByte := by kernel_rfl
  neB5 := by decide }
def Tryz.lays137_ren : Go.Shelf.Ren := ⟨fun | 137 => 61 | 217 => 97 | 266 => 102 | n => n, fun | 9 => 9 | 5 => 5 | 3 => 3 | n => n, fun | n => n⟩
theorem Tryz.lays137 : Go.Proofs.Lays.n137 Tryz.prog Tryz.lays137_ren := {
  mixed := by kernel_rfl
  f137 := Tryz.func61.trans (congrArg some (by kernel_rfl))
  f217 := Tryz.func97.trans (congrArg some (by kernel_rfl))
  f266 := Tryz.func102.trans (congrArg some (by kernel_rfl))
  t3 := Tryz.underlying3
  a3 := Tryz.isAgg3
  z3 := Tryz.sizeOf3
  v3 := Tryz.zeroValue3
  t5 := Tryz.underlying5
  a5 := Tryz.isAgg5
  z5 := Tryz.sizeOf5
  v5 := Tryz.zeroValue5
  t9 := Tryz.underlying9
  a9 := Tryz.isAgg9
  z9 := Tryz.sizeOf9
  v9 := Tryz.zeroValue9 }
open Go.RowKit in
theorem Tryz.strings_IndexByte (s : ByteArray) (c : Int) (w : World) :
    Calls Tryz.prog 61 #[.string s, .int .u8 c] w fun e w' => e = .returned (.int .i64 (Lib.indexByte s.data.toList c.toNat.toUInt8)) ∧ w' = w := Any.strings_IndexByte Tryz.lays137 s c w
def Tryz.lays103_ren : Go.Shelf.Ren := ⟨fun | 103 => 62 | 210 => 98 | 206 => 99 | n => n, fun | 9 => 9 | 4 => 4 | 24 => 122 | 3 => 3 | n => n, fun | n => n⟩
theorem Tryz.lays103 : Go.Proofs.Lays.n103 Tryz.prog Tryz.lays103_ren := {
  mixed := by kernel_rfl
  f103 := Tryz.func62.trans (congrArg some (by kernel_rfl))
  f206 := Tryz.func99.trans (congrArg some (by kernel_rfl))
  f210 := Tryz.func98.trans (congrArg some (by kernel_rfl))
  t3 := Tryz.underlying3
  a3 := Tryz.isAgg3
  z3 := Tryz.sizeOf3
  v3 := Tryz.zeroValue3
  t4 := Tryz.underlying4
  a4 := Tryz.isAgg4
  z4 := Tryz.sizeOf4
  v4 := Tryz.zeroValue4
  t9 := Tryz.underlying9
  a9 := Tryz.isAgg9
  z9 := Tryz.sizeOf9
  v9 := Tryz.zeroValue9
  t24 := Tryz.underlying122
  a24 := Tryz.isAgg122
  z24 := Tryz.sizeOf122
  v24 := Tryz.zeroValue122 }
open Go.RowKit in
theorem Tryz.strings_CutPrefix (s p : ByteArray) (w : World) :
    Calls Tryz.prog 62 #[.string s, .string p] w fun e w' => e = .returned (.tuple #[.string ⟨(Lib.trimPrefix s.data.toList p.data.toList).toArray⟩, .bool (Lib.hasPrefix s.data.toList p.data.toList)]) ∧ w' = w := Any.strings_CutPrefix Tryz.lays103 s p w
open Go.RowKit in
theorem Tryz.Builder_Len_f (B b : Nat) (bs : List Value) (w : World) (h : Lib.IsBuilderF 52 5 B b bs w) :
    Calls Tryz.prog 16 #[.pointer (some ⟨b, 0, none⟩)] w fun e w' => e = .returned (.int .i64 bs.length) ∧ w' = w := Any.Builder_Len_f Tryz.lays170 B b bs w h
open Go.RowKit in
theorem Tryz.Builder_String_any_k (B b : Nat) (l : List UInt8) (w : World) (h : Lib.IsBuilderF 52 5 B b (Lib.byteCells l) w) (hBw : B ≤ w.heap.size) :
    Calls Tryz.prog 17 #[.pointer (some ⟨b, 0, none⟩)] w fun e w' => e = .returned (.string ⟨l.toArray⟩) ∧ (Lib.IsBuilderF 52 5 B b (Lib.byteCells l) w' ∧ Below B w w' ∧ Lib.OthersKept 5 (some b) w w') := Any.Builder_String_any_k Tryz.lays169 Tryz.Builder_Extra_169 B b l w h hBw
def Tryz.lays129_ren : Go.Shelf.Ren := ⟨fun | 129 => 82 | n => n, fun | 53 => 26 | 3 => 3 | 4 => 4 | 46 => 132 | 5 => 5 | 9 => 9 | n => n, fun | n => n⟩
theorem Tryz.lays129 : Go.Proofs.Lays.n129 Tryz.prog Tryz.lays129_ren := {
  mixed := by kernel_rfl
  f129 := Tryz.func82.trans (congrArg some (by kernel_rfl))
  t3 := Tryz.underlying3
  a3 := Tryz.isAgg3
  z3 := Tryz.sizeOf3
  v3 := Tryz.zeroValue3
  t4 := Tryz.underlying4
  a4 := Tryz.isAgg4
  z4 := Tryz.sizeOf4
  v4 := Tryz.zeroValue4
  t5 := Tryz.underlying5
  a5 := Tryz.isAgg5
  z5 := Tryz.sizeOf5
  v5 := Tryz.zeroValue5
  t9 := Tryz.underlying9
  a9 := Tryz.isAgg9
  z9 := Tryz.sizeOf9
  v9 := Tryz.zeroValue9
  t46 := Tryz.underlying132
  a46 := Tryz.isAgg132
  z46 := Tryz.sizeOf132
  v46 := Tryz.zeroValue132
  t53 := Tryz.underlying26
  a53 := Tryz.isAgg26
  z53 := Tryz.sizeOf26
  v53 := Tryz.zeroValue26 }
theorem Tryz.bits_Len64 (x : Int) (w : World) (h0 : 0 ≤ x) (h1 : x ≤ 18446744073709551615) :
    Calls Tryz.prog 82 #[.int .u64 x] w fun e w' => e = .returned (.int .i64 (Lib.bitLen x.toNat)) ∧ w' = w := Any.bits_Len64 Tryz.lays129 x w h0 h1
def Tryz.lays145_ren : Go.Shelf.Ren := ⟨fun | 145 => 64 | 220 => 100 | 219 => 103 | 217 => 97 | 225 => 105 | 224 => 106 | 267 => 107 | 266 => 102 | 314 => 108 | n => n, fun | 9 => 9 | 4 => 4 | 59 => 125 | 3 => 3 | 5 => 5 | 46 => 132 | 146 => 161 | 51 => 160 | n => n, fun | 1 => 0 | n => n⟩
theorem Tryz.lays145 : Go.Proofs.Lays.n145 Tryz.prog Tryz.lays145_ren := {
  mixed := by kernel_rfl
  f145 := Tryz.func64.trans (congrArg some (by kernel_rfl))
  f217 := Tryz.func97.trans (congrArg some (by kernel_rfl))
  f219 := Tryz.func103.trans (congrArg some (by kernel_rfl))
  f220 := Tryz.func100.trans (congrArg some (by kernel_rfl))
  f224 := Tryz.func106.trans (congrArg some (by kernel_rfl))
  f225 := Tryz.func105.trans (congrArg some (by kernel_rfl))
  f266 := Tryz.func102.trans (congrArg some (by kernel_rfl))
  f267 := Tryz.func107.trans (congrArg some (by kernel_rfl))
  f314 := Tryz.func108.trans (congrArg some (by kernel_rfl))
  t3 := Tryz.underlying3
  a3 := Tryz.isAgg3
  z3 := Tryz.sizeOf3
  v3 := Tryz.zeroValue3
  t4 := Tryz.underlying4
  a4 := Tryz.isAgg4
  z4 := Tryz.sizeOf4
  v4 := Tryz.zeroValue4
  t5 := Tryz.underlying5
  a5 := Tryz.isAgg5
  z5 := Tryz.sizeOf5
  v5 := Tryz.zeroValue5
  t9 := Tryz.underlying9
  a9 := Tryz.isAgg9
  z9 := Tryz.sizeOf9
  v9 := Tryz.zeroValue9
  t46 := Tryz.underlying132
  a46 := Tryz.isAgg132
  z46 := Tryz.sizeOf132
  v46 := Tryz.zeroValue132
  t51 := Tryz.underlying160
  a51 := Tryz.isAgg160
  z51 := Tryz.sizeOf160
  v51 := Tryz.zeroValue160
  t59 := Tryz.underlying125
  a59 := Tryz.isAgg125
  z59 := Tryz.sizeOf125
  v59 := Tryz.zeroValue125
  t146 := Tryz.underlying161
  a146 := Tryz.isAgg161
  z146 := Tryz.sizeOf161
  v146 := Tryz.zeroValue161
  g1 := by kernel_rfl }
open Go.RowKit Go.Lib in
theorem Tryz.strings_Cut (s sep : ByteArray) (m : Int) (w : World) (hs : s.size < 4294967281) (hm : w.cell? ⟨0, 0, none⟩ = some (.int .i64 m)) :
    Calls Tryz.prog 64 #[.string s, .string sep] w fun e w' => e = .returned (.tuple #[.string ⟨(Lib.cut s.data.toList sep.data.toList).1.toArray⟩, .string ⟨(Lib.cut s.data.toList sep.data.toList).2.1.toArray⟩, .bool (Lib.cut s.data.toList sep.data.toList).2.2]) ∧ ∃ n, w' = w.drewN n := Any.strings_Cut Tryz.lays145 s sep m w hs hm
def Tryz.lays99_ren : Go.Shelf.Ren := ⟨fun | 99 => 63 | 206 => 99 | n => n, fun | 9 => 9 | 4 => 4 | 3 => 3 | n => n, fun | n => n⟩
theorem Tryz.lays99 : Go.Proofs.Lays.n99 Tryz.prog Tryz.lays99_ren := {
  mixed := by kernel_rfl
  f99 := Tryz.func63.trans (congrArg some (by kernel_rfl))
  f206 := Tryz.func99.trans (congrArg some (by kernel_rfl))
  t3 := Tryz.underlying3
  a3 := Tryz.isAgg3
  z3 := Tryz.sizeOf3
  v3 := Tryz.zeroValue3
  t4 := Tryz.underlying4
  a4 := Tryz.isAgg4
  z4 := Tryz.sizeOf4
  v4 := Tryz.zeroValue4
  t9 := Tryz.underlying9
  a9 := Tryz.isAgg9
  z9 := Tryz.sizeOf9
  v9 := Tryz.zeroValue9 }
open Go.RowKit Go.Lib in
theorem Tryz.strings_HasPrefix (s p : ByteArray) (w : World) :
    Calls Tryz.prog 63 #[.string s, .string p] w fun e w' => e = .returned (.bool (Lib.hasPrefix s.data.toList p.data.toList)) ∧ w' = w := Any.strings_HasPrefix Tryz.lays99 s p w
end Go.Proofs

namespace Go.Proofs.YtjdmdpjbijkjaaaGreat
open Go Go.RowKit
def lays166_ren : Go.Shelf.Ren := ⟨fun | 166 => 14 | 240 => 27 | 276 => 52 | n => n, fun | 0 => 0 | 4 => 4 | 9 => 9 | 20 => 20 | 70 => 49 | 72 => 52 | 164 => 108 | 3 => 3 | 5 => 5 | 37 => 50 | 75 => 61 | 76 => 62 | 80 => 66 | n => n, fun | n => n⟩
theorem lays166 : Go.Proofs.Lays.n166 Tryz.prog lays166_ren := {
  mixed := by kernel_rfl
  f166 := Tryz.func14.trans (congrArg some (by kernel_rfl))
  f240 := Tryz.func27.trans (congrArg some (by kernel_rfl))
  f276 := Tryz.func52.trans (congrArg some (by kernel_rfl))
  t0 := Tryz.underlying0
  a0 := Tryz.isAgg0
  z0 := Tryz.sizeOf0
  v0 := Tryz.zeroValue0
  t3 := Tryz.underlying3
  a3 := Tryz.isAgg3
  z3 := Tryz.sizeOf3
  v3 := Tryz.zeroValue3
  t4 := Tryz.underlying4
  a4 := Tryz.isAgg4
  z4 := Tryz.sizeOf4
  v4 := Tryz.zeroValue4
  t9 := Tryz.underlying9
  a9 := Tryz.isAgg9
  z9 := Tryz.sizeOf9
  v9 := Tryz.zeroValue9
  t20 := Tryz.underlying20
  a20 := Tryz.isAgg20
  z20 := Tryz.sizeOf20
  v20 := Tryz.zeroValue20
  t37 := Tryz.underlying50
  a37 := Tryz.isAgg50
  z37 := Tryz.sizeOf50
  v37 := Tryz.zeroValue50
  t70 := Tryz.underlying49
  a70 := Tryz.isAgg49
  z70 := Tryz.sizeOf49
  v70 := Tryz.zeroValue49
  t72 := Tryz.underlying52
  a72 := Tryz.isAgg52
  z72 := Tryz.sizeOf52
  v72 := Tryz.zeroValue52
  t75 := Tryz.underlying61
  a75 := Tryz.isAgg61
  z75 := Tryz.sizeOf61
  v75 := Tryz.zeroValue61
  t164 := Tryz.underlying108
  a164 := Tryz.isAgg108
  z164 := Tryz.sizeOf108
  v164 := Tryz.zeroValue108 }
open Go.Proofs in
theorem extra166 : Builder.Extra Tryz.prog lays166_ren := {
  sizeBuilder := by kernel_rfl
  liesBuilder := by kernel_rfl
  t5 := Tryz.underlying5
  a5 := Tryz.isAgg5
  z5 := Tryz.sizeOf5
  v5 := Tryz.zeroValue5
  infoByte := by kernel_rfl
  cellsByte := by kernel_rfl
  sizeByte := by kernel_rfl
  neB5 := by decide }
end Go.Proofs.YtjdmdpjbijkjaaaGreat

namespace Go.Proofs.YtjdmdpjbijkjaaaGreat
open Go Go.RowKit
section
variable {P : Program} {N : Nat} {R : Regs} {W0 : World} {F : List Nat} {L : List Ent} {Q : Exit → Act → World → Prop} {ops : Array Oper} {rest : List Oper} {X : Act → World → Prop} {S : World → Prop}
variable {dst : Option Tmp} {ty t e : TypeId} {pos : String} {af : Array Edge} {gd : Option (Nat × Bool)} {x y : Operand}
theorem St.nilRow {w : World} (h : St W0 F L w) (e : TypeId) (size : Nat) : St W0 F (.row e size (.slice none 0 0) 0 [] :: L) w :=
  ⟨h.os, h.tape, h.output, h.size, h.keep, fun x hx => (List.mem_cons.1 hx).elim (fun q => q ▸ w.ownsRow_nil 0 e size) (h.ok x), fun x hx k hk => (List.mem_cons.1 hx).elim (fun q => by subst q; simp [Ent.fp, Value.ownBlock] at hk) (fun q => h.own x q k hk),
    List.pairwise_cons.2 ⟨fun y _ k hk => by simp [Ent.fp, Value.ownBlock] at hk, h.apart⟩⟩
theorem g_nilRow (e : TypeId) (size : Nat) (h : G N R (St W0 F (.row e size (.slice none 0 0) 0 [] :: L)) X) : G N R (St W0 F L) X := h.weaken fun _ hS => hS.nilRow e size
theorem row_of_cells {w : World} {b n size : Nat} {cs : List Value} (h : w.heap[b]? = some (.cells cs.toArray e (0, 0))) (hl : cs.length = n * size) (hn : n ≤ maxLen) : w.ownsRow 0 e size (.slice (some ⟨b, 0, none⟩) n n) n cs :=
  ⟨hl, .inr ⟨b, n, cs.toArray, rfl, Nat.zero_le _, h, Nat.le_refl _, hn, by simpa using hl, by rw [← hl]; simp⟩⟩
def elemInfo (P : Program) (e : TypeId) : Option (Nat × Nat) := match P.info? e with
  | some i => match i.zero with
    | some z => if z.cells.size = i.size then if i.size = 0 then none else some (i.size, i.bytes) else none
    | none => none
  | none => none
theorem elemInfo_spec {size bytes : Nat} (h : elemInfo P e = some (size, bytes)) : ∃ i z, P.info? e = some i ∧ i.zero = some z ∧ i.size = size ∧ i.bytes = bytes ∧ z.cells.size = size ∧ 0 < size := by
  unfold elemInfo at h
  split at h
  · rename_i i hi
    split at h
    · rename_i z hz
      split at h
      · rename_i h1
        split at h
        · cases h
        · rename_i h2
          simp only [Option.some.injEq, Prod.mk.injEq] at h;exact ⟨i, z, hi, hz, h.1, h.2, by omega, by omega⟩
      · cases h
    · cases h
  · cases h
theorem g_append {d : Nat} {tt : TypeId} {size bytes n m c : Nat} {v : Value} {xs news : List Value} {ad : Addr} (i : Nat)
    (hw : want ops R ⟨some d, .call { callee := .builtin .append, args := #[x, y], argTypes := #[tt, tt] }, ty, pos, af, gd⟩ = some true) (hN : Nat.blt d N = true)
    (hx : ev R x = some v) (hy : ev R y = some (.slice (some ad) m c)) (ht : P.underlying tt = some (.slice e)) (he : elemInfo P e = some (size, bytes))
    (hi : L[i]? = some (.row e size v n xs)) (hl : news.length = m * size) (hnews : ∀ w, St W0 F L w → ∀ j u, news[j]? = some u → w.cell? (ad.add j) = some u) (h1 : news.all (·.oneCell') = true)
    (hb : (n + m) * bytes ≤ 140737488355328) (h63 : n + m ≤ maxLen)
    (h : ∀ v', G N ((d, v') :: R) (St W0 F (L.set i (.row e size v' (n + m) (xs ++ news)))) (wpList P ops Q rest)) :
    G N R (St W0 F L) (wpList P ops Q (⟨some d, .call { callee := .builtin .append, args := #[x, y], argTypes := #[tt, tt] }, ty, pos, af, gd⟩ :: rest)) :=
  g_one hw fun _ a w hR hS hK => by
    obtain ⟨inf, z, q1, q2, q3, q4, q5, q6⟩ := elemInfo_spec he;have hown : w.ownsRow 0 e size v n xs := hS.get hi;obtain ⟨v', w', hr, ho, hg, _, hbl⟩ := run_append_own_at (P := P) w 0 tt ty e inf z size bytes ht q1 q2 q3 q4 q5 q6 v n xs hown ad m c news hl (hnews w hS) (fun u hu => by simpa using List.all_eq_true.1 h1 u hu) h63 hb (Nat.zero_le _);refine Oper.wp_ok (w' := w') (v := v') ?_ (hK _ _ (h v' _ _ (hR.put hN) ?_))
    · simp [execOp, resolve, invoke, builtin, hR.eval hx, hR.eval hy, hr]
    · refine hS.write hi hg.os hg.tape hg.output hg.size (fun k hk hkf => hg.block k hk (fun q => hkf ?_)) ho (fun k hk => ?_)
      · show k ∈ v.ownBlock.toList
        rw [← q]; simp
      · have hk' : v'.ownBlock = some k := by
          have : k ∈ v'.ownBlock.toList := hk;simpa using this
        rcases hbl with h2 | h2
        · left
          show k ∈ v.ownBlock.toList
          rw [← h2, hk']; simp
        · right
          rw [h2] at hk';simp at hk'
          omega
theorem news_of_cells {j b : Nat} {t' : TypeId} {cs : List Value} (hj : L[j]? = some (.cells b t' cs)) : ∀ w, St W0 F L w → ∀ k u, cs[k]? = some u → w.cell? ((⟨b, 0, none⟩ : Addr).add k) = some u := fun w hS k u hu => by
  rw [Addr.add_mid, Nat.zero_add];exact cell_ent hj hu w hS
def bcells (l : List UInt8) : List Value := l.map fun c => .int .u8 c.toNat
theorem bcells_append (a b : List UInt8) : bcells (a ++ b) = bcells a ++ bcells b := by simp [bcells]
theorem bcells_length (a : List UInt8) : (bcells a).length = a.length := by simp [bcells]
theorem bcells_one (l : List UInt8) : (bcells l).all (·.oneCell') = true := by
  rw [List.all_eq_true]; intro v hv;simp only [bcells, List.mem_map] at hv;obtain ⟨c, _, rfl⟩ := hv; rfl
abbrev Ent.bytes (e : TypeId) (v : Value) (l : List UInt8) : Ent := .row e 1 v l.length (bcells l)
theorem g_nilBytes (e : TypeId) (h : G N R (St W0 F (.bytes e (.slice none 0 0) [] :: L)) X) : G N R (St W0 F L) X := g_nilRow e 1 h
theorem g_appB {d : Nat} {tt : TypeId} {m c b : Nat} {v : Value} {l l' : List UInt8} {cs : List Value} (i j : Nat)
    (hw : want ops R ⟨some d, .call { callee := .builtin .append, args := #[x, y], argTypes := #[tt, tt] }, ty, pos, af, gd⟩ = some true) (hN : Nat.blt d N = true)
    (hx : ev R x = some v) (hy : ev R y = some (.slice (some ⟨b, 0, none⟩) m c)) (ht : P.underlying tt = some (.slice e)) (he : elemInfo P e = some (1, 1))
    (hi : L[i]? = some (.bytes e v l)) (hj : L[j]? = some (.cells b e cs)) (hcs : cs = bcells l') (hm : l'.length = m) (hb : l.length + m ≤ 140737488355328)
    (h : ∀ v', G N ((d, v') :: R) (St W0 F (L.set i (.bytes e v' (l ++ l')))) (wpList P ops Q rest)) :
    G N R (St W0 F L) (wpList P ops Q (⟨some d, .call { callee := .builtin .append, args := #[x, y], argTypes := #[tt, tt] }, ty, pos, af, gd⟩ :: rest)) := by
  subst hcs;refine g_append i hw hN hx hy ht he hi (by rw [bcells_length]; omega) (news_of_cells hj) (bcells_one l') (by omega) (by unfold maxLen; omega) fun v' => ?_;have := h v';simp only [Ent.bytes, List.length_append, bcells_append, hm] at this;exact this
theorem push_foldl (l : List UInt8) : ∀ b : ByteArray, (l.map fun c => (c.toNat : Int)).foldl (fun r n => r.push (UInt8.ofNat n.toNat)) b = ⟨b.data ++ l.toArray⟩ := by
  induction l with
  | nil => intro b; simp
  | cons c l ih =>
    intro b;simp only [List.map_cons, List.foldl_cons];rw [ih];congr 1
    simp [ByteArray.push]
theorem run_bstr {w : World} {g cap : Nat} (l : List UInt8) (h : ∀ j c, l[j]? = some c → w.cell? ⟨g, j, none⟩ = some (.int .u8 c.toNat)) : (Conv.bytesToString (.slice (some ⟨g, 0, none⟩) l.length cap)).run P w = .ok (.string ⟨l.toArray⟩) w := by
  rw [run_bytesToString (P := P) w ⟨g, 0, none⟩ l.length cap (l.map fun c => (c.toNat : Int)) ?_]
  · rw [push_foldl];congr 2
    simp [ByteArray.empty, ByteArray.emptyWithCapacity]
    rfl
  · have := run_loadCells_list (P := P) w ⟨g, 0, none⟩ (bcells l) (fun j v hj => by
      rw [Addr.add_mid, Nat.zero_add];simp only [bcells, List.getElem?_map, Option.map_eq_some_iff] at hj;obtain ⟨c, hc, rfl⟩ := hj;exact h j c hc)
    rw [bcells_length] at this;rw [this];simp [bcells]
theorem y_bytesStr {t' : TypeId} {v : Value} {l : List UInt8} (i : Nat) (hx : ev R x = some v) (ht : P.underlying t = some (.slice e)) (ht' : P.underlying t' = some .string) (hu : P.underlying e = some (.int .u8)) (hi : L[i]? = some (.bytes e v l)) :
    Yv P N R (St W0 F L) ⟨dst, .convert t t' x, ty, pos, af, gd⟩ (.string ⟨l.toArray⟩) := fun a w hR hS => by
  have hown : w.ownsRow 0 e 1 v l.length (bcells l) := hS.get hi
  obtain ⟨p0, n0, c0, rfl⟩ : ∃ p n c, v = .slice p n c := by
    rcases hown.2 with ⟨h1, _⟩ | ⟨g, cap, cur, h1, _⟩ <;> exact ⟨_, _, _, h1⟩
  have hr : (Conv.bytesToString (.slice p0 n0 c0)).run P w = .ok (.string ⟨l.toArray⟩) w := by
    rcases hown.2 with ⟨hv0, h0⟩ | ⟨g, cap, cur, hv0, _, hh, hcap, _, hsz, htk⟩
    · cases hv0;have : l = [] := List.length_eq_zero_iff.1 h0;subst this;rfl
    · cases hv0;refine run_bstr l fun j c hc => ?_;rw [cell_of_row w g j cur e (0, 0) hh];have h2 : (bcells l)[j]? = some (.int .u8 c.toNat) := by simp [bcells, hc]
      rw [← htk, List.getElem?_take] at h2;split at h2
      · simpa using h2
      · cases h2
  simp [execOp, hR.eval hx, convert, Sem.run_bind, run_underlying ht w, run_underlying ht' w, run_underlying hu w, hr]
theorem y_cellsStr {t' : TypeId} {b m c : Nat} {l : List UInt8} {cs : List Value} (i : Nat) (hx : ev R x = some (.slice (some ⟨b, 0, none⟩) m c)) (ht : P.underlying t = some (.slice e)) (ht' : P.underlying t' = some .string) (hu : P.underlying e = some (.int .u8)) (hi : L[i]? = some (.cells b e cs)) (hcs : cs = bcells l) (hm : l.length = m) :
    Yv P N R (St W0 F L) ⟨dst, .convert t t' x, ty, pos, af, gd⟩ (.string ⟨l.toArray⟩) := fun a w hR hS => by
  subst hcs hm
  have hr : (Conv.bytesToString (.slice (some ⟨b, 0, none⟩) l.length c)).run P w = .ok (.string ⟨l.toArray⟩) w :=
    run_bstr l fun j ch hc => cell_ent hi (by simp [bcells, hc]) w hS
  simp [execOp, hR.eval hx, convert, Sem.run_bind, run_underlying ht w, run_underlying ht' w, run_underlying hu w, hr]
end
end Go.Proofs.YtjdmdpjbijkjaaaGreat

namespace Go.Proofs.YtjdmdpjbijkjaaaGreat
open Go.ChangeShapes Go.WideShapes Go.ChangeAt Go.RowKit
section
variable {H : Type} {enc : TypeId × Value → H} {P : Program}
theorem okWide_array {r : Reach} {b0 : Nat} {W : World} {t e : TypeId} {n : Nat} {v : Value} (ht : P.underlying t = some (.array n e)) (h : Value.okWide P W r b0 t v) : ∃ cs, v = .agg cs ∧ cs.size = P.cellsOf t := by
  simp only [Value.okWide, ht] at h;obtain ⟨cs, h1, h2, _⟩ := h;exact ⟨cs, h1, h2⟩
end
section
variable {P : Program} {N : Nat} {R : Regs} {S : World → Prop}
variable {dst : Option Tmp} {ty t t' : TypeId} {pos : String} {af : Array Edge} {gd : Option (Nat × Bool)} {x y : Operand} {k : IntKind}
theorem y_idxArr {t e : TypeId} {b o n sz m : Nat} {i : Int} (hx : ev R x = some (.pointer (some ⟨b, o, none⟩))) (hy : ev R y = some (.int k i)) (ht : P.underlying t = some (.array n e)) (hz : ∀ w, (sizeOf e).run P w = .ok sz w) (h0 : 0 ≤ i) (h1 : i < n) (hm : o + i.toNat * sz = m) :
    Yv P N R S ⟨dst, .indexAddr t x y, ty, pos, af, gd⟩ (.pointer (some ⟨b, m, none⟩)) := fun a w hR _ => by
  subst hm;simp [execOp, hR.eval hx, hR.eval hy, Instr.indexAt, asIntOf, Sem.run_bind, run_underlying ht w, hz, h0, h1, Addr.add_mid, Instr.sureAddr]
end
end Go.Proofs.YtjdmdpjbijkjaaaGreat

namespace Go.Proofs.YtjdmdpjbijkjaaaGreat
open Go Go.RowKit
def nth {α : Type} : List α → Nat → Option α
  | [], _ => none
  | a :: _, 0 => some a
  | _ :: l, n + 1 => nth l n
theorem nth_eq {α : Type} : ∀ (l : List α) (n : Nat), nth l n = l[n]?
  | [], _ => rfl
  | _ :: _, 0 => rfl
  | _ :: l, n + 1 => by rw [nth, nth_eq l n]; rfl
def setE {α : Type} : List α → Nat → α → Option (List α)
  | [], _, _ => none
  | _ :: l, 0, a => some (a :: l)
  | b :: l, n + 1, a => match setE l n a with
    | some m => some (b :: m)
    | none => none
theorem setE_some {α : Type} : ∀ {l : List α} {n : Nat} {a : α} {m : List α}, setE l n a = some m → n < l.length ∧ l.set n a = m
  | [], _, _, _, h => by cases h
  | _ :: _, 0, _, _, h => by cases h; exact ⟨Nat.zero_lt_succ _, rfl⟩
  | b :: l, n + 1, a, m, h => by
    unfold setE at h
    split at h
    · rename_i m' hm
      cases h;obtain ⟨h1, h2⟩ := setE_some hm;exact ⟨by simp; omega, by rw [List.set_cons_succ, h2]⟩
    · cases h
def dropE {α : Type} : Nat → List α → Option (List α)
  | 0, l => some l
  | n + 1, _ :: l => dropE n l
  | _ + 1, [] => none
theorem dropE_some {α : Type} : ∀ {n : Nat} {l m : List α}, dropE n l = some m → n ≤ l.length ∧ l.drop n = m
  | 0, _, _, h => by cases h; exact ⟨Nat.zero_le _, rfl⟩
  | n + 1, _ :: l, m, h => by
    obtain ⟨h1, h2⟩ := dropE_some (n := n) (l := l) h;exact ⟨by simp; omega, h2⟩
  | _ + 1, [], _, h => by cases h
def takeE {α : Type} : Nat → List α → Option (List α)
  | 0, _ => some []
  | n + 1, a :: l => match takeE n l with
    | some m => some (a :: m)
    | none => none
  | _ + 1, [] => none
theorem takeE_some {α : Type} : ∀ {n : Nat} {l m : List α}, takeE n l = some m → m.length = n ∧ l.take n = m
  | 0, _, _, h => by cases h; exact ⟨rfl, rfl⟩
  | n + 1, a :: l, m, h => by
    unfold takeE at h
    split at h
    · rename_i m' hm
      cases h;obtain ⟨h1, h2⟩ := takeE_some hm;exact ⟨by simp [h1], by rw [List.take_succ_cons, h2]⟩
    · cases h
  | _ + 1, [], _, h => by cases h
def overE {α : Type} : List α → List α → Option (List α)
  | l, [] => some l
  | _ :: l, b :: r => match overE l r with
    | some m => some (b :: m)
    | none => none
  | [], _ :: _ => none
def putE {α : Type} : Nat → List α → List α → Option (List α)
  | 0, l, r => overE l r
  | n + 1, a :: l, r => match putE n l r with
    | some m => some (a :: m)
    | none => none
  | _ + 1, [], _ => none
theorem overE_some {α : Type} : ∀ {l r m : List α}, overE l r = some m → r.length ≤ l.length ∧ m = r ++ l.drop r.length
  | l, [], m, h => by
    have : m = l := by cases l <;> (cases h; rfl)
    exact ⟨Nat.zero_le _, by simp [this]⟩
  | a :: l, b :: r, m, h => by
    unfold overE at h
    split at h
    · rename_i m' hm
      cases h;obtain ⟨h1, h2⟩ := overE_some hm;exact ⟨by simp; omega, by simp [h2]⟩
    · cases h
  | [], _ :: _, _, h => by cases h
theorem putE_some {α : Type} : ∀ {n : Nat} {l r m : List α}, putE n l r = some m → n + r.length ≤ l.length ∧ m = l.take n ++ (r ++ l.drop (n + r.length))
  | 0, l, r, m, h => by
    obtain ⟨h1, h2⟩ := overE_some h;exact ⟨by omega, by simp [h2]⟩
  | n + 1, a :: l, r, m, h => by
    unfold putE at h
    split at h
    · rename_i m' hm
      cases h;obtain ⟨h1, h2⟩ := putE_some hm;exact ⟨by simp; omega, by rw [h2, show n + 1 + r.length = (n + r.length) + 1 by omega]; simp⟩
    · cases h
  | _ + 1, [], _, _, h => by cases h
inductive TK where
  | int (k : IntKind)
  | bool
  | str
  | slice (e sz : Nat)
  | arr (n e sz : Nat)
  | st (fs : List (Nat × Nat))
  | other
structure TI where
  agg : Bool
  sz : Nat
  kd : TK
  zs : List Value
def fillE (pl : Nat → Option (Nat × Nat)) (zs : List Value) : List (Nat × Value) → Option (List Value)
  | [] => some zs
  | (i, v) :: r => match pl i with
    | some (o, n) => match v with
      | .agg a => if Nat.beq a.toList.length n then (match putE o zs a.toList with
        | some z => fillE pl z r
        | none => none) else none
      | .tuple _ => none
      | u => if Nat.beq 1 n then (match putE o zs [u] with
        | some z => fillE pl z r
        | none => none) else none
    | none => none
theorem foldl_put (o : Nat) : ∀ (l : List Value) (k : Nat) (a : List Value), o + k + l.length ≤ a.length → (l.zipIdx k).foldl (fun cs (c, j) => cs.setIfInBounds (o + j) c) a.toArray = (a.take (o + k) ++ (l ++ a.drop (o + k + l.length))).toArray
  | [], k, a, _ => by simp
  | c :: l, k, a, h => by
    simp only [List.length_cons] at h;rw [List.zipIdx_cons, List.foldl_cons];dsimp only;have e : a.toArray.setIfInBounds (o + k) c = (a.set (o + k) c).toArray := by simp
    rw [e, foldl_put o l (k + 1) (a.set (o + k) c) (by simp; omega)];congr 1
    have e1 : (a.set (o + k) c).take (o + (k + 1)) = a.take (o + k) ++ [c] := by
      rw [show o + (k + 1) = o + k + 1 by omega, List.take_add_one, List.take_set_of_le (Nat.le_refl _), List.getElem?_set_self (by omega)]; rfl
    have e2 : (a.set (o + k) c).drop (o + (k + 1) + l.length) = a.drop (o + k + (c :: l).length) := by
      rw [List.drop_set_of_lt (by omega)]; congr 1; simp only [List.length_cons]; omega
    rw [e1, e2, List.append_assoc]; rfl
theorem fillE_some {pl : Nat → Option (Nat × Nat)} : ∀ {vs : List (Nat × Value)} {zs z : List Value}, fillE pl zs vs = some z → Instr.fill pl zs.toArray vs = some z.toArray
  | [], zs, z, h => by cases h; rfl
  | (i, v) :: r, zs, z, h => by
    unfold fillE at h
    unfold Instr.fill
    split at h
    · rename_i o n hp
      have key : ∀ (a : Array Value), v.cells = a → a.toList.length = n → ∀ z1, putE o zs a.toList = some z1 → fillE pl z1 r = some z → (match pl i with
          | none => none
          | some (off, size) => if v.cells.size ≠ size || off + v.cells.size > zs.toArray.size then none else Instr.fill pl (v.cells.zipIdx.foldl (fun cs (c, j) => cs.setIfInBounds (off + j) c) zs.toArray) r) = some z.toArray := by
        intro a ha hn z1 h1 h2;obtain ⟨q1, q2⟩ := putE_some h1;have hs : v.cells.size = n := by rw [ha, ← hn]; simp
        have hs2 : a.toList.length = a.size := by simp
        have hk : ¬ (((v.cells.size ≠ n) || decide (o + v.cells.size > zs.toArray.size)) = true) := by
          rw [ha] at hs ⊢; simp only [List.size_toArray, Bool.or_eq_true, decide_eq_true_eq, ne_eq, decide_not, Bool.not_eq_true', decide_eq_false_iff_not]; omega
        rw [hp];dsimp only;rw [if_neg hk];have e := foldl_put o a.toList 0 zs (by omega);rw [ha]
        have e3 : a.zipIdx.foldl (fun cs (c, j) => cs.setIfInBounds (o + j) c) zs.toArray = (a.toList.zipIdx 0).foldl (fun cs (c, j) => cs.setIfInBounds (o + j) c) zs.toArray := by
          rw [← Array.foldl_toList]; congr 1; simp
        rw [e3, e, Nat.add_zero, ← q2];exact fillE_some h2
      split at h
      · rename_i a
        split at h
        · rename_i hb
          split at h
          · rename_i z1 h1
            exact key a rfl (Nat.eq_of_beq_eq_true hb) z1 h1 h
          · cases h
        · cases h
      · cases h
      · rename_i na nt
        split at h
        · rename_i hb
          split at h
          · rename_i z1 h1
            refine key #[v] ?_ (Nat.eq_of_beq_eq_true hb) z1 h1 h;cases v <;> first | rfl | exact absurd rfl (na _)
          · cases h
        · cases h
    · cases h
def TK.ok (P : Program) (t : TypeId) (zs : List Value) : TK → Prop
  | .int k => P.underlying t = some (.int k)
  | .bool => P.underlying t = some .bool
  | .str => P.underlying t = some .string
  | .slice e z => P.underlying t = some (.slice e) ∧ ∀ w, (sizeOf e).run P w = .ok z w
  | .arr n e z => P.underlying t = some (.array n e) ∧ (∀ w, (sizeOf e).run P w = .ok z w) ∧ ∀ vs, P.built t vs = Instr.fill (fun i => some (i * z, z)) zs.toArray vs
  | .st fs => (List.range fs.length).map (fieldOff P t) = fs.map (fun x => if Nat.beq x.2 0 then none else some x.1) ∧ ∀ vs, P.built t vs = Instr.fill (fs.toArray[·]?) zs.toArray vs
  | .other => True
def TI.ok (P : Program) (t : TypeId) (i : TI) : Prop :=
  (∀ w, (isAgg t).run P w = .ok i.agg w) ∧ (∀ w, (sizeOf t).run P w = .ok i.sz w) ∧ i.kd.ok P t i.zs
def rng : IntKind → Int → Option Prop
  | .i64, z => some (-9223372036854775808 ≤ z ∧ z ≤ 9223372036854775807)
  | .u8, z => some (0 ≤ z ∧ z ≤ 255)
  | .u64, z => some (0 ≤ z ∧ z ≤ 18446744073709551615)
  | .u32, z => some (0 ≤ z ∧ z ≤ 4294967295)
  | .i32, z => some (-2147483648 ≤ z ∧ z ≤ 2147483647)
  | _, _ => none
theorem rng_wrap {k : IntKind} {z : Int} {p : Prop} (h : rng k z = some p) (hp : p) : k.wrap z = z := by
  cases k <;> first | (cases h; done) | (cases h; simp [IntKind.wrap, IntKind.bits, IntKind.signed]; omega)
abbrev Yd := Option (Value × List Nat × Option Prop)
def int? (k : IntKind) (z : Int) (hs : List Nat) : Yd := match rng k z with
  | some p => some (.int k z, hs, some p)
  | none => none
def icmp (hs : List Nat) (p : Prop) (i : Decidable p) : Yd := match hs with
  | [] => some (.bool (@decide p i), [], none)
  | 0 :: hs => some (.bool (@decide p i), hs, none)
  | 1 :: hs => some (.bool true, hs, some p)
  | _ :: hs => some (.bool false, hs, some (¬ p))
def ibin (hs : List Nat) (k : IntKind) (a b : Int) : BinOp → Yd
  | .add => int? k (a + b) hs
  | .sub => int? k (a - b) hs
  | .mul => int? k (a * b) hs
  | .quo => match rng k (a / b) with
    | some p => some (.int k (a / b), hs, some (0 ≤ a ∧ 0 < b ∧ p))
    | none => none
  | .rem => some (.int k (a % b), hs, some (0 ≤ a ∧ 0 < b))
  | .eql => icmp hs (a = b) inferInstance
  | .neq => icmp hs (a ≠ b) inferInstance
  | .lss => icmp hs (a < b) inferInstance
  | .leq => icmp hs (a ≤ b) inferInstance
  | .gtr => icmp hs (b < a) inferInstance
  | .geq => icmp hs (b ≤ a) inferInstance
  | _ => none
def sbin (hs : List Nat) (s u : ByteArray) : BinOp → Yd
  | .eql => some (.bool (decide (s = u)), hs, none)
  | .neq => some (.bool (decide (s ≠ u)), hs, none)
  | .add => some (.string (s ++ u), hs, some (s.size + u.size ≤ 9223372036854775807))
  | _ => none
abbrev Tab := Nat → Option TI
def yv (T : Tab) (R : Regs) (L : List Ent) (hs : List Nat) : Op → Yd
  | .move x | .assign x => match ev R x with
    | some v => some (v, hs, none)
    | none => none
  | .nilCheck x => match ev R x with
    | some (.pointer (some p)) => some (.pointer (some p), hs, none)
    | _ => none
  | .fieldAddr t x i => match T t, ev R x with
    | some ⟨_, _, .st fs, _⟩, some (.pointer (some ⟨b, off, none⟩)) => (match nth fs i with
      | some (k, _ + 1) => some (.pointer (some ⟨b, off + k, none⟩), hs, none)
      | _ => none)
    | _, _ => none
  | .load t x => match T t, ev R x, hs with
    | some ⟨true, sz, _, _⟩, some (.pointer (some ⟨b, off, none⟩)), i :: hs => (match nth L i with
      | some (.cells b' _ cs) => (match dropE off cs with
        | some m => (match takeE sz m with
          | some vs => some (.agg vs.toArray, hs, some (b = b'))
          | none => none)
        | none => none)
      | _ => none)
    | some ⟨false, _, _, _⟩, some (.pointer (some ⟨b, off, none⟩)), i :: hs => (match nth L i with
      | some (.cells b' _ cs) => (match nth cs off with
        | some v => some (v, hs, some (b = b'))
        | none => none)
      | _ => none)
    | _, _, _ => none
  | .extract x i => match ev R x with
    | some (.tuple vs) => (match nth vs.toList i with
      | some v => some (v, hs, none)
      | none => none)
    | _ => none
  | .pick c x y => match ev R c with
    | some (.bool true) => (match ev R x with
      | some v => some (v, hs, none)
      | none => none)
    | some (.bool false) => (match ev R y with
      | some v => some (v, hs, none)
      | none => none)
    | _ => none
  | .unOp .not _ x => match ev R x with
    | some (.bool b) => some (.bool (!b), hs, none)
    | _ => none
  | .unOp .neg _ x => match ev R x with
    | some (.int k a) => int? k (0 - a) hs
    | _ => none
  | .binOp op _ x y _ => match ev R x, ev R y with
    | some (.int k a), some (.int k' b) => if k = k' then ibin hs k a b op else none
    | some (.string s), some (.string u) => sbin hs s u op
    | _, _ => none
  | .convert t t' x => match T t, T t', ev R x with
    | some ⟨_, _, .int _, _⟩, some ⟨_, _, .int k', _⟩, some (.int _ a) => int? k' a hs
    | _, _, _ => none
  | .call ⟨.builtin .len, xs, ts⟩ => match xs.toList, ts.toList with
    | [x], [t] => (match T t, ev R x with
      | some ⟨_, _, .str, _⟩, some (.string s) => some (.int .i64 s.size, hs, none)
      | some ⟨_, _, .slice _ _, _⟩, some (.slice _ n _) => some (.int .i64 n, hs, none)
      | _, _ => none)
    | _, _ => none
  | .index t x y => match T t, ev R x, ev R y with
    | some ⟨_, _, .str, _⟩, some (.string s), some (.int _ i) => some (.int .u8 (bt s i), hs, some (0 ≤ i ∧ i < s.size))
    | _, _, _ => none
  | .slice t x lo hi none => match T t, ev R x with
    | some ⟨_, _, .str, _⟩, some (.string s) => (match lo, hi with
      | some lo, some hi => (match ev R lo, ev R hi with
        | some (.int .i64 l), some (.int .i64 h) => some (.string (s.extract l.toNat h.toNat), hs, some (0 ≤ l ∧ l ≤ h ∧ h ≤ s.size))
        | _, _ => none)
      | some lo, none => (match ev R lo with
        | some (.int .i64 l) => some (.string (s.extract l.toNat s.size), hs, some (0 ≤ l ∧ l ≤ s.size))
        | _ => none)
      | none, some hi => (match ev R hi with
        | some (.int .i64 h) => some (.string (s.extract 0 h.toNat), hs, some (0 ≤ h ∧ h ≤ s.size))
        | _ => none)
      | none, none => none)
    | _, _ => none
  | .indexAddr t x y => match T t, ev R x, ev R y with
    | some ⟨_, _, .arr n _ z, _⟩, some (.pointer (some ⟨b, off, none⟩)), some (.int _ i) => some (.pointer (some ⟨b, off + i.toNat * z, none⟩), hs, some (0 ≤ i ∧ i < n))
    | some ⟨_, _, .slice _ z, _⟩, some (.slice (some ⟨b, off, none⟩) n _), some (.int _ i) => some (.pointer (some ⟨b, off + i.toNat * z, none⟩), hs, some (0 ≤ i ∧ i < n))
    | _, _, _ => none
  | .build t ps => match T t, evParts R ps.toList with
    | some ⟨_, _, .st fs, zs⟩, some vs => (match fillE (nth fs) zs vs with
      | some z => some (.agg z.toArray, hs, none)
      | none => none)
    | some ⟨_, _, .arr _ _ n, zs⟩, some vs => (match fillE (fun i => some (i * n, n)) zs vs with
      | some z => some (.agg z.toArray, hs, none)
      | none => none)
    | _, _ => none
  | _ => none
section
variable {P : Program} {N : Nat} {R : Regs} {W0 : World} {F : List Nat} {L : List Ent} {S : World → Prop}
variable {dst : Option Tmp} {ty t t' : TypeId} {pos : String} {af : Array Edge} {gd : Option (Nat × Bool)} {x y : Operand} {k : IntKind} {a b : Int} {T : Tab} {hs hs' : List Nat} {v : Value} {c : Option Prop}
theorem int?_ok {o : Oper} {z : Int} (hy : Yv P N R S o (.int k (k.wrap z))) (h : int? k z hs = some (v, hs', c)) (hc : ∀ p, c = some p → p) : Yv P N R S o v := by
  unfold int? at h
  split at h
  · rename_i p hp; cases h; rwa [rng_wrap hp (hc _ rfl)] at hy
  · cases h
theorem icmp_ok {o : Oper} {p : Prop} {i : Decidable p} (hy : Yv P N R S o (.bool (@decide p i))) (h : icmp hs p i = some (v, hs', c)) (hc : ∀ p, c = some p → p) : Yv P N R S o v := by
  unfold icmp at h
  split at h
  · cases h; exact hy
  · cases h; exact hy
  · cases h; exact y_lit true hy (decide_eq_true (hc _ rfl))
  · cases h; exact y_lit false hy (decide_eq_false (hc _ rfl))
theorem ibin_ok {bop : BinOp} (hx : ev R x = some (.int k a)) (hy : ev R y = some (.int k b)) (h : ibin hs k a b bop = some (v, hs', c)) (hc : ∀ p, c = some p → p) : Yv P N R S ⟨dst, .binOp bop t x y t', ty, pos, af, gd⟩ v := by
  unfold ibin at h
  split at h
  · exact int?_ok (y_iadd hx hy) h hc
  · exact int?_ok (y_isub hx hy) h hc
  · exact int?_ok (y_imul hx hy) h hc
  · split at h
    · rename_i p hp
      cases h;obtain ⟨h1, h2, h3⟩ := hc _ rfl;have := y_iquo (P := P) (N := N) (S := S) (dst := dst) (ty := ty) (t := t) (t' := t') (pos := pos) (af := af) (gd := gd) hx hy (by omega);rwa [Int.tdiv_eq_ediv_of_nonneg h1, rng_wrap hp h3] at this
    · cases h
  · cases h;obtain ⟨h1, h2⟩ := hc _ rfl;have := y_irem (P := P) (N := N) (S := S) (dst := dst) (ty := ty) (t := t) (t' := t') (pos := pos) (af := af) (gd := gd) hx hy (by omega);rwa [Int.tmod_eq_emod_of_nonneg h1] at this
  · exact icmp_ok (y_ieq hx hy) h hc
  · exact icmp_ok (y_ine hx hy) h hc
  · exact icmp_ok (y_ilt hx hy) h hc
  · exact icmp_ok (y_ile hx hy) h hc
  · exact icmp_ok (y_igt hx hy) h hc
  · exact icmp_ok (y_ige hx hy) h hc
  · cases h
theorem sbin_ok {bop : BinOp} {s u : ByteArray} (hx : ev R x = some (.string s)) (hy : ev R y = some (.string u)) (h : sbin hs s u bop = some (v, hs', c)) (hc : ∀ p, c = some p → p) : Yv P N R S ⟨dst, .binOp bop t x y t', ty, pos, af, gd⟩ v := by
  unfold sbin at h
  split at h
  · cases h; exact y_seq hx hy
  · cases h; exact y_sne hx hy
  · cases h; exact y_scat hx hy (hc _ rfl)
  · cases h
theorem fieldOff_of {fs : List (Nat × Nat)} {i k z : Nat} (h : (List.range fs.length).map (fieldOff P t) = fs.map (fun x => if Nat.beq x.2 0 then none else some x.1)) (hi : nth fs i = some (k, z + 1)) : fieldOff P t i = some k := by
  rw [nth_eq] at hi;have hl : i < fs.length := (List.getElem?_eq_some_iff.1 hi).1;have hg : fs[i] = (k, z + 1) := (List.getElem?_eq_some_iff.1 hi).2;have := congrArg (·[i]?) h;simpa [hl, hg] using this
theorem y_builtE {t : TypeId} {ps : Array (Nat × Operand)} {vs : List (Nat × Value)} {z : List Value} (hv : evParts R ps.toList = some vs) (hb : P.built t vs = some z.toArray) : Yv P N R S ⟨dst, .build t ps, ty, pos, af, gd⟩ (.agg z.toArray) := fun a w hR _ => by
  have e := evParts_map hR ps.toList vs hv;have e2 : (ps.map fun (i, x) => (i, a.eval x)).toList = vs := by simpa using e
  have := run_build w t (ps.map fun (i, x) => (i, a.eval x)) _ (by rw [e2]; exact hb);simp only [execOp, Sem.run_bind, this, Result.andThen_ok];rfl
theorem yv_ok (hT : ∀ t i, T t = some i → i.ok P t) {op : Op} (h : yv T R L hs op = some (v, hs', c)) (hc : ∀ p, c = some p → p) : Yv P N R (St W0 F L) ⟨dst, op, ty, pos, af, gd⟩ v := by
  unfold yv at h
  split at h
  · split at h
    · rename_i hx; cases h; exact y_move hx
    · cases h
  · split at h
    · rename_i hx; cases h; exact y_assign hx
    · cases h
  · split at h
    · rename_i hx; cases h; exact y_nilCheck hx
    · cases h
  · split at h
    · rename_i ht hx
      split at h
      · rename_i hi; cases h; exact y_fieldAddr hx (fieldOff_of (hT _ _ ht).2.2.1 hi) rfl
      · cases h
    · cases h
  · split at h
    · rename_i ht hx
      split at h
      · rename_i hL
        split at h
        · rename_i hd
          split at h
          · rename_i htk
            cases h;obtain rfl := hc _ rfl;rw [nth_eq] at hL;obtain ⟨_, rfl⟩ := dropE_some hd;obtain ⟨h1, h2⟩ := takeE_some htk;exact y_ldN _ hx (hT _ _ ht).1 (hT _ _ ht).2.1 hL h2 h1
          · cases h
        · cases h
      · cases h
    · rename_i ht hx
      split at h
      · rename_i hL
        split at h
        · rename_i hv
          cases h;obtain rfl := hc _ rfl;rw [nth_eq] at hL hv;exact y_ld _ hx (hT _ _ ht).1 hL hv
        · cases h
      · cases h
    · cases h
  · split at h
    · rename_i vs hx
      split at h
      · rename_i hi
        cases h;rw [nth_eq, Array.getElem?_toList] at hi;exact y_extract hx hi
      · cases h
    · cases h
  · split at h
    · rename_i hcb
      split at h
      · rename_i hx; cases h; exact y_pick_t hcb hx
      · cases h
    · rename_i hcb
      split at h
      · rename_i hx; cases h; exact y_pick_f hcb hx
      · cases h
    · cases h
  · split at h
    · rename_i hx; cases h; exact y_not hx
    · cases h
  · split at h
    · rename_i hx
      exact int?_ok (y_neg hx) h hc
    · cases h
  · split at h
    · rename_i hx hy
      split at h
      · rename_i hk; subst hk; exact ibin_ok hx hy h hc
      · cases h
    · rename_i hx hy; exact sbin_ok hx hy h hc
    · cases h
  · split at h
    · rename_i ht ht' hx
      exact int?_ok (y_toInt hx (hT _ _ ht).2.2 (hT _ _ ht').2.2) h hc
    · cases h
  · rename_i xs ts
    split at h
    · rename_i e1 e2
      obtain rfl : xs = #[_] := Array.toList_inj.1 e1;obtain rfl : ts = #[_] := Array.toList_inj.1 e2;split at h
      · rename_i ht hx; cases h; exact y_slen hx (hT _ _ ht).2.2
      · rename_i ht hx; cases h; exact y_llen hx (hT _ _ ht).2.2.1
      · cases h
    · cases h
  · split at h
    · rename_i ht hx hy
      cases h;obtain ⟨h1, h2⟩ := hc _ rfl;exact y_sat hx hy (hT _ _ ht).2.2 h1 h2
    · cases h
  · split at h
    · rename_i ht hx
      split at h
      · split at h
        · rename_i hl hh
          cases h;obtain ⟨h1, h2, h3⟩ := hc _ rfl;exact y_ssl hx hl hh (hT _ _ ht).2.2 h1 h2 h3
        · cases h
      · split at h
        · rename_i hl
          cases h;obtain ⟨h1, h2⟩ := hc _ rfl;exact y_sfr hx hl (hT _ _ ht).2.2 h1 h2
        · cases h
      · split at h
        · rename_i hl
          cases h;obtain ⟨h1, h2⟩ := hc _ rfl;exact y_stoI hx hl (hT _ _ ht).2.2 h1 h2
        · cases h
      · cases h
    · cases h
  · split at h
    · rename_i ht hx hy
      cases h;obtain ⟨h1, h2⟩ := hc _ rfl;obtain ⟨j, rfl⟩ := Int.eq_ofNat_of_zero_le h1;exact y_idxArr hx hy (hT _ _ ht).2.2.1 (hT _ _ ht).2.2.2.1 (by omega) (by omega) rfl
    · rename_i ht hx hy
      cases h;obtain ⟨h1, h2⟩ := hc _ rfl;exact y_idxAddr hx hy (hT _ _ ht).2.2.1 (hT _ _ ht).2.2.2 h1 h2 rfl
    · cases h
  · rename_i t ps
    split at h
    · rename_i ht hv
      split at h
      · rename_i z hz
        cases h;refine y_builtE hv ?_;rw [(hT _ _ ht).2.2.2, ← fillE_some hz];congr 1
        funext i
        rw [nth_eq]; simp
      · cases h
    · rename_i ht hv
      split at h
      · rename_i z hz
        cases h;refine y_builtE hv ?_;rw [(hT _ _ ht).2.2.2.2, ← fillE_some hz]
      · cases h
    · cases h
  · cases h
theorem run_storeCells {b off : Nat} {t : TypeId} : ∀ (vs : List Value) (i : Nat) (w : World) (cs : List Value), w.heap[b]? = some (.cells cs.toArray t (0, 0)) → off + i + vs.length ≤ cs.length → vs.all (·.oneCell') = true →
    ∃ w', (storeCells ⟨b, off, none⟩ vs i).run P w = .ok () w' ∧ w'.heap[b]? = some (.cells (cs.take (off + i) ++ (vs ++ cs.drop (off + i + vs.length))).toArray t (0, 0)) ∧ w'.os = w.os ∧ w'.tape = w.tape ∧ w'.output = w.output ∧ w'.heap.size = w.heap.size ∧ ∀ k, k ≠ b → w'.heap[k]? = w.heap[k]?
  | [], i, w, cs, h, _, _ => ⟨w, by simp [storeCells], by simpa using h, rfl, rfl, rfl, rfl, fun _ _ => rfl⟩
  | v :: vs, i, w, cs, h, hl, h1 => by
    simp only [List.length_cons] at hl;rw [List.all_cons, Bool.and_eq_true] at h1;have hc : w.cell? ⟨b, off + i, none⟩ = some (cs[off + i]'(by omega)) := by rw [cell_of_row w b (off + i) _ t (0, 0) h, List.getElem?_toArray]; exact List.getElem?_eq_getElem (by omega)
    have hf : w.frozen? ⟨b, off + i, none⟩ = false := frozen_of_row w b (off + i) _ t h;have hs := heap_setCell_same w b (off + i) cs.toArray t v h;have hs' : (w.setCell ⟨b, off + i, none⟩ v).heap[b]? = some (.cells (cs.set (off + i) v).toArray t (0, 0)) := by rw [hs]; simp
    obtain ⟨w', q1, q2, q3, q4, q5, q6, q7⟩ := run_storeCells (off := off) vs (i + 1) (w.setCell ⟨b, off + i, none⟩ v) (cs.set (off + i) v) hs' (by simp; omega) h1.2;refine ⟨w', ?_, ?_, q3, q4, q5, by rw [q6]; simp [World.setCell], fun k hk => (q7 k hk).trans (Below.heap_setCell _ _ _ _ hk)⟩
    · simp only [storeCells, Sem.run_bind, Addr.add_mid, run_store P w _ v .plain h1.1, hc, hf];exact q1
    · rw [q2];congr 3
      have e1 : (cs.set (off + i) v).take (off + (i + 1)) = cs.take (off + i) ++ [v] := by
        rw [show off + (i + 1) = off + i + 1 by omega, List.take_add_one, List.take_set_of_le (Nat.le_refl _), List.getElem?_set_self (show off + i < cs.length by omega)]; rfl
      have e2 : (cs.set (off + i) v).drop (off + (i + 1) + vs.length) = cs.drop (off + i + (v :: vs).length) := by
        rw [List.drop_set_of_lt (show off + i < off + (i + 1) + vs.length by omega)]; congr 1; simp only [List.length_cons]; omega
      rw [e1, e2, List.append_assoc]; rfl
end
section
variable {P : Program} {N : Nat} {R : Regs} {W0 : World} {F : List Nat} {L : List Ent} {Q : Exit → Act → World → Prop} {ops : Array Oper} {rest : List Oper}
variable {ty t t' : TypeId} {pos : String} {af : Array Edge} {gd : Option (Nat × Bool)} {x y : Operand}
theorem g_stAt {b off n : Nat} {cs ms : List Value} {v : Value} (i : Nat) (hw : want ops R ⟨none, .store t x y, ty, pos, af, gd⟩ = some true) (hx : ev R x = some (.pointer (some ⟨b, off, none⟩))) (hy : ev R y = some v) (hz : ∀ w, (sizeOf t).run P w = .ok n w) (h1 : v.cells.toList.all (·.oneCell') = true)
    (hi : L[i]? = some (.cells b t' cs)) (hn : v.cells.toList.length = n) (hm : putE off cs v.cells.toList = some ms) (h : G N R (St W0 F (L.set i (.cells b t' ms))) (wpList P ops Q rest)) : G N R (St W0 F L) (wpList P ops Q (⟨none, .store t x y, ty, pos, af, gd⟩ :: rest)) :=
  g_one hw fun _ a w hR hS hK => by
    obtain ⟨q1, rfl⟩ := putE_some hm;obtain ⟨w', e1, e2, e3, e4, e5, e6, e7⟩ := run_storeCells (P := P) (off := off) v.cells.toList 0 w cs (hS.cells hi) (by omega) h1;have hs : v.cells.size = n := by rw [← hn]; simp
    refine Oper.wp_skip (w' := w') ?_ (hK _ _ (h _ _ hR (hS.write hi e3 e4 e5 (by omega) (fun k _ hk => e7 k (by simpa [Ent.fp] using hk)) e2 (fun k hk => .inl hk))));simp [execOp, hR.eval hx, hR.eval hy, Sem.run_bind, Instr.storeAt, Instr.sureAddr, storeVar, hz, hs, e1]
def sv (T : Tab) (R : Regs) (L : List Ent) (hs : List Nat) : Op → Option (List Ent × List Nat × Prop)
  | .store t x y => match T t, ev R x, ev R y, hs with
    | some ⟨_, n, _, _⟩, some (.pointer (some ⟨b, off, none⟩)), some v, i :: hs => (match nth L i with
      | some (.cells b' t' cs) => (match v.cells.toList with
        | vs => (match vs.all (·.oneCell') && Nat.beq vs.length n, putE off cs vs with
          | true, some ms => (match setE L i (.cells b' t' ms) with
            | some L => some (L, hs, b = b')
            | none => none)
          | _, _ => none))
      | _ => none)
    | _, _, _, _ => none
  | _ => none
def nrm : List Ent → Option (List Ent)
  | [] => some []
  | e :: l => match nrm l with
    | some l => some (e :: l)
    | none => none
theorem nrm_eq : ∀ (l : List Ent), nrm l = some l
  | [] => rfl
  | e :: l => by rw [nrm, nrm_eq l]
def ex (T : Tab) (N : Nat) (ops : Array Oper) : Nat → Regs → List Ent → List Nat → Prop → List Oper → Option (Regs × List Ent × List Oper × Prop)
  | 0, R, L, _, C, l => some (R, L, l, C)
  | n + 1, R, L, hs, C, ⟨dst, op, ty, pos, af, gd⟩ :: l => match want ops R ⟨dst, op, ty, pos, af, gd⟩, dst with
    | some false, some d => (match Nat.blt d N with
      | true => ex T N ops n ((d, undef) :: R) L hs C l
      | false => none)
    | some true, none => (match sv T R L hs op with
      | some (L, hs, p) => ex T N ops n R L hs (C ∧ p) l
      | none => none)
    | some true, some d => (match Nat.blt d N, yv T R L hs op with
      | true, some (v, hs, none) => ex T N ops n ((d, v) :: R) L hs C l
      | true, some (v, hs, some p) => ex T N ops n ((d, v) :: R) L hs (C ∧ p) l
      | _, _ => none)
    | _, _ => none
  | _ + 1, _, _, _, _, [] => none
theorem ex_ok {T : Tab} (hT : ∀ t i, T t = some i → i.ok P t) : ∀ {n : Nat} {R R' : Regs} {L L' : List Ent} {hs : List Nat} {C C' : Prop} {l l' : List Oper}, ex T N ops n R L hs C l = some (R', L', l', C') → C' → C ∧ (G N R' (St W0 F L') (wpList P ops Q l') → G N R (St W0 F L) (wpList P ops Q l))
  | 0, R, R', L, L', hs, C, C', l, l', h, c => by cases h; exact ⟨c, fun g => g⟩
  | n + 1, R, R', L, L', hs, C, C', [], l', h, c => by cases h
  | n + 1, R, R', L, L', hs, C, C', ⟨dst, op, ty, pos, af, gd⟩ :: l, l', h, c => by
    unfold ex at h
    split at h
    · rename_i d hw
      split at h
      · rename_i hN
        obtain ⟨q1, q2⟩ := ex_ok hT h c;exact ⟨q1, fun g => g_not hw rfl hN (q2 g)⟩
      · cases h
    · rename_i hw
      split at h
      · rename_i L1 hs1 p hs2
        obtain ⟨⟨q1, q2⟩, q3⟩ := ex_ok hT h c;refine ⟨q1, fun g => ?_⟩;unfold sv at hs2
        split at hs2
        · split at hs2
          · rename_i ht hx hy
            split at hs2
            · rename_i b' t' cs hi
              dsimp only at hs2;split at hs2
              · rename_i ms h1 hm
                split at hs2
                · rename_i L2 hL
                  cases hs2;subst q2;obtain ⟨_, rfl⟩ := setE_some hL;rw [nth_eq] at hi;rw [Bool.and_eq_true] at h1;exact g_stAt _ hw hx hy (hT _ _ ht).2.1 h1.1 hi (Nat.eq_of_beq_eq_true h1.2) hm (q3 g)
                · cases hs2
              · cases hs2
            · cases hs2
          · cases hs2
        · cases hs2
      · cases h
    · rename_i d hw
      split at h
      · rename_i hN hv
        obtain ⟨q1, q2⟩ := ex_ok hT h c;exact ⟨q1, fun g => g_val hw rfl hN (yv_ok hT hv (fun p hp => by cases hp)) (q2 g)⟩
      · rename_i p hN hv
        obtain ⟨⟨q0, q1⟩, q2⟩ := ex_ok hT h c;exact ⟨q0, fun g => g_val hw rfl hN (yv_ok hT hv (fun p' hp => by cases hp; exact q1)) (q2 g)⟩
      · cases h
    · cases h
def eq_ (T : Tab) (N : Nat) (ops : Array Oper) (L : List Ent) : Nat → Regs → List Nat → Prop → List Oper → Option (Regs × List Oper × Prop)
  | 0, R, _, C, l => some (R, l, C)
  | n + 1, R, hs, C, ⟨dst, op, ty, pos, af, gd⟩ :: l => match want ops R ⟨dst, op, ty, pos, af, gd⟩, dst with
    | some false, some d => (match Nat.blt d N with
      | true => eq_ T N ops L n ((d, undef) :: R) hs C l
      | false => none)
    | some true, some d => (match Nat.blt d N, yv T R L hs op with
      | true, some (v, hs, none) => eq_ T N ops L n ((d, v) :: R) hs C l
      | true, some (v, hs, some p) => eq_ T N ops L n ((d, v) :: R) hs (C ∧ p) l
      | _, _ => none)
    | _, _ => none
  | _ + 1, _, _, _, [] => none
theorem eq_ok {T : Tab} (hT : ∀ t i, T t = some i → i.ok P t) {Qq : Act → Prop} : ∀ {n : Nat} {R R' : Regs} {hs : List Nat} {C C' : Prop} {l l' : List Oper}, eq_ T N ops L n R hs C l = some (R', l', C') → C' → C ∧ (GQ N R' (wpQuiet P ops (St W0 F L) Qq l') → GQ N R (wpQuiet P ops (St W0 F L) Qq l))
  | 0, R, R', hs, C, C', l, l', h, c => by cases h; exact ⟨c, fun g => g⟩
  | n + 1, R, R', hs, C, C', [], l', h, c => by cases h
  | n + 1, R, R', hs, C, C', ⟨dst, op, ty, pos, af, gd⟩ :: l, l', h, c => by
    unfold eq_ at h
    split at h
    · rename_i d hw
      split at h
      · rename_i hN
        obtain ⟨q1, q2⟩ := eq_ok hT h c;exact ⟨q1, fun g => q_not hw rfl hN (q2 g)⟩
      · cases h
    · rename_i d hw
      split at h
      · rename_i hN hv
        obtain ⟨q1, q2⟩ := eq_ok hT h c;exact ⟨q1, fun g => q_val hw rfl hN (yv_ok hT hv (fun p hp => by cases hp)) (q2 g)⟩
      · rename_i p hN hv
        obtain ⟨⟨q0, q1⟩, q2⟩ := eq_ok hT h c;exact ⟨q0, fun g => q_val hw rfl hN (yv_ok hT hv (fun p' hp => by cases hp; exact q1)) (q2 g)⟩
      · cases h
    · cases h
end
def takeAt {α : Type} : Nat → List α → Option (α × List α)
  | 0, a :: l => some (a, l)
  | n + 1, a :: l => match takeAt n l with
    | some (b, l) => some (b, a :: l)
    | none => none
  | _, [] => none
theorem takeAt_perm {α : Type} : ∀ {n : Nat} {l m : List α} {a : α}, takeAt n l = some (a, m) → l.Perm (a :: m)
  | 0, _ :: _, _, _, h => by cases h; exact .refl _
  | n + 1, b :: l, m, a, h => by
    unfold takeAt at h
    split at h
    · rename_i h1; cases h; exact (List.Perm.cons _ (takeAt_perm h1)).trans (.swap _ _ _)
    · cases h
  | 0, [], _, _, h => by cases h
  | _ + 1, [], _, _, h => by cases h
def pickE {α : Type} : List Nat → List α → Option (List α × List α)
  | [], l => some ([], l)
  | i :: is, l => match takeAt i l with
    | some (a, l) => (match pickE is l with
      | some (p, l) => some (a :: p, l)
      | none => none)
    | none => none
theorem pickE_perm {α : Type} : ∀ {is : List Nat} {l p m : List α}, pickE is l = some (p, m) → l.Perm (p ++ m)
  | [], _, _, _, h => by cases h; exact .refl _
  | i :: is, l, p, m, h => by
    unfold pickE at h
    split at h
    · rename_i h1
      split at h
      · rename_i h2; cases h; exact (takeAt_perm h1).trans (.cons _ (pickE_perm h2))
      · cases h
    · cases h
section
variable {P : Program} {N : Nat} {R R' : Regs} {S : World → Prop} {W0 w : World} {F : List Nat} {L L0 Lr L' : List Ent} {Q : Exit → Act → World → Prop} {X : Act → World → Prop} {ops : Array Oper} {rest : List Oper}
theorem St.part (h : St W0 F (L0 ++ Lr) w) : St w (L0.flatMap Ent.fp) L0 w := St.start L0 (fun e he => h.ok e (List.mem_append_left _ he)) (List.pairwise_append.1 h.apart).1
theorem St.pick (h : St W0 F L w) (is : List Nat) (hp : pickE is L = some (L0, Lr)) : St W0 F L0 w := (h.perm (pickE_perm hp)).sub (List.sublist_append_left _ _)
theorem zs0 {α : Type _} {a b : α} {l : List α} : (a :: l).set 0 b = b :: l := rfl
theorem zs1 {α : Type _} {a b : α} {l : List α} {n : Nat} : (a :: l).set (n + 1) b = a :: l.set n b := rfl
theorem zc0 {α : Type _} {a : α} {s t : List α} : a :: s ++ t = a :: (s ++ t) := rfl
theorem zc1 {α : Type _} (t : List α) : [] ++ t = t := rfl
theorem zpk {W : World} {F : List Nat} {L L' Lr : List Ent} (is : List Nat) (hp : pickE is L = some (L', Lr)) : ∀ w, St W F L w → St W F L' w := fun _ h => h.pick is hp
theorem g_ahead (is : List Nat) (hp : pickE is L = some (L0, Lr)) (h : G N R (St W0 F (L0 ++ Lr)) X) : G N R (St W0 F L) X := h.weaken fun _ hS => hS.perm (pickE_perm hp)
theorem g_nrm (hp : nrm L = some L') (h : G N R (St W0 F L') X) : G N R (St W0 F L) X := by
  rw [nrm_eq] at hp; cases hp; exact h
def Meets (P : Program) (I : World → Prop) (f : FuncId) (vs : List Value) {α : Type} (r : α → Value) (L0 : List Ent) (L1 : α → List Ent) : Prop :=
  (∀ args w, (callFunc f args).run P w = .ok (.enter f args) w) ∧ ∀ w F, I w → St w F L0 w → Calls P f vs.toArray w fun e w' => ∃ x, e = .returned (r x) ∧ St w F (L1 x) w'
theorem g_cm {I : World → Prop} {ty : TypeId} {pos : String} {af : Array Edge} {gd : Option (Nat × Bool)} {α : Type} {d : Nat} {f : FuncId} {xs : List Operand} {ats : Array TypeId} {vs : List Value} {r : α → Value} {L1 : α → List Ent} (is : List Nat) (m : Meets P I f vs r L0 L1) (hI : ∀ w, St W0 F L w → I w)
    (hw : want ops R ⟨some d, .call { callee := .value (.func f), args := xs.toArray, argTypes := ats }, ty, pos, af, gd⟩ = some true) (hN : Nat.blt d N = true)
    (hx : xs.mapM (ev R) = some vs) (hp : pickE is L = some (L0, Lr)) (h : ∀ x, G N ((d, r x) :: R) (St W0 F (L1 x ++ Lr)) (wpList P ops Q rest)) :
    G N R (St W0 F L) (wpList P ops Q (⟨some d, .call { callee := .value (.func f), args := xs.toArray, argTypes := ats }, ty, pos, af, gd⟩ :: rest)) :=
  g_call r (fun x => St W0 F (L1 x ++ Lr)) hw hN hx m.1 (fun w hS => by
    have hS' := hS.perm (pickE_perm hp);exact (m.2 w _ (hI w hS) hS'.part).mono fun _ _ ⟨x, he, hb⟩ => ⟨x, he, St.join hS' (fun k hk => by obtain ⟨e, he, hk⟩ := List.mem_flatMap.1 hk; exact ⟨e, he, hk⟩) hb⟩) h
theorem g_c1 {I : World → Prop} {ty : TypeId} {pos : String} {af : Array Edge} {gd : Option (Nat × Bool)} {d : Nat} {f : FuncId} {xs : List Operand} {ats : Array TypeId} {vs : List Value} {v : Value} (m : Meets P I f vs (fun _ : Unit => v) [] (fun _ => [])) (hI : ∀ w, St W0 F L w → I w)
    (hw : want ops R ⟨some d, .call { callee := .value (.func f), args := xs.toArray, argTypes := ats }, ty, pos, af, gd⟩ = some true) (hN : Nat.blt d N = true)
    (hx : xs.mapM (ev R) = some vs) (h : G N ((d, v) :: R) (St W0 F L) (wpList P ops Q rest)) :
    G N R (St W0 F L) (wpList P ops Q (⟨some d, .call { callee := .value (.func f), args := xs.toArray, argTypes := ats }, ty, pos, af, gd⟩ :: rest)) :=
  g_cm [] m hI hw hN hx rfl fun _ => h
theorem q_c1 {Qq : Act → Prop} {I : World → Prop} {ty : TypeId} {pos : String} {af : Array Edge} {gd : Option (Nat × Bool)} {d : Nat} {f : FuncId} {xs : List Operand} {ats : Array TypeId} {vs : List Value} {v : Value} (m : Meets P I f vs (fun _ : Unit => v) [] (fun _ => [])) (hI : ∀ w, St W0 F L w → I w)
    (hw : want ops R ⟨some d, .call { callee := .value (.func f), args := xs.toArray, argTypes := ats }, ty, pos, af, gd⟩ = some true) (hN : Nat.blt d N = true)
    (hx : xs.mapM (ev R) = some vs) (h : GQ N ((d, v) :: R) (wpQuiet P ops (St W0 F L) Qq rest)) :
    GQ N R (wpQuiet P ops (St W0 F L) Qq (⟨some d, .call { callee := .value (.func f), args := xs.toArray, argTypes := ats }, ty, pos, af, gd⟩ :: rest)) :=
  q_call1 hw hN hx m.1 (fun w hS => (m.2 w [] (hI w hS) (St.refl w)).mono fun _ _ ⟨_, he, hb⟩ => ⟨he, hb.below⟩) h
theorem meets1 {I : World → Prop} {f : FuncId} {vs : List Value} {v : Value} (hf : ∀ args w, (callFunc f args).run P w = .ok (.enter f args) w) (h : ∀ w, I w → Calls P f vs.toArray w fun e w' => e = .returned v ∧ Below w.heap.size w w') : Meets P I f vs (fun _ : Unit => v) [] (fun _ => []) :=
  ⟨hf, fun w F hI hS => (h w hI).mono fun _ _ ⟨he, hb⟩ => ⟨(), he, by simpa using hS.then (St.of_below hb)⟩⟩
theorem any_I {S : World → Prop} : ∀ w, S w → True := fun _ _ => trivial
theorem g_lit (d : Nat) {b : Bool} (c : Bool) (hd : R.lookup d = some (.bool b)) (hc : b = c) (h : G N ((d, .bool c) :: R) S X) : G N R S X := fun a w hR hS => h a w (hR.sub (lookup_over R (hc ▸ hd))) hS
theorem g_cutc {c : Code} {α : Type} (R1 : α → Regs) (L1 : α → List Ent) (h1 : ∀ x, G N (R1 x) (St W0 F (L1 x)) (Q .normal)) (h2 : (∀ x, G N (R1 x) (St W0 F (L1 x)) (Q .normal)) → G N R (St W0 F L) (c.wp P Q)) : G N R (St W0 F L) (c.wp P Q) := h2 h1
theorem n_ (h : G N R S (Q .normal)) : G N R S (wpList P ops Q []) := h
theorem t_ {K : Act → World → Prop} (h : G N R S K) : G N R S (Exit.then K Q .normal) := h
theorem s_ {x y : Code} (h : G N R S (x.wp P (Exit.then (y.wp P Q) Q))) : G N R S ((Code.seq x y).wp P Q) := g_seq h
theorem o_ {id : Nat} {l : List Oper} (h : G N R S (wpList P l.toArray Q l)) : G N R S ((Code.region id l.toArray false).wp P Q) := g_ops h
theorem nto_ {id : Nat} {l : List Oper} (h : G N R S (wpList P l.toArray Q l)) : G N R S (wpList P ops (Exit.then ((Code.region id l.toArray false).wp P Q) Q) []) := g_ops h
theorem ntso_ {id : Nat} {l : List Oper} {y : Code} (h : G N R S (wpList P l.toArray (Exit.then (y.wp P Q) Q) l)) : G N R S (wpList P ops (Exit.then ((Code.seq (.region id l.toArray false) y).wp P Q) Q) []) := g_seq (g_ops h)
end
end Go.Proofs.YtjdmdpjbijkjaaaGreat


namespace Go.Proofs.YtjdmdpjbijkjaaaGreat
open Go Go.RowKit
section
variable {P : Program} {N : Nat} {R : Regs} {S : World → Prop} {Q : Exit → Act → World → Prop} {X : Act → World → Prop} {W0 : World} {F : List Nat} {L : List Ent} {e : TypeId}
variable {ops : Array Oper} {rest : List Oper} {dst : Option Tmp} {t t' ty : TypeId} {pos : String} {af : Array Edge} {gd : Option (Nat × Bool)} {x y : Operand}
theorem strC (s : List UInt8) : Lib.strCells ⟨s.toArray⟩ = bcells s := by simp [Lib.strCells, bcells]
theorem run_appStr {w : World} {t u ty e : TypeId} {i : TypeInfo} (ht : P.underlying t = some (.slice e)) (hu : P.underlying u = some .string) (hi : P.info? e = some i) (hz : i.zero = some (.int .u8 0)) (hs : i.size = 1) (hb : i.bytes = 1)
    {v : Value} {l : List UInt8} (hown : w.ownsRow 0 e 1 v l.length (bcells l)) (s : List UInt8) (hl : l.length + s.length ≤ 140737488355328) :
    ∃ v' w', (Builtin.append_ #[t, u] ty #[v, .string ⟨s.toArray⟩]).run P w = .ok v' w' ∧ w'.ownsRow 0 e 1 v' (l ++ s).length (bcells (l ++ s)) ∧ w.grownBy w' v.ownBlock ∧ ∀ k, v'.ownBlock = some k → v.ownBlock = some k ∨ w.heap.size ≤ k := by
  have hsz : (⟨s.toArray⟩ : ByteArray).size = s.length := by simp [ByteArray.size]
  have h63 : l.length + (⟨s.toArray⟩ : ByteArray).size ≤ maxLen := by rw [hsz]; unfold maxLen; omega
  have h47 : l.length + (⟨s.toArray⟩ : ByteArray).size ≤ 140737488355328 := by rw [hsz]; exact hl
  have conv : ∀ {v' : Value} {w' : World} {base : Nat}, w'.ownsRow base e 1 v' (l.length + (⟨s.toArray⟩ : ByteArray).size) (bcells l ++ Lib.strCells ⟨s.toArray⟩) → w'.ownsRow 0 e 1 v' (l ++ s).length (bcells (l ++ s)) := fun h => by
    rw [hsz, strC, ← bcells_append, ← List.length_append] at h;exact ⟨h.1, h.2.imp id fun ⟨g, cap, cur, a, _, c⟩ => ⟨g, cap, cur, a, Nat.zero_le _, c⟩⟩
  rcases hown.2 with ⟨rfl, hn⟩ | ⟨g, cap, cur, rfl, _, hg, hnc, hcm, hcs, htake⟩
  · obtain ⟨v', w', h1, h2, h3, _⟩ := Lib.run_append_own_string (P := P) w w.heap.size t u ty e i ht hu hi hz hs hb _ _ _ ⟨hown.1, .inl ⟨rfl, hn⟩⟩ ⟨s.toArray⟩ h63 h47 (Nat.le_refl _);refine ⟨v', w', h1, conv h2, h3, fun k hk => .inr ?_⟩;rcases h2.2 with ⟨rfl, _⟩ | ⟨g, _, _, rfl, hle, _⟩
    · cases hk
    · simp only [Value.ownBlock, Option.some.injEq] at hk; omega
  · obtain ⟨v', w', h1, h2, h3, _⟩ := Lib.run_append_own_string (P := P) w 0 t u ty e i ht hu hi hz hs hb _ _ _ hown ⟨s.toArray⟩ h63 h47 (Nat.zero_le _);refine ⟨v', w', h1, conv h2, h3, fun k hk => ?_⟩;by_cases hroom : l.length + (⟨s.toArray⟩ : ByteArray).size ≤ cap
    · have hr := Lib.run_append_room_string (P := P) w t u ty e i ht hu hi hs g l.length cap cur hg ⟨s.toArray⟩ hroom (by omega);rw [h1] at hr;injection hr with hv _
      subst hv;exact .inl hk
    · have holds : ∀ j u, (bcells l)[j]? = some u → w.cell? ((⟨g, 0, none⟩ : Addr).add j) = some u := hown.cells (g := g) rfl;have hr := Lib.run_append_grow_string (P := P) w t u ty e i (.int .u8 0) ht hu hi hz ⟨g, 0, none⟩ l.length cap (bcells l) (by rw [hs, bcells_length, Nat.mul_one]) holds ⟨s.toArray⟩ (by omega) (by omega) (by rw [hb]; exact growslice_fits (by omega) (by omega));rw [h1] at hr;injection hr with hv _
      subst hv;simp only [Value.ownBlock, Option.some.injEq] at hk;exact .inr (by omega)
theorem g_appStr {d : Nat} {tt tu : TypeId} {v : Value} {l s : List UInt8} {inf : TypeInfo} (i : Nat)
    (hw : want ops R ⟨some d, .call { callee := .builtin .append, args := #[x, y], argTypes := #[tt, tu] }, ty, pos, af, gd⟩ = some true) (hN : Nat.blt d N = true)
    (hx : ev R x = some v) (hy : ev R y = some (.string ⟨s.toArray⟩)) (ht : P.underlying tt = some (.slice e)) (hu : P.underlying tu = some .string) (he : P.info? e = some inf) (hz : inf.zero = some (.int .u8 0)) (hs : inf.size = 1) (hb : inf.bytes = 1)
    (hi : L[i]? = some (.bytes e v l)) (hl : l.length + s.length ≤ 140737488355328)
    (h : ∀ v', G N ((d, v') :: R) (St W0 F (L.set i (.bytes e v' (l ++ s)))) (wpList P ops Q rest)) :
    G N R (St W0 F L) (wpList P ops Q (⟨some d, .call { callee := .builtin .append, args := #[x, y], argTypes := #[tt, tu] }, ty, pos, af, gd⟩ :: rest)) :=
  g_one hw fun _ a w hR hS hK => by
    have hown : w.ownsRow 0 e 1 v l.length (bcells l) := hS.get hi;obtain ⟨v', w', hr, ho, hg, hbl⟩ := run_appStr (P := P) (ty := ty) ht hu he hz hs hb hown s hl;refine Oper.wp_ok (w' := w') (v := v') ?_ (hK _ _ (h v' _ _ (hR.put hN) ?_))
    · simp [execOp, resolve, invoke, builtin, hR.eval hx, hR.eval hy, hr]
    · refine hS.write hi hg.os hg.tape hg.output hg.size (fun k hk hkf => hg.block k hk (fun q => hkf ?_)) ho (fun k hk => ?_)
      · show k ∈ v.ownBlock.toList
        rw [← q]; simp
      · have hk' : v'.ownBlock = some k := by
          have : k ∈ v'.ownBlock.toList := hk;simpa using this
        rcases hbl k hk' with h2 | h2
        · left
          show k ∈ v.ownBlock.toList
          rw [h2]; simp
        · exact .inr h2
end
end Go.Proofs.YtjdmdpjbijkjaaaGreat

namespace Go.Proofs.YtjdmdpjbijkjaaaGreat
open Go Go.RowKit
section
variable {P : Program} {N : Nat} {R : Regs} {S : World → Prop} {Q : Exit → Act → World → Prop} {ops : Array Oper} {rest : List Oper} {W0 : World} {F : List Nat} {L : List Ent} {X : Act → World → Prop}
variable {dst : Option Tmp} {ty t t' : TypeId} {pos : String} {af : Array Edge} {gd : Option (Nat × Bool)} {x y : Operand} {o : Oper}
theorem row_cell {w : World} {e : TypeId} {size g n m c k : Nat} {xs : List Value} {u : Value} (h : w.ownsRow 0 e size (.slice (some ⟨g, 0, none⟩) m c) n xs) (hv : xs[k]? = some u) : w.cell? ⟨g, k, none⟩ = some u := by
  obtain ⟨hl, h | ⟨g', cap, cur, h1, _, h3, _, _, h5, h6⟩⟩ := h
  · cases h.1
  · have hg : g = g' := by cases h1; rfl
    subst hg;rw [cell_of_row w g k cur e (0, 0) h3];have hk : k < xs.length := (List.getElem?_eq_some_iff.1 hv).1;rw [← h6, List.getElem?_take, if_pos (by omega)] at hv;simpa using hv
theorem g_rowCase {e : TypeId} {size n : Nat} {v : Value} {xs : List Value} (i : Nat) (hi : L[i]? = some (.row e size v n xs)) (hn : 0 < n) (h : ∀ g c, v = .slice (some ⟨g, 0, none⟩) n c → G N R (St W0 F L) X) : G N R (St W0 F L) X := fun a w hR hS => by
  have ho : w.ownsRow 0 e size v n xs := hS.get hi;obtain ⟨_, h2 | ⟨g, cap, cur, h1, _⟩⟩ := ho
  · omega
  · exact h g cap h1 a w hR hS
theorem g_rowLen {e : TypeId} {size n : Nat} {v : Value} {xs : List Value} (i : Nat) (hi : L[i]? = some (.row e size v n xs)) (h : ∀ p c, v = .slice p n c → G N R (St W0 F L) X) : G N R (St W0 F L) X := fun a w hR hS => by
  have ho : w.ownsRow 0 e size v n xs := hS.get hi;obtain ⟨_, ⟨h1, h2⟩ | ⟨g, cap, cur, h1, _⟩⟩ := ho
  · subst h2; exact h none 0 h1 a w hR hS
  · exact h _ cap h1 a w hR hS
theorem y_ldR {e : TypeId} {size g n m c off : Nat} {xs : List Value} {u : Value} (i : Nat) (hx : ev R x = some (.pointer (some ⟨g, off, none⟩))) (ha : ∀ w, (isAgg t).run P w = .ok false w) (hi : L[i]? = some (.row e size (.slice (some ⟨g, 0, none⟩) m c) n xs)) (hv : xs[off]? = some u) :
    Yv P N R (St W0 F L) ⟨dst, .load t x, ty, pos, af, gd⟩ u := y_load1 hx ha fun _ hS => row_cell (hS.get hi) hv
theorem y_ldRN {e : TypeId} {size g n m c off k : Nat} {xs vs : List Value} (i : Nat) (hx : ev R x = some (.pointer (some ⟨g, off, none⟩))) (ha : ∀ w, (isAgg t).run P w = .ok true w) (hz : ∀ w, (sizeOf t).run P w = .ok k w) (hi : L[i]? = some (.row e size (.slice (some ⟨g, 0, none⟩) m c) n xs)) (hv : (xs.drop off).take k = vs) (hn : vs.length = k) :
    Yv P N R (St W0 F L) ⟨dst, .load t x, ty, pos, af, gd⟩ (.agg vs.toArray) := fun a w hR hS => by
  have ho : w.ownsRow 0 e size (.slice (some ⟨g, 0, none⟩) m c) n xs := hS.get hi
  have hl : (loadCells ⟨g, off, none⟩ vs.length).run P w = .ok vs.toArray w :=
    run_loadCells_list (P := P) w ⟨g, off, none⟩ vs (fun j v hj => by
      rw [Addr.add_mid];refine row_cell ho ?_;have hlt : j < vs.length := (List.getElem?_eq_some_iff.1 hj).1;rw [← hv] at hj;rw [List.getElem?_take, if_pos (by omega), List.getElem?_drop] at hj;exact hj)
  rw [hn] at hl;simp [execOp, hR.eval hx, Instr.loadAt, Instr.sureAddr, loadVar, Sem.run_bind, ha, hz, hl]
theorem g_stR {e : TypeId} {size g n m c off : Nat} {xs : List Value} {v : Value} (i : Nat) (hw : want ops R ⟨none, .store t x y, ty, pos, af, gd⟩ = some true) (hx : ev R x = some (.pointer (some ⟨g, off, none⟩))) (hy : ev R y = some v) (hz : ∀ w, (sizeOf t).run P w = .ok 1 w) (h1 : v.oneCell' = true)
    (hi : L[i]? = some (.row e size (.slice (some ⟨g, 0, none⟩) m c) n xs)) (hl : off < xs.length) (h : G N R (St W0 F (L.set i (.row e size (.slice (some ⟨g, 0, none⟩) m c) n (xs.set off v)))) (wpList P ops Q rest)) : G N R (St W0 F L) (wpList P ops Q (⟨none, .store t x y, ty, pos, af, gd⟩ :: rest)) :=
  g_one hw fun K a w hR hS hK => by
    have ho : w.ownsRow 0 e size (.slice (some ⟨g, 0, none⟩) m c) n xs := hS.get hi;have hc : v.cells = #[v] := by cases v <;> simp_all [Value.cells, Value.oneCell']
    have hcell : ∃ u, w.cell? ⟨g, off, none⟩ = some u := ⟨xs[off], row_cell ho (List.getElem?_eq_getElem hl)⟩;obtain ⟨hlen, h2 | ⟨g', cap, cur, q1, q2, q3, q4, q5, q6, q7⟩⟩ := ho
    · cases h2.1
    · have hg : g = g' := by cases q1; rfl
      subst hg;refine Oper.wp_skip (w' := w.setCell ⟨g, off, none⟩ v) ?_ (hK _ _ (h _ _ hR (hS.write hi rfl rfl rfl (by simp [World.setCell]) (fun k _ hk => Below.heap_setCell _ _ _ _ (by simpa [Ent.fp, Value.ownBlock] using hk)) ?_ (fun k hk => .inl hk))))
      · obtain ⟨u, hu⟩ := hcell;have hfz : w.frozen? ⟨g, off, none⟩ = false := by simp [World.frozen?, q3]
        have e0 : (⟨g, off, none⟩ : Addr).add 0 = ⟨g, off, none⟩ := by simp [Addr.add]
        simp [execOp, hR.eval hx, hR.eval hy, Sem.run_bind, Instr.storeAt, Instr.sureAddr, storeVar, hz, hc, storeCells, e0, run_store P w _ v .plain h1, hu, hfz]
      · show (w.setCell ⟨g, off, none⟩ v).ownsRow 0 e size _ n (xs.set off v)
        refine ⟨by simpa using hlen, .inr ⟨g, cap, cur.setIfInBounds off v, q1, q2, heap_setCell_same w g off cur e v q3, q4, q5, by simpa using q6, ?_⟩⟩;rw [Array.toList_setIfInBounds, List.take_set, q7]
end
end Go.Proofs.YtjdmdpjbijkjaaaGreat

namespace Go.Proofs.YtjdmdpjbijkjaaaGreat
open Go Go.RowKit
section
variable {P : Program} {N : Nat} {R : Regs} {Q : Exit → Act → World → Prop} {ops : Array Oper} {W0 : World} {F : List Nat} {L : List Ent} {o : Oper} {fuel : Nat} {listed : Array Bool} {Sx : World → Prop}
def Qn (T : Act → World → Prop) (Q : Exit → Act → World → Prop) : Exit → Act → World → Prop
  | .normal => T
  | e => Q e
theorem wp_qn {T K : Act → World → Prop} {a : Act} {w : World} (h : o.wp P a w K (Qn T Q)) : o.wp P a w K Q := by
  unfold Oper.wp at *
  generalize (execOp a.eval o).run P w = r at *
  cases r with
  | ok n w' => cases n <;> exact h
  | halt h' w' => cases h' <;> exact h
end
end Go.Proofs.YtjdmdpjbijkjaaaGreat

namespace Go.Proofs.YtjdmdpjbijkjaaaGreat
open Go Go.RowKit
section
variable {P : Program} {N : Nat} {R : Regs} {Q : Exit → Act → World → Prop} {ops : Array Oper} {rest : List Oper} {W0 : World} {F : List Nat} {L : List Ent} {X : Act → World → Prop} {S : World → Prop}
variable {dst : Option Tmp} {ty t t' : TypeId} {pos : String} {af : Array Edge} {gd : Option (Nat × Bool)} {x y : Operand} {k : IntKind}
theorem g_turn {e e' : Ent} (i : Nat) (hi : L[i]? = some e) (hh : ∀ w, e.holds w → e'.holds w) (hfp : ∀ k, k ∈ e'.fp → k ∈ e.fp) (h : G N R (St W0 F (L.set i e')) X) : G N R (St W0 F L) X := fun a w hR hS =>
  h a w hR (hS.write hi rfl rfl rfl (Nat.le_refl _) (fun _ _ _ => rfl) (hh w (hS.get hi)) (fun k hk => .inl (hfp k hk)))
theorem g_callOwn {α : Type} {d : Nat} {f : FuncId} {xs : List Operand} {ats : Array TypeId} {vs : List Value} {L0 Lr : List Ent} (r : α → Value) (L1 : α → List Ent)
    (hw : want ops R ⟨some d, .call { callee := .value (.func f), args := xs.toArray, argTypes := ats }, ty, pos, af, gd⟩ = some true) (hN : Nat.blt d N = true)
    (hx : xs.mapM (ev R) = some vs) (hf : ∀ args w, (callFunc f args).run P w = .ok (.enter f args) w)
    (hc : ∀ w, St W0 F (L0 ++ Lr) w → Calls P f vs.toArray w (fun e w' => ∃ x, e = .returned (r x) ∧ St w (L0.flatMap Ent.fp) (L1 x) w'))
    (h : ∀ x, G N ((d, r x) :: R) (St W0 F (L1 x ++ Lr)) (wpList P ops Q rest)) : G N R (St W0 F (L0 ++ Lr)) (wpList P ops Q (⟨some d, .call { callee := .value (.func f), args := xs.toArray, argTypes := ats }, ty, pos, af, gd⟩ :: rest)) :=
  g_call r (fun x => St W0 F (L1 x ++ Lr)) hw hN hx hf (fun w hS => (hc w hS).mono fun _ _ ⟨x, he, hb⟩ => ⟨x, he, St.join hS (fun k hk => by obtain ⟨e, he, hk⟩ := List.mem_flatMap.1 hk; exact ⟨e, he, hk⟩) hb⟩) h
theorem g_rowCap {e : TypeId} {size n c : Nat} {p : Option Addr} {xs : List Value} (i : Nat) (hi : L[i]? = some (.row e size (.slice p n c) n xs)) (h : n ≤ c → G N R (St W0 F L) X) : G N R (St W0 F L) X := fun a w hR hS => by
  have ho : w.ownsRow 0 e size (.slice p n c) n xs := hS.get hi;obtain ⟨_, ⟨h1, h2⟩ | ⟨g, cap, cur, h1, _, _, h4, _⟩⟩ := ho
  · exact h (by omega) a w hR hS
  · cases h1; exact h h4 a w hR hS
theorem g_scope_fall {α : Type} {c tail : Code} (Rl : α → Regs) (Sl : α → World → Prop) (lab m : α → Nat) (hf : ∀ x, findLabel c (lab x) = some (.seq .skip tail))
    (pass : ∀ x, G N (Rl x) (Sl x) (tail.wp P (Exit.jumps (At N Rl Sl lab m) (some (m x)) Q)))
    (first : (∀ x, G N (Rl x) (Sl x) (tail.wp P (Exit.jumps (At N Rl Sl lab m) none Q))) → G N R S (c.wp P (Exit.jumps (At N Rl Sl lab m) none Q))) : G N R S ((Code.scope c).wp P Q) := by
  refine g_scope Rl Sl lab m (first fun x a w hR hS => wp_mono (pass x a w hR hS) ?_) fun x => ⟨_, hf x, g_seq (g_skip (g_then (pass x)))⟩;intro e a' w' h;cases e with
  | goto l => obtain ⟨k, _, hJ⟩ := h; exact ⟨k, (fun _ h => by cases h), hJ⟩
  | _ => exact h
theorem g_fall {R' : Regs} {S' : World → Prop} (h : G N R' S' X) (ks : List Nat) (hR : R.only ks = R') (hS : ∀ w, S w → S' w) : G N R S X := (h.weaken hS).keep ks hR
end
end Go.Proofs.YtjdmdpjbijkjaaaGreat

namespace Go.Proofs.YtjdmdpjbijkjaaaGreat
open Go Go.RowKit
section
variable {P : Program} {N : Nat} {R : Regs} {S : World → Prop} {Q : Exit → Act → World → Prop} {ops : Array Oper} {W0 : World} {F : List Nat} {L : List Ent} {o : Oper} {fuel : Nat} {listed : Array Bool}
end
end Go.Proofs.YtjdmdpjbijkjaaaGreat

namespace Go.Proofs.YtjdmdpjbijkjaaaGreat
open Go Go.RowKit
section
variable {P : Program} {N : Nat} {R : Regs} {S : World → Prop} {Q : Exit → Act → World → Prop} {ops : Array Oper} {W0 : World} {F : List Nat} {L : List Ent} {o : Oper} {fuel : Nat} {listed : Array Bool} {Sx : World → Prop}
def AllL (f : Nat → Prop) : List Nat → Prop
  | [] => True
  | k :: ks => f k ∧ AllL f ks
theorem AllL.get {f : Nat → Prop} : ∀ {l : List Nat}, AllL f l → ∀ i, i ∈ l → f i
  | [], _, i, hi => by cases hi
  | k :: ks, h, i, hi => by
    rcases List.mem_cons.1 hi with rfl | hi
    · exact h.1
    · exact AllL.get h.2 i hi
theorem w_op (k : Nat) {T : Act → World → Prop} (hk : ops[k]? = some o) (h : G N R S (wpList P ops (Qn T Q) [o])) : G N R S (wpOp P ops Q k T) := fun a w hR hS => by
  have := h a w hR hS;simp only [wpList] at this;unfold wpOp
  rw [hk];dsimp only;split at this
  · rename_i hwt
    rw [if_pos hwt];rcases this with q | q
    · exact .inl (wp_qn q)
    · exact .inr q
  · rename_i hwt
    rw [if_neg hwt];exact this
theorem g_join {id : Nat} {l : List Oper} {α : Type} (R1 : α → Regs) (L1 : α → List Ent) (h1 : ∀ x, G N (R1 x) (St W0 F (L1 x)) (Q .normal))
    (h2 : (∀ x, G N (R1 x) (St W0 F (L1 x)) (Q .normal)) → G N R (St W0 F L) ((Code.region id l.toArray true).wp P Q)) : G N R (St W0 F L) ((Code.region id l.toArray true).wp P Q) := h2 h1
theorem g_scope_falls {α : Type} {S : World → Prop} {Q : Exit → Act → World → Prop} {c : Code} (Rl : α → Regs) (Sl : α → World → Prop) (lab m : α → Nat)
    (pass : ∀ x, ∃ tail, findLabel c (lab x) = some (.seq .skip tail) ∧ G N (Rl x) (Sl x) (tail.wp P (Exit.jumps (At N Rl Sl lab m) (some (m x)) Q)))
    (first : (∀ x tail, findLabel c (lab x) = some (.seq .skip tail) → G N (Rl x) (Sl x) (tail.wp P (Exit.jumps (At N Rl Sl lab m) none Q))) → G N R S (c.wp P (Exit.jumps (At N Rl Sl lab m) none Q))) : G N R S ((Code.scope c).wp P Q) := by
  refine g_scope Rl Sl lab m (first fun x tail ht a w hR hS => ?_) fun x => ?_
  · obtain ⟨tail', ht', hp⟩ := pass x;have he := Option.some.inj (ht'.symm.trans ht);injection he with _ he
    subst he;refine wp_mono (hp a w hR hS) ?_;intro e a' w' h;cases e with
    | goto l => obtain ⟨k, _, hJ⟩ := h; exact ⟨k, (fun _ h => by cases h), hJ⟩
    | _ => exact h
  · obtain ⟨tail, ht, hp⟩ := pass x;exact ⟨_, ht, g_seq (g_skip (g_then hp))⟩
end
end Go.Proofs.YtjdmdpjbijkjaaaGreat

namespace Go.Proofs.YtjdmdpjbijkjaaaGreat
open Go Go.RowKit
section
variable {P : Program} {ops : Array Oper} {Q : Exit → Act → World → Prop} {J : World → Prop}
def Clo (A : Act → World → Prop) : Prop := ∀ a w w', A a w → Below w.heap.size w w' → A a w'
def GA (P : Program) (ops : Array Oper) (Q : Exit → Act → World → Prop) (J : World → Prop) : Nat → Array Bool → (Act → World → Prop) → Prop
  | 0, listed, A => ∀ a w, A a w → Region.ready .any ops listed = [] ∧ Q .normal a w
  | n + 1, listed, A => (Region.ready .any ops listed = [] → ∀ a w, A a w → Q .normal a w) ∧
    ∀ i ∈ Region.ready .any ops listed, ∃ B : Act → World → Prop, Clo B ∧ (∀ a w, B a w → J w) ∧ (∀ a w, A a w → wpOp P ops Q i B a w) ∧ GA P ops Q J n (listed.setIfInBounds i true) B
theorem GA.mono {A A' : Act → World → Prop} (hA : ∀ a w, A' a w → A a w) : ∀ {n : Nat} {listed : Array Bool}, GA P ops Q J n listed A → GA P ops Q J n listed A'
  | 0, _, h => fun a w ha => h a w (hA a w ha)
  | _ + 1, _, h => ⟨fun hr a w ha => h.1 hr a w (hA a w ha), fun i hi => by
      obtain ⟨B, h1, h2, h3, h4⟩ := h.2 i hi;exact ⟨B, h1, h2, fun a w ha => h3 a w (hA a w ha), h4⟩⟩
theorem GA.sound : ∀ {n : Nat} {listed : Array Bool} {A : Act → World → Prop}, GA P ops Q J n listed A → ∀ a w, A a w → wpAny P .any ops Q n listed a w
  | 0, _, _, h, a, w, ha => h a w ha
  | _ + 1, _, _, h, a, w, ha => ⟨fun hr => h.1 hr a w ha, fun i hi => by
      obtain ⟨B, _, _, h3, h4⟩ := h.2 i hi;exact wpOp_mono (fun a w hb => h4.sound a w hb) (h3 a w ha)⟩
def Sees (ops : Array Oper) (Y : Bool → Sem Next → Prop) (o : Oper) (a : Act) : Prop := Y (Region.wanted o (yielded ops a.tmps)) (execOp a.eval o)
theorem Sees.same {Y : Bool → Sem Next → Prop} {o : Oper} {a a' : Act} (h : Sees ops Y o a) (he : execOp a'.eval o = execOp a.eval o) (hw : Region.wanted o (yielded ops a'.tmps) = Region.wanted o (yielded ops a.tmps)) : Sees ops Y o a' := by
  unfold Sees at *
  rw [he, hw]; exact h
theorem wpOp_ahead {j : Nat} {oi oj : Oper} {v : Value} {Y : Bool → Sem Next → Prop} (hj : ops[j]? = some oj) (hap : oi.apart ops oj = true) (hsi : ∀ cs b, oi.op ≠ .select cs b) (hsj : ∀ cs b, oj.op ≠ .select cs b)
    (hQ : ∀ c a w, Q (.panic c) (a.put oi.dst v) w → Q (.panic c) a w) {K : Act → World → Prop} {a : Act} {w : World} (hy : Sees ops Y oi a) (h : wpOp P ops Q j K (a.put oi.dst v) w) :
    wpOp P ops Q j (fun b w' => Sees ops Y oi b ∧ K (b.put oi.dst v) w') a w := by
  obtain ⟨h1, h2, h3⟩ := Oper.apart_spec hap;have hk : ∀ b u, Sees ops Y oi b → Sees ops Y oi (b.put oj.dst u) := fun b u hb => hb.same (execOp_put oi hsi b oj.dst u h3) (wanted_put oi b oj.dst u h3);have hd : ∀ d, Sees ops Y oi { a with defers := d :: a.defers } := fun d => hy.same rfl rfl
  have he := execOp_put oj hsj a oi.dst v h1;have hw := wanted_put oj a oi.dst v h1;unfold wpOp at *
  rw [hj] at h ⊢;dsimp only at h ⊢;rw [hw] at h;by_cases hwt : Region.wanted oj (yielded ops a.tmps) = true
  · rw [if_pos hwt] at h ⊢;rcases h with h | ⟨hasks, hlets⟩
    · left
      unfold Oper.wp at *
      rw [he] at h;generalize (execOp a.eval oj).run P w = r at *
      match r, h with
      | .ok (.value u) w', h => exact ⟨hk a u hy, by rw [← Act.put_comm a v u h2]; exact h⟩
      | .ok .skip w', h => exact ⟨hk a undef hy, by rw [← Act.put_comm a v undef h2]; exact h⟩
      | .ok (.defer d) w', h => exact ⟨hk _ undef (hd d), by rw [← Act.put_comm _ v undef h2, ← Act.put_defers]; exact h⟩
      | .ok (.enter f args) w', h =>
        refine Calls.mono h fun e w2 hx => ?_;match e, hx with
        | .returned u, hx => exact ⟨hk a u hy, by rw [← Act.put_comm a v u h2]; exact hx⟩
        | .panicked c, hx => exact hQ _ _ _ hx
        | .outgrown, hx => exact hx
      | .ok (.row r args) w', h => exact Rows.mono h fun u w2 hx => ⟨hk a u hy, by rw [← Act.put_comm a v u h2]; exact hx⟩
      | .ok (.spawn _) _, h => exact h
      | .ok (.comm _ _ _) _, h => exact h
      | .halt x _, h => cases x <;> first | exact hQ _ _ _ h | exact h
    · exact .inr ⟨by unfold Oper.asks at *; rw [he] at hasks; exact hasks, hlets⟩
  · rw [if_neg hwt] at h ⊢;exact ⟨hk a undef hy, by rw [← Act.put_comm a v undef h2]; exact h⟩
def Tells (P : Program) (J : World → Prop) (v : Value) (b : Bool) (s : Sem Next) : Prop :=
  (b = false ∧ v = undef) ∨ b = true ∧ ((∀ w, J w → s.run P w = .ok (.value v) w) ∨ ∃ f args, (∀ w, s.run P w = .ok (.enter f args) w) ∧ ∀ w, J w → Calls P f args w fun e w' => e = .returned v ∧ Below w.heap.size w w')
theorem GA.take {i : Nat} {oi : Oper} {v : Value} (hi : ops[i]? = some oi) (hsel : ∀ (j : Nat) (o : Oper) cs b, ops[j]? = some o → o.op ≠ .select cs b) (hQ : ∀ c a w, Q (.panic c) (a.put oi.dst v) w → Q (.panic c) a w) :
    ∀ {n : Nat} {listed : Array Bool} {A : Act → World → Prop}, (∀ j oj, ops[j]? = some oj → j ≠ i → listed.getD j true = false → (∀ e ∈ oj.after, Region.binds .any e = true → e.on ≠ i) → oi.apart ops oj = true) →
      i ∈ Region.ready .any ops listed → Clo A → (∀ a w, A a w → J w ∧ Sees ops (Tells P J v) oi a) →
      GA P ops Q J n (listed.setIfInBounds i true) (fun a w => ∃ a0, a = a0.put oi.dst v ∧ A a0 w) → GA P ops Q J (n + 1) listed A := by
  intro n
  have own : ∀ {listed : Array Bool} {A : Act → World → Prop}, Clo A → (∀ a w, A a w → J w ∧ Sees ops (Tells P J v) oi a) → ∀ a w, A a w → wpOp P ops Q i (fun a w => ∃ a0, a = a0.put oi.dst v ∧ A a0 w) a w := by
    intro listed A hC hA a w ha;obtain ⟨hJ, ht⟩ := hA a w ha;unfold wpOp
    rw [hi];dsimp only;rcases ht with ⟨hw, rfl⟩ | ⟨hw, ht⟩
    · rw [if_neg (by rw [hw]; simp)]; exact ⟨a, rfl, ha⟩
    rw [if_pos hw];left
    unfold Oper.wp
    rcases ht with ht | ⟨f, args, h1, h2⟩
    · rw [ht w hJ]; exact ⟨a, rfl, ha⟩
    · rw [h1 w];exact (h2 w hJ).mono fun e w' ⟨he, hb⟩ => by subst he; exact ⟨a, rfl, hC a w w' ha hb⟩
  have cloP : ∀ {A : Act → World → Prop}, Clo A → Clo (fun a w => ∃ a0, a = a0.put oi.dst v ∧ A a0 w) := fun hC a w w' ⟨a0, h1, h2⟩ hb => ⟨a0, h1, hC a0 w w' h2 hb⟩;induction n with
  | zero =>
    intro listed A hfree hr hC hA H;refine ⟨fun h => (by rw [h] at hr; cases hr), fun j hj => ?_⟩;by_cases hji : j = i
    · subst hji;exact ⟨_, cloP hC, fun a w ⟨a0, _, h⟩ => (hA a0 w h).1, own (listed := listed) hC hA, H⟩
    · refine ⟨fun _ _ => False, fun _ _ _ h => h.elim, fun _ _ h => h.elim, fun a w ha => ?_, fun _ _ h => h.elim⟩;have := ready_mono hj hji;rw [(H _ _ ⟨a, rfl, ha⟩).1] at this; cases this
  | succ n ih =>
    intro listed A hfree hr hC hA H;refine ⟨fun h => (by rw [h] at hr; cases hr), fun j hj => ?_⟩;by_cases hji : j = i
    · subst hji;exact ⟨_, cloP hC, fun a w ⟨a0, _, h⟩ => (hA a0 w h).1, own (listed := listed) hC hA, H⟩
    · obtain ⟨B, hB, hBJ, hAB, hG⟩ := H.2 j (ready_mono hj hji);obtain ⟨hjun, oj, hoj, hall⟩ := mem_ready.1 hj
      have hnot : ∀ e ∈ oj.after, Region.binds .any e = true → e.on ≠ i := fun e he hb heq => by
        have h1 := hall e he hb;have h0 := (mem_ready.1 hr).1;rw [heq] at h1;rcases Nat.lt_or_ge i listed.size with h' | h'
        · simp [h'] at h0 h1; rw [h0] at h1; cases h1
        · simp [Array.getElem?_eq_none h'] at h1
      have hap := hfree j oj hoj hji hjun hnot;refine ⟨fun a w => (J w ∧ Sees ops (Tells P J v) oi a) ∧ B (a.put oi.dst v) w, fun a w w' ⟨⟨_, h2⟩, h3⟩ hb => ⟨⟨hBJ _ _ (hB _ _ _ h3 hb), h2⟩, hB _ _ _ h3 hb⟩, fun a w h => h.1.1, fun a w ha => ?_, ?_⟩
      · have := wpOp_ahead hoj hap (fun cs b => hsel i oi cs b hi) (fun cs b => hsel j oj cs b hoj) hQ (hA a w ha).2 (hAB _ _ ⟨a, rfl, ha⟩);exact wpOp_mono (fun a w h => ⟨⟨hBJ _ _ h.2, h.1⟩, h.2⟩) this
      · refine ih (fun k ok hk hki hun hno => ?_) (ready_mono hr (Ne.symm hji)) (fun a w w' ⟨⟨_, h2⟩, h3⟩ hb => ⟨⟨hBJ _ _ (hB _ _ _ h3 hb), h2⟩, hB _ _ _ h3 hb⟩) (fun a w h => h.1) ?_
        · refine hfree k ok hk hki ?_ hno;by_cases hjk : j = k
          · subst hjk; exact hjun
          · rw [getD_set_ne true hjk] at hun; exact hun
        · rw [Array.setIfInBounds_comm _ _ hji];exact hG.mono fun a w ⟨a0, h1, h2⟩ => by subst h1; exact h2.2
end
section
variable {P : Program} {N : Nat} {R : Regs} {Q : Exit → Act → World → Prop} {ops : Array Oper} {W0 : World} {F : List Nat} {L : List Ent} {o : Oper} {fuel : Nat} {listed : Array Bool} {J : World → Prop}
def GR (N : Nat) (R : Regs) (W0 : World) (F : List Nat) (L : List Ent) : Act → World → Prop := fun a w => Rf N R a ∧ St W0 F L w
theorem GR.clo : Clo (GR N R W0 F L) := fun _ _ _ ⟨h1, h2⟩ hb => ⟨h1, by simpa using h2.then (St.of_below hb)⟩
theorem k_start {id : Nat} {l : List Oper} (J : World → Prop) (hm : P.follows .mixedOrders = true) (h : GA P l.toArray Q J l.length (Array.replicate l.length false) (GR N R W0 F L)) : G N R (St W0 F L) ((Code.region id l.toArray true).wp P Q) :=
  fun a w hR hS => wp_region_any hm (by simpa using h.sound a _ ⟨hR, hS.drew⟩)
theorem GA.ex {α : Type} {A : α → Act → World → Prop} : ∀ {n : Nat} {listed : Array Bool}, (∀ x, GA P ops Q J n listed (A x)) → GA P ops Q J n listed (fun a w => ∃ x, A x a w)
  | 0, _, h => fun a w ⟨x, hx⟩ => h x a w hx
  | n + 1, _, h => ⟨fun hr a w ⟨x, hx⟩ => (h x).1 hr a w hx, fun i hi => by
      have key := fun x => (h x).2 i hi
      exact ⟨fun a w => ∃ x, Classical.choose (key x) a w, fun a w w' ⟨x, hx⟩ hb => ⟨x, (Classical.choose_spec (key x)).1 a w w' hx hb⟩, fun a w ⟨x, hx⟩ => (Classical.choose_spec (key x)).2.1 a w hx,
        fun a w ⟨x, hx⟩ => wpOp_mono (fun a w hb => ⟨x, hb⟩) ((Classical.choose_spec (key x)).2.2.1 a w hx), GA.ex (fun x => (Classical.choose_spec (key x)).2.2.2)⟩⟩
def may (ops : Array Oper) (listed : Array Bool) (k : Nat) : Bool := Region.noSelect ops && (Region.free .any ops listed k && (Region.ready .any ops listed).contains k)
theorem k_taken (k : Nat) {d : Nat} {v : Value} (hk : ops[k]? = some o) (hm : may ops listed k = true) (hQ : ∀ c a w d v, Q (.panic c) (a.put (some d) v) w → Q (.panic c) a w) (hw : want ops R o = some true) (hd : o.dst = some d) (hN : Nat.blt d N = true)
    (hJ : ∀ w, St W0 F L w → J w) (ht : ∀ a, Rf N R a → Tells P J v true (execOp a.eval o)) (h : GA P ops Q J fuel (listed.setIfInBounds k true) (GR N ((d, v) :: R) W0 F L)) : GA P ops Q J (fuel + 1) listed (GR N R W0 F L) := by
  unfold may at hm
  rw [Bool.and_eq_true, Bool.and_eq_true] at hm;refine GA.take (v := v) hk (Region.noSelect_spec hm.1) (fun c a w h => hQ c a w d v (by rw [hd] at h; exact h)) (Region.free_spec hk hm.2.1) (by simpa using hm.2.2) GR.clo (fun a w ha => ⟨hJ w ha.2, by unfold Sees; rw [wanted_of hw ha.1]; exact ht a ha.1⟩) (h.mono fun a w ⟨a0, h1, h2⟩ => ?_);subst h1;rw [hd];exact ⟨h2.1.put hN, h2.2⟩
theorem k_untold (k : Nat) {d : Nat} (hk : ops[k]? = some o) (hm : may ops listed k = true) (hQ : ∀ c a w d v, Q (.panic c) (a.put (some d) v) w → Q (.panic c) a w) (hw : want ops R o = some false) (hd : o.dst = some d) (hN : Nat.blt d N = true)
    (hJ : ∀ w, St W0 F L w → J w) (h : GA P ops Q J fuel (listed.setIfInBounds k true) (GR N ((d, undef) :: R) W0 F L)) : GA P ops Q J (fuel + 1) listed (GR N R W0 F L) := by
  unfold may at hm
  rw [Bool.and_eq_true, Bool.and_eq_true] at hm;refine GA.take (v := undef) hk (Region.noSelect_spec hm.1) (fun c a w h => hQ c a w d undef (by rw [hd] at h; exact h)) (Region.free_spec hk hm.2.1) (by simpa using hm.2.2) GR.clo (fun a w ha => ⟨hJ w ha.2, by unfold Sees; rw [wanted_of hw ha.1]; exact .inl ⟨rfl, rfl⟩⟩) (h.mono fun a w ⟨a0, h1, h2⟩ => ?_);subst h1;rw [hd];exact ⟨h2.1.put hN, h2.2⟩
theorem k_take (k : Nat) {d : Nat} {v : Value} (hk : ops[k]? = some o) (hm : may ops listed k = true) (hQ : ∀ c a w d v, Q (.panic c) (a.put (some d) v) w → Q (.panic c) a w) (hw : want ops R o = some true) (hd : o.dst = some d) (hN : Nat.blt d N = true)
    (hJ : ∀ w, St W0 F L w → J w) (hv : Yv P N R J o v) (h : GA P ops Q J fuel (listed.setIfInBounds k true) (GR N ((d, v) :: R) W0 F L)) : GA P ops Q J (fuel + 1) listed (GR N R W0 F L) :=
  k_taken k hk hm hQ hw hd hN hJ (fun a hR => .inr ⟨rfl, .inl fun w hw => hv a w hR hw⟩) h
theorem k_call {I : World → Prop} {ty : TypeId} {pos : String} {af : Array Edge} {gd : Option (Nat × Bool)} (k : Nat) {d : Nat} {v : Value} {f : FuncId} {xs : List Operand} {ats : Array TypeId} {vs : List Value} (m : Meets P I f vs (fun _ : Unit => v) [] (fun _ => [])) (hI : ∀ w, J w → I w)
    (hk : ops[k]? = some ⟨some d, .call { callee := .value (.func f), args := xs.toArray, argTypes := ats }, ty, pos, af, gd⟩) (hm : may ops listed k = true) (hQ : ∀ c a w d v, Q (.panic c) (a.put (some d) v) w → Q (.panic c) a w)
    (hw : want ops R ⟨some d, .call { callee := .value (.func f), args := xs.toArray, argTypes := ats }, ty, pos, af, gd⟩ = some true) (hN : Nat.blt d N = true) (hx : xs.mapM (ev R) = some vs)
    (hJ : ∀ w, St W0 F L w → J w) (h : GA P ops Q J fuel (listed.setIfInBounds k true) (GR N ((d, v) :: R) W0 F L)) : GA P ops Q J (fuel + 1) listed (GR N R W0 F L) :=
  k_taken k hk hm hQ hw rfl hN hJ (fun a hR => .inr ⟨rfl, .inr ⟨f, vs.toArray, fun w => run_call hR hx m.1, fun w hw => (m.2 w [] (hI w hw) (St.refl w)).mono fun _ _ ⟨_, he, hb⟩ => ⟨he, hb.below⟩⟩⟩) h
def Step (P : Program) (ops : Array Oper) (Q : Exit → Act → World → Prop) (J : World → Prop) (n : Nat) (listed : Array Bool) (A : Act → World → Prop) (i : Nat) : Prop :=
  ∃ B : Act → World → Prop, Clo B ∧ (∀ a w, B a w → J w) ∧ (∀ a w, A a w → wpOp P ops Q i B a w) ∧ GA P ops Q J n (listed.setIfInBounds i true) B
theorem k_all (rs : List Nat) (hr : Region.ready .any ops listed = rs) (hne : rs ≠ []) (h : AllL (Step P ops Q J fuel listed (GR N R W0 F L)) rs) : GA P ops Q J (fuel + 1) listed (GR N R W0 F L) :=
  ⟨fun h0 => absurd (hr.symm.trans h0) hne, fun i hi => AllL.get h i (hr ▸ hi)⟩
theorem k_one (k : Nat) (hr : Region.ready .any ops listed = [k]) (h : Step P ops Q J fuel listed (GR N R W0 F L) k) : GA P ops Q J (fuel + 1) listed (GR N R W0 F L) := k_all [k] hr (by simp) ⟨h, trivial⟩
def KB (P : Program) (ops : Array Oper) (Q : Exit → Act → World → Prop) (J : World → Prop) (n : Nat) (listed : Array Bool) (N : Nat) (W0 : World) (F : List Nat) : Act → World → Prop :=
  fun a w => ∃ R L, GR N R W0 F L a w ∧ (∀ w, St W0 F L w → J w) ∧ GA P ops Q J n listed (GR N R W0 F L)
theorem k_op (k : Nat) (hk : ops[k]? = some o) (h : G N R (St W0 F L) (wpList P ops (Qn (KB P ops Q J fuel (listed.setIfInBounds k true) N W0 F) Q) [o])) : Step P ops Q J fuel listed (GR N R W0 F L) k :=
  ⟨_, fun _ _ _ ⟨R, L, h1, h2⟩ hb => ⟨R, L, GR.clo _ _ _ h1 hb, h2⟩, fun _ _ ⟨_, _, h1, h2, _⟩ => h2 _ h1.2, fun a w ha => w_op k hk h a w ha.1 ha.2,
    (GA.ex (A := fun (x : {x : Regs × List Ent // GA P ops Q J fuel (listed.setIfInBounds k true) (GR N x.1 W0 F x.2)}) => GR N x.1.1 W0 F x.1.2) (fun x => x.2)).mono fun _ _ ⟨R, L, h1, _, h3⟩ => ⟨⟨(R, L), h3⟩, h1⟩⟩
theorem k_end (hJ : ∀ w, St W0 F L w → J w) (h : GA P ops Q J fuel listed (GR N R W0 F L)) : G N R (St W0 F L) (Qn (KB P ops Q J fuel listed N W0 F) Q .normal) := fun _ _ hR hS => ⟨R, L, ⟨hR, hS⟩, hJ, h⟩
theorem k_done (hr : Region.ready .any ops listed = []) (h : G N R (St W0 F L) (Q .normal)) : ∀ {n : Nat}, GA P ops Q J n listed (GR N R W0 F L)
  | 0 => fun a w ha => ⟨hr, h a w ha.1 ha.2⟩
  | _ + 1 => ⟨fun _ a w ha => h a w ha.1 ha.2, fun i hi => by rw [hr] at hi; cases hi⟩
end
end Go.Proofs.YtjdmdpjbijkjaaaGreat

namespace Go.Proofs.YtjdmdpjbijkjaaaGreat
open Go Go.RowKit
def tab : Tab
  | 0 => some ⟨false, 1, .other, []⟩
  | 1 => some ⟨false, 1, .other, []⟩
  | 2 => some ⟨false, 1, .int .i64, []⟩
  | 3 => some ⟨false, 1, .int .i64, []⟩
  | 4 => some ⟨false, 1, .bool, []⟩
  | 5 => some ⟨false, 1, .int .u8, []⟩
  | 6 => some ⟨false, 1, .int .u8, []⟩
  | 7 => some ⟨true, 4, .st [(0, 1), (1, 1), (2, 1), (3, 1)], [.int .i64 0, .int .i64 0, .bool false, .int .u8 0]⟩
  | 8 => some ⟨true, 4, .st [(0, 1), (1, 1), (2, 1), (3, 1)], [.int .i64 0, .int .i64 0, .bool false, .int .u8 0]⟩
  | 9 => some ⟨false, 1, .str, []⟩
  | 10 => some ⟨false, 1, .str, []⟩
  | 11 => some ⟨false, 1, .str, []⟩
  | 12 => some ⟨false, 1, .int .u64, []⟩
  | 13 => some ⟨true, 2, .st [(0, 1), (1, 1)], [.string ByteArray.empty, .int .u64 0]⟩
  | 14 => some ⟨true, 2, .st [(0, 1), (1, 1)], [.string ByteArray.empty, .int .u64 0]⟩
  | 15 => some ⟨false, 1, .other, []⟩
  | 16 => some ⟨false, 1, .other, []⟩
  | 17 => some ⟨false, 1, .other, []⟩
  | 18 => some ⟨true, 1, .st [(0, 1)], [.pointer none]⟩
  | 19 => some ⟨true, 1, .st [(0, 1)], [.pointer none]⟩
  | 20 => some ⟨false, 1, .other, []⟩
  | 21 => some ⟨false, 1, .int .i32, []⟩
  | 22 => some ⟨true, 2, .arr 2 9 1, [.string ByteArray.empty, .string ByteArray.empty]⟩
  | 23 => some ⟨true, 2, .st [(0, 1), (1, 1)], [.int .i64 0, .bool false]⟩
  | 24 => some ⟨true, 2, .st [(0, 1), (1, 1)], [.int .i64 0, .bool false]⟩
  | 25 => some ⟨false, 1, .int .i64, []⟩
  | 26 => some ⟨false, 1, .int .u64, []⟩
  | 27 => some ⟨true, 4, .arr 4 26 1, [.int .u64 0, .int .u64 0, .int .u64 0, .int .u64 0]⟩
  | 28 => some ⟨true, 4, .arr 4 26 1, [.int .u64 0, .int .u64 0, .int .u64 0, .int .u64 0]⟩
  | 29 => some ⟨false, 1, .slice 31 9, []⟩
  | 30 => some ⟨true, 9, .st [(0, 1), (1, 4), (5, 1), (6, 1), (7, 1), (8, 1)], [.int .i64 0, .int .u64 0, .int .u64 0, .int .u64 0, .int .u64 0, .int .i64 0, .int .i64 0, .int .i64 0, .slice none 0 0]⟩
  | 31 => some ⟨true, 9, .st [(0, 1), (1, 4), (5, 1), (6, 1), (7, 1), (8, 1)], [.int .i64 0, .int .u64 0, .int .u64 0, .int .u64 0, .int .u64 0, .int .i64 0, .int .i64 0, .int .i64 0, .slice none 0 0]⟩
  | 32 => some ⟨false, 1, .int .i64, []⟩
  | 33 => some ⟨false, 1, .other, []⟩
  | 34 => some ⟨false, 1, .other, []⟩
  | 35 => some ⟨false, 1, .slice 47 2, []⟩
  | 36 => some ⟨false, 1, .other, []⟩
  | 37 => some ⟨false, 1, .other, []⟩
  | 38 => some ⟨false, 1, .other, []⟩
  | 39 => some ⟨false, 1, .other, []⟩
  | 40 => some ⟨false, 1, .other, []⟩
  | 41 => some ⟨false, 1, .other, []⟩
  | 42 => some ⟨false, 1, .other, []⟩
  | 43 => some ⟨true, 5, .st [(0, 1), (1, 1), (2, 1), (3, 1), (4, 1)], [.string ByteArray.empty, .int .i64 0, .bool false, .int .i64 0, .bool false]⟩
  | 44 => some ⟨true, 5, .st [(0, 1), (1, 1), (2, 1), (3, 1), (4, 1)], [.string ByteArray.empty, .int .i64 0, .bool false, .int .i64 0, .bool false]⟩
  | 45 => some ⟨false, 1, .other, []⟩
  | 46 => some ⟨true, 2, .st [(0, 1), (1, 1)], [.string ByteArray.empty, .int .i64 0]⟩
  | 47 => some ⟨true, 2, .st [(0, 1), (1, 1)], [.string ByteArray.empty, .int .i64 0]⟩
  | 48 => some ⟨false, 1, .other, []⟩
  | 49 => some ⟨false, 1, .other, []⟩
  | 50 => some ⟨false, 1, .slice 5 1, []⟩
  | 51 => some ⟨true, 2, .st [(0, 1), (1, 1)], [.pointer none, .slice none 0 0]⟩
  | 52 => some ⟨true, 2, .st [(0, 1), (1, 1)], [.pointer none, .slice none 0 0]⟩
  | 53 => some ⟨false, 1, .other, []⟩
  | 54 => some ⟨false, 1, .other, []⟩
  | 55 => some ⟨false, 1, .other, []⟩
  | 56 => some ⟨true, 2, .st [(0, 1), (1, 1)], [.int .i64 0, .int .i64 0]⟩
  | 57 => some ⟨true, 2, .st [(0, 1), (1, 1)], [.int .i64 0, .int .i64 0]⟩
  | 58 => some ⟨true, 20, .arr 10 57 2, [.int .i64 0, .int .i64 0, .int .i64 0, .int .i64 0, .int .i64 0, .int .i64 0, .int .i64 0, .int .i64 0, .int .i64 0, .int .i64 0, .int .i64 0, .int .i64 0, .int .i64 0, .int .i64 0, .int .i64 0, .int .i64 0, .int .i64 0, .int .i64 0, .int .i64 0, .int .i64 0]⟩
  | 59 => some ⟨true, 20, .arr 10 57 2, [.int .i64 0, .int .i64 0, .int .i64 0, .int .i64 0, .int .i64 0, .int .i64 0, .int .i64 0, .int .i64 0, .int .i64 0, .int .i64 0, .int .i64 0, .int .i64 0, .int .i64 0, .int .i64 0, .int .i64 0, .int .i64 0, .int .i64 0, .int .i64 0, .int .i64 0, .int .i64 0]⟩
  | 60 => some ⟨false, 1, .other, []⟩
  | 61 => some ⟨false, 1, .other, []⟩
  | 62 => some ⟨false, 1, .other, []⟩
  | 63 => some ⟨false, 1, .other, []⟩
  | 64 => some ⟨false, 1, .other, []⟩
  | 65 => some ⟨false, 1, .other, []⟩
  | 66 => some ⟨false, 1, .other, []⟩
  | 67 => some ⟨false, 1, .slice 59 20, []⟩
  | 68 => some ⟨false, 1, .other, []⟩
  | 69 => some ⟨false, 1, .other, []⟩
  | 70 => some ⟨false, 1, .other, []⟩
  | 71 => some ⟨false, 1, .slice 91 7, []⟩
  | 72 => some ⟨true, 4, .st [(0, 1), (1, 1), (2, 1), (3, 1)], [.string ByteArray.empty, .bool false, .slice none 0 0, .int .i64 0]⟩
  | 73 => some ⟨true, 4, .st [(0, 1), (1, 1), (2, 1), (3, 1)], [.string ByteArray.empty, .bool false, .slice none 0 0, .int .i64 0]⟩
  | 74 => some ⟨false, 1, .other, []⟩
  | 75 => some ⟨true, 3, .st [(0, 1), (1, 1), (2, 1)], [.slice none 0 0, .int .i64 0, .bool false]⟩
  | 76 => some ⟨true, 3, .st [(0, 1), (1, 1), (2, 1)], [.slice none 0 0, .int .i64 0, .bool false]⟩
  | 77 => some ⟨false, 1, .other, []⟩
  | 78 => some ⟨false, 1, .other, []⟩
  | 79 => some ⟨false, 1, .other, []⟩
  | 80 => some ⟨false, 1, .other, []⟩
  | 81 => some ⟨false, 1, .other, []⟩
  | 82 => some ⟨false, 1, .other, []⟩
  | 83 => some ⟨false, 1, .other, []⟩
  | 84 => some ⟨false, 1, .other, []⟩
  | 85 => some ⟨false, 1, .other, []⟩
  | 86 => some ⟨false, 1, .other, []⟩
  | 87 => some ⟨false, 1, .other, []⟩
  | 88 => some ⟨false, 1, .other, []⟩
  | 89 => some ⟨false, 1, .other, []⟩
  | 90 => some ⟨true, 7, .st [(0, 1), (1, 4), (5, 1), (6, 1)], [.int .i64 0, .int .u64 0, .int .u64 0, .int .u64 0, .int .u64 0, .int .i64 0, .int .i64 0]⟩
  | 91 => some ⟨true, 7, .st [(0, 1), (1, 4), (5, 1), (6, 1)], [.int .i64 0, .int .u64 0, .int .u64 0, .int .u64 0, .int .u64 0, .int .i64 0, .int .i64 0]⟩
  | 92 => some ⟨false, 1, .other, []⟩
  | 93 => some ⟨false, 1, .other, []⟩
  | 94 => some ⟨false, 1, .other, []⟩
  | 95 => some ⟨false, 1, .other, []⟩
  | 96 => some ⟨false, 1, .other, []⟩
  | 97 => some ⟨false, 1, .other, []⟩
  | 98 => some ⟨false, 1, .other, []⟩
  | 99 => some ⟨false, 1, .other, []⟩
  | 100 => some ⟨true, 5, .st [(0, 1), (1, 1), (2, 1), (3, 1), (4, 1)], [.int .i64 0, .int .i64 0, .int .i64 0, .int .i64 0, .int .i64 0]⟩
  | 101 => some ⟨true, 5, .st [(0, 1), (1, 1), (2, 1), (3, 1), (4, 1)], [.int .i64 0, .int .i64 0, .int .i64 0, .int .i64 0, .int .i64 0]⟩
  | 102 => some ⟨false, 1, .other, []⟩
  | 103 => some ⟨false, 1, .slice 26 1, []⟩
  | 104 => some ⟨false, 1, .slice 26 1, []⟩
  | 105 => some ⟨false, 1, .other, []⟩
  | 106 => some ⟨false, 1, .other, []⟩
  | 107 => some ⟨false, 1, .other, []⟩
  | 108 => some ⟨false, 1, .other, []⟩
  | 109 => some ⟨false, 1, .other, []⟩
  | 110 => some ⟨true, 2, .st [(0, 1), (1, 1)], [.string ByteArray.empty, .bool false]⟩
  | 111 => some ⟨true, 2, .st [(0, 1), (1, 1)], [.string ByteArray.empty, .bool false]⟩
  | 112 => some ⟨false, 1, .slice 115 1, []⟩
  | 113 => some ⟨false, 1, .slice 115 1, []⟩
  | 114 => some ⟨false, 1, .other, []⟩
  | 115 => some ⟨false, 1, .slice 4 1, []⟩
  | 116 => some ⟨false, 1, .other, []⟩
  | 117 => some ⟨false, 1, .other, []⟩
  | 118 => some ⟨false, 1, .other, []⟩
  | 119 => some ⟨false, 1, .other, []⟩
  | 120 => some ⟨false, 1, .other, []⟩
  | 121 => some ⟨false, 1, .other, []⟩
  | 122 => some ⟨false, 1, .other, []⟩
  | 123 => some ⟨false, 1, .other, []⟩
  | 124 => some ⟨false, 1, .other, []⟩
  | 125 => some ⟨false, 1, .other, []⟩
  | 126 => some ⟨false, 1, .other, []⟩
  | 127 => some ⟨false, 1, .other, []⟩
  | 128 => some ⟨false, 1, .other, []⟩
  | 129 => some ⟨false, 1, .other, []⟩
  | 130 => some ⟨false, 1, .other, []⟩
  | 131 => some ⟨false, 1, .other, []⟩
  | 132 => some ⟨false, 1, .int .u64, []⟩
  | 133 => some ⟨false, 1, .other, []⟩
  | 134 => some ⟨false, 1, .slice 140 10, []⟩
  | 135 => some ⟨true, 4, .st [(0, 1), (1, 1), (2, 1), (3, 1)], [.slice none 0 0, .string ByteArray.empty, .bool false, .map none]⟩
  | 136 => some ⟨true, 4, .st [(0, 1), (1, 1), (2, 1), (3, 1)], [.slice none 0 0, .string ByteArray.empty, .bool false, .map none]⟩
  | 137 => some ⟨false, 1, .other, []⟩
  | 138 => some ⟨false, 1, .slice 3 1, []⟩
  | 139 => some ⟨true, 10, .st [(0, 9), (9, 1)], [.int .i64 0, .int .u64 0, .int .u64 0, .int .u64 0, .int .u64 0, .int .i64 0, .int .i64 0, .int .i64 0, .slice none 0 0, .slice none 0 0]⟩
  | 140 => some ⟨true, 10, .st [(0, 9), (9, 1)], [.int .i64 0, .int .u64 0, .int .u64 0, .int .u64 0, .int .u64 0, .int .i64 0, .int .i64 0, .int .i64 0, .slice none 0 0, .slice none 0 0]⟩
  | 141 => some ⟨false, 1, .other, []⟩
  | 142 => some ⟨false, 1, .other, []⟩
  | 143 => some ⟨false, 1, .other, []⟩
  | 144 => some ⟨false, 1, .other, []⟩
  | 145 => some ⟨false, 1, .other, []⟩
  | 146 => some ⟨false, 1, .other, []⟩
  | 147 => some ⟨false, 1, .other, []⟩
  | 148 => some ⟨false, 1, .other, []⟩
  | 149 => some ⟨false, 1, .other, []⟩
  | 150 => some ⟨false, 1, .other, []⟩
  | 151 => some ⟨false, 1, .other, []⟩
  | 152 => some ⟨false, 1, .other, []⟩
  | 153 => some ⟨false, 1, .other, []⟩
  | 154 => some ⟨false, 1, .other, []⟩
  | 155 => some ⟨false, 1, .other, []⟩
  | 156 => some ⟨false, 1, .other, []⟩
  | 157 => some ⟨false, 1, .other, []⟩
  | 158 => some ⟨false, 1, .other, []⟩
  | 159 => some ⟨false, 1, .other, []⟩
  | 160 => some ⟨false, 1, .int .u32, []⟩
  | 161 => some ⟨false, 1, .other, []⟩
  | 162 => some ⟨false, 1, .other, []⟩
  | 163 => some ⟨true, 4, .st [(0, 1), (1, 1), (2, 1), (3, 1)], [.pointer none, .pointer none, .pointer none, .string ByteArray.empty]⟩
  | 164 => some ⟨true, 4, .st [(0, 1), (1, 1), (2, 1), (3, 1)], [.pointer none, .pointer none, .pointer none, .string ByteArray.empty]⟩
  | 165 => some ⟨true, 0, .arr 0 16 1, []⟩
  | 168 => some ⟨false, 1, .int .u8, []⟩
  | 169 => some ⟨false, 1, .int .u8, []⟩
  | 170 => some ⟨false, 1, .other, []⟩
  | 171 => some ⟨false, 1, .int .i32, []⟩
  | 172 => some ⟨false, 1, .int .i32, []⟩
  | 173 => some ⟨true, 11, .st [(0, 1), (1, 1), (2, 1), (3, 1), (4, 1), (5, 1), (6, 1), (7, 1), (8, 1), (9, 1), (10, 1)], [.int .u64 0, .int .u64 0, .int .u32 0, .int .u8 0, .int .u8 0, .int .u8 0, .int .u8 0, .nilFunc, .pointer none, .int .i32 0, .int .i32 0]⟩
  | 174 => some ⟨true, 11, .st [(0, 1), (1, 1), (2, 1), (3, 1), (4, 1), (5, 1), (6, 1), (7, 1), (8, 1), (9, 1), (10, 1)], [.int .u64 0, .int .u64 0, .int .u32 0, .int .u8 0, .int .u8 0, .int .u8 0, .int .u8 0, .nilFunc, .pointer none, .int .i32 0, .int .i32 0]⟩
  | _ => none
set_option maxRecDepth 100000 in
set_option maxHeartbeats 4000000 in
theorem tab_ok : ∀ t i, tab t = some i → i.ok Tryz.prog t := by
  intro t i h;unfold tab at h
  split at h
  · cases h; exact ⟨Tryz.isAgg0, Tryz.sizeOf0, trivial⟩
  · cases h; exact ⟨Tryz.isAgg1, Tryz.sizeOf1, trivial⟩
  · cases h; exact ⟨Tryz.isAgg2, Tryz.sizeOf2, Tryz.underlying2⟩
  · cases h; exact ⟨Tryz.isAgg3, Tryz.sizeOf3, Tryz.underlying3⟩
  · cases h; exact ⟨Tryz.isAgg4, Tryz.sizeOf4, Tryz.underlying4⟩
  · cases h; exact ⟨Tryz.isAgg5, Tryz.sizeOf5, Tryz.underlying5⟩
  · cases h; exact ⟨Tryz.isAgg6, Tryz.sizeOf6, Tryz.underlying6⟩
  · cases h; exact ⟨Tryz.isAgg7, Tryz.sizeOf7, ⟨by kernel_rfl, fun vs => by kernel_rfl⟩⟩
  · cases h; exact ⟨Tryz.isAgg8, Tryz.sizeOf8, ⟨by kernel_rfl, fun vs => by kernel_rfl⟩⟩
  · cases h; exact ⟨Tryz.isAgg9, Tryz.sizeOf9, Tryz.underlying9⟩
  · cases h; exact ⟨Tryz.isAgg10, Tryz.sizeOf10, Tryz.underlying10⟩
  · cases h; exact ⟨Tryz.isAgg11, Tryz.sizeOf11, Tryz.underlying11⟩
  · cases h; exact ⟨Tryz.isAgg12, Tryz.sizeOf12, Tryz.underlying12⟩
  · cases h; exact ⟨Tryz.isAgg13, Tryz.sizeOf13, ⟨by kernel_rfl, fun vs => by kernel_rfl⟩⟩
  · cases h; exact ⟨Tryz.isAgg14, Tryz.sizeOf14, ⟨by kernel_rfl, fun vs => by kernel_rfl⟩⟩
  · cases h; exact ⟨Tryz.isAgg15, Tryz.sizeOf15, trivial⟩
  · cases h; exact ⟨Tryz.isAgg16, Tryz.sizeOf16, trivial⟩
  · cases h; exact ⟨Tryz.isAgg17, Tryz.sizeOf17, trivial⟩
  · cases h; exact ⟨Tryz.isAgg18, Tryz.sizeOf18, ⟨by kernel_rfl, fun vs => by kernel_rfl⟩⟩
  · cases h; exact ⟨Tryz.isAgg19, Tryz.sizeOf19, ⟨by kernel_rfl, fun vs => by kernel_rfl⟩⟩
  · cases h; exact ⟨Tryz.isAgg20, Tryz.sizeOf20, trivial⟩
  · cases h; exact ⟨Tryz.isAgg21, Tryz.sizeOf21, Tryz.underlying21⟩
  · cases h; exact ⟨Tryz.isAgg22, Tryz.sizeOf22, ⟨Tryz.underlying22, Tryz.sizeOf9, fun vs => by kernel_rfl⟩⟩
  · cases h; exact ⟨Tryz.isAgg23, Tryz.sizeOf23, ⟨by kernel_rfl, fun vs => by kernel_rfl⟩⟩
  · cases h; exact ⟨Tryz.isAgg24, Tryz.sizeOf24, ⟨by kernel_rfl, fun vs => by kernel_rfl⟩⟩
  · cases h; exact ⟨Tryz.isAgg25, Tryz.sizeOf25, Tryz.underlying25⟩
  · cases h; exact ⟨Tryz.isAgg26, Tryz.sizeOf26, Tryz.underlying26⟩
  · cases h; exact ⟨Tryz.isAgg27, Tryz.sizeOf27, ⟨Tryz.underlying27, Tryz.sizeOf26, fun vs => by kernel_rfl⟩⟩
  · cases h; exact ⟨Tryz.isAgg28, Tryz.sizeOf28, ⟨Tryz.underlying28, Tryz.sizeOf26, fun vs => by kernel_rfl⟩⟩
  · cases h; exact ⟨Tryz.isAgg29, Tryz.sizeOf29, ⟨Tryz.underlying29, Tryz.sizeOf31⟩⟩
  · cases h; exact ⟨Tryz.isAgg30, Tryz.sizeOf30, ⟨by kernel_rfl, fun vs => by kernel_rfl⟩⟩
  · cases h; exact ⟨Tryz.isAgg31, Tryz.sizeOf31, ⟨by kernel_rfl, fun vs => by kernel_rfl⟩⟩
  · cases h; exact ⟨Tryz.isAgg32, Tryz.sizeOf32, Tryz.underlying32⟩
  · cases h; exact ⟨Tryz.isAgg33, Tryz.sizeOf33, trivial⟩
  · cases h; exact ⟨Tryz.isAgg34, Tryz.sizeOf34, trivial⟩
  · cases h; exact ⟨Tryz.isAgg35, Tryz.sizeOf35, ⟨Tryz.underlying35, Tryz.sizeOf47⟩⟩
  · cases h; exact ⟨Tryz.isAgg36, Tryz.sizeOf36, trivial⟩
  · cases h; exact ⟨Tryz.isAgg37, Tryz.sizeOf37, trivial⟩
  · cases h; exact ⟨Tryz.isAgg38, Tryz.sizeOf38, trivial⟩
  · cases h; exact ⟨Tryz.isAgg39, Tryz.sizeOf39, trivial⟩
  · cases h; exact ⟨Tryz.isAgg40, Tryz.sizeOf40, trivial⟩
  · cases h; exact ⟨Tryz.isAgg41, Tryz.sizeOf41, trivial⟩
  · cases h; exact ⟨Tryz.isAgg42, Tryz.sizeOf42, trivial⟩
  · cases h; exact ⟨Tryz.isAgg43, Tryz.sizeOf43, ⟨by kernel_rfl, fun vs => by kernel_rfl⟩⟩
  · cases h; exact ⟨Tryz.isAgg44, Tryz.sizeOf44, ⟨by kernel_rfl, fun vs => by kernel_rfl⟩⟩
  · cases h; exact ⟨Tryz.isAgg45, Tryz.sizeOf45, trivial⟩
  · cases h; exact ⟨Tryz.isAgg46, Tryz.sizeOf46, ⟨by kernel_rfl, fun vs => by kernel_rfl⟩⟩
  · cases h; exact ⟨Tryz.isAgg47, Tryz.sizeOf47, ⟨by kernel_rfl, fun vs => by kernel_rfl⟩⟩
  · cases h; exact ⟨Tryz.isAgg48, Tryz.sizeOf48, trivial⟩
  · cases h; exact ⟨Tryz.isAgg49, Tryz.sizeOf49, trivial⟩
  · cases h; exact ⟨Tryz.isAgg50, Tryz.sizeOf50, ⟨Tryz.underlying50, Tryz.sizeOf5⟩⟩
  · cases h; exact ⟨Tryz.isAgg51, Tryz.sizeOf51, ⟨by kernel_rfl, fun vs => by kernel_rfl⟩⟩
  · cases h; exact ⟨Tryz.isAgg52, Tryz.sizeOf52, ⟨by kernel_rfl, fun vs => by kernel_rfl⟩⟩
  · cases h; exact ⟨Tryz.isAgg53, Tryz.sizeOf53, trivial⟩
  · cases h; exact ⟨Tryz.isAgg54, Tryz.sizeOf54, trivial⟩
  · cases h; exact ⟨Tryz.isAgg55, Tryz.sizeOf55, trivial⟩
  · cases h; exact ⟨Tryz.isAgg56, Tryz.sizeOf56, ⟨by kernel_rfl, fun vs => by kernel_rfl⟩⟩
  · cases h; exact ⟨Tryz.isAgg57, Tryz.sizeOf57, ⟨by kernel_rfl, fun vs => by kernel_rfl⟩⟩
  · cases h; exact ⟨Tryz.isAgg58, Tryz.sizeOf58, ⟨Tryz.underlying58, Tryz.sizeOf57, fun vs => by kernel_rfl⟩⟩
  · cases h; exact ⟨Tryz.isAgg59, Tryz.sizeOf59, ⟨Tryz.underlying59, Tryz.sizeOf57, fun vs => by kernel_rfl⟩⟩
  · cases h; exact ⟨Tryz.isAgg60, Tryz.sizeOf60, trivial⟩
  · cases h; exact ⟨Tryz.isAgg61, Tryz.sizeOf61, trivial⟩
  · cases h; exact ⟨Tryz.isAgg62, Tryz.sizeOf62, trivial⟩
  · cases h; exact ⟨Tryz.isAgg63, Tryz.sizeOf63, trivial⟩
  · cases h; exact ⟨Tryz.isAgg64, Tryz.sizeOf64, trivial⟩
  · cases h; exact ⟨Tryz.isAgg65, Tryz.sizeOf65, trivial⟩
  · cases h; exact ⟨Tryz.isAgg66, Tryz.sizeOf66, trivial⟩
  · cases h; exact ⟨Tryz.isAgg67, Tryz.sizeOf67, ⟨Tryz.underlying67, Tryz.sizeOf59⟩⟩
  · cases h; exact ⟨Tryz.isAgg68, Tryz.sizeOf68, trivial⟩
  · cases h; exact ⟨Tryz.isAgg69, Tryz.sizeOf69, trivial⟩
  · cases h; exact ⟨Tryz.isAgg70, Tryz.sizeOf70, trivial⟩
  · cases h; exact ⟨Tryz.isAgg71, Tryz.sizeOf71, ⟨Tryz.underlying71, Tryz.sizeOf91⟩⟩
  · cases h; exact ⟨Tryz.isAgg72, Tryz.sizeOf72, ⟨by kernel_rfl, fun vs => by kernel_rfl⟩⟩
  · cases h; exact ⟨Tryz.isAgg73, Tryz.sizeOf73, ⟨by kernel_rfl, fun vs => by kernel_rfl⟩⟩
  · cases h; exact ⟨Tryz.isAgg74, Tryz.sizeOf74, trivial⟩
  · cases h; exact ⟨Tryz.isAgg75, Tryz.sizeOf75, ⟨by kernel_rfl, fun vs => by kernel_rfl⟩⟩
  · cases h; exact ⟨Tryz.isAgg76, Tryz.sizeOf76, ⟨by kernel_rfl, fun vs => by kernel_rfl⟩⟩
  · cases h; exact ⟨Tryz.isAgg77, Tryz.sizeOf77, trivial⟩
  · cases h; exact ⟨Tryz.isAgg78, Tryz.sizeOf78, trivial⟩
  · cases h; exact ⟨Tryz.isAgg79, Tryz.sizeOf79, trivial⟩
  · cases h; exact ⟨Tryz.isAgg80, Tryz.sizeOf80, trivial⟩
  · cases h; exact ⟨Tryz.isAgg81, Tryz.sizeOf81, trivial⟩
  · cases h; exact ⟨Tryz.isAgg82, Tryz.sizeOf82, trivial⟩
  · cases h; exact ⟨Tryz.isAgg83, Tryz.sizeOf83, trivial⟩
  · cases h; exact ⟨Tryz.isAgg84, Tryz.sizeOf84, trivial⟩
  · cases h; exact ⟨Tryz.isAgg85, Tryz.sizeOf85, trivial⟩
  · cases h; exact ⟨Tryz.isAgg86, Tryz.sizeOf86, trivial⟩
  · cases h; exact ⟨Tryz.isAgg87, Tryz.sizeOf87, trivial⟩
  · cases h; exact ⟨Tryz.isAgg88, Tryz.sizeOf88, trivial⟩
  · cases h; exact ⟨Tryz.isAgg89, Tryz.sizeOf89, trivial⟩
  · cases h; exact ⟨Tryz.isAgg90, Tryz.sizeOf90, ⟨by kernel_rfl, fun vs => by kernel_rfl⟩⟩
  · cases h; exact ⟨Tryz.isAgg91, Tryz.sizeOf91, ⟨by kernel_rfl, fun vs => by kernel_rfl⟩⟩
  · cases h; exact ⟨Tryz.isAgg92, Tryz.sizeOf92, trivial⟩
  · cases h; exact ⟨Tryz.isAgg93, Tryz.sizeOf93, trivial⟩
  · cases h; exact ⟨Tryz.isAgg94, Tryz.sizeOf94, trivial⟩
  · cases h; exact ⟨Tryz.isAgg95, Tryz.sizeOf95, trivial⟩
  · cases h; exact ⟨Tryz.isAgg96, Tryz.sizeOf96, trivial⟩
  · cases h; exact ⟨Tryz.isAgg97, Tryz.sizeOf97, trivial⟩
  · cases h; exact ⟨Tryz.isAgg98, Tryz.sizeOf98, trivial⟩
  · cases h; exact ⟨Tryz.isAgg99, Tryz.sizeOf99, trivial⟩
  · cases h; exact ⟨Tryz.isAgg100, Tryz.sizeOf100, ⟨by kernel_rfl, fun vs => by kernel_rfl⟩⟩
  · cases h; exact ⟨Tryz.isAgg101, Tryz.sizeOf101, ⟨by kernel_rfl, fun vs => by kernel_rfl⟩⟩
  · cases h; exact ⟨Tryz.isAgg102, Tryz.sizeOf102, trivial⟩
  · cases h; exact ⟨Tryz.isAgg103, Tryz.sizeOf103, ⟨Tryz.underlying103, Tryz.sizeOf26⟩⟩
  · cases h; exact ⟨Tryz.isAgg104, Tryz.sizeOf104, ⟨Tryz.underlying104, Tryz.sizeOf26⟩⟩
  · cases h; exact ⟨Tryz.isAgg105, Tryz.sizeOf105, trivial⟩
  · cases h; exact ⟨Tryz.isAgg106, Tryz.sizeOf106, trivial⟩
  · cases h; exact ⟨Tryz.isAgg107, Tryz.sizeOf107, trivial⟩
  · cases h; exact ⟨Tryz.isAgg108, Tryz.sizeOf108, trivial⟩
  · cases h; exact ⟨Tryz.isAgg109, Tryz.sizeOf109, trivial⟩
  · cases h; exact ⟨Tryz.isAgg110, Tryz.sizeOf110, ⟨by kernel_rfl, fun vs => by kernel_rfl⟩⟩
  · cases h; exact ⟨Tryz.isAgg111, Tryz.sizeOf111, ⟨by kernel_rfl, fun vs => by kernel_rfl⟩⟩
  · cases h; exact ⟨Tryz.isAgg112, Tryz.sizeOf112, ⟨Tryz.underlying112, Tryz.sizeOf115⟩⟩
  · cases h; exact ⟨Tryz.isAgg113, Tryz.sizeOf113, ⟨Tryz.underlying113, Tryz.sizeOf115⟩⟩
  · cases h; exact ⟨Tryz.isAgg114, Tryz.sizeOf114, trivial⟩
  · cases h; exact ⟨Tryz.isAgg115, Tryz.sizeOf115, ⟨Tryz.underlying115, Tryz.sizeOf4⟩⟩
  · cases h; exact ⟨Tryz.isAgg116, Tryz.sizeOf116, trivial⟩
  · cases h; exact ⟨Tryz.isAgg117, Tryz.sizeOf117, trivial⟩
  · cases h; exact ⟨Tryz.isAgg118, Tryz.sizeOf118, trivial⟩
  · cases h; exact ⟨Tryz.isAgg119, Tryz.sizeOf119, trivial⟩
  · cases h; exact ⟨Tryz.isAgg120, Tryz.sizeOf120, trivial⟩
  · cases h; exact ⟨Tryz.isAgg121, Tryz.sizeOf121, trivial⟩
  · cases h; exact ⟨Tryz.isAgg122, Tryz.sizeOf122, trivial⟩
  · cases h; exact ⟨Tryz.isAgg123, Tryz.sizeOf123, trivial⟩
  · cases h; exact ⟨Tryz.isAgg124, Tryz.sizeOf124, trivial⟩
  · cases h; exact ⟨Tryz.isAgg125, Tryz.sizeOf125, trivial⟩
  · cases h; exact ⟨Tryz.isAgg126, Tryz.sizeOf126, trivial⟩
  · cases h; exact ⟨Tryz.isAgg127, Tryz.sizeOf127, trivial⟩
  · cases h; exact ⟨Tryz.isAgg128, Tryz.sizeOf128, trivial⟩
  · cases h; exact ⟨Tryz.isAgg129, Tryz.sizeOf129, trivial⟩
  · cases h; exact ⟨Tryz.isAgg130, Tryz.sizeOf130, trivial⟩
  · cases h; exact ⟨Tryz.isAgg131, Tryz.sizeOf131, trivial⟩
  · cases h; exact ⟨Tryz.isAgg132, Tryz.sizeOf132, Tryz.underlying132⟩
  · cases h; exact ⟨Tryz.isAgg133, Tryz.sizeOf133, trivial⟩
  · cases h; exact ⟨Tryz.isAgg134, Tryz.sizeOf134, ⟨Tryz.underlying134, Tryz.sizeOf140⟩⟩
  · cases h; exact ⟨Tryz.isAgg135, Tryz.sizeOf135, ⟨by kernel_rfl, fun vs => by kernel_rfl⟩⟩
  · cases h; exact ⟨Tryz.isAgg136, Tryz.sizeOf136, ⟨by kernel_rfl, fun vs => by kernel_rfl⟩⟩
  · cases h; exact ⟨Tryz.isAgg137, Tryz.sizeOf137, trivial⟩
  · cases h; exact ⟨Tryz.isAgg138, Tryz.sizeOf138, ⟨Tryz.underlying138, Tryz.sizeOf3⟩⟩
  · cases h; exact ⟨Tryz.isAgg139, Tryz.sizeOf139, ⟨by kernel_rfl, fun vs => by kernel_rfl⟩⟩
  · cases h; exact ⟨Tryz.isAgg140, Tryz.sizeOf140, ⟨by kernel_rfl, fun vs => by kernel_rfl⟩⟩
  · cases h; exact ⟨Tryz.isAgg141, Tryz.sizeOf141, trivial⟩
  · cases h; exact ⟨Tryz.isAgg142, Tryz.sizeOf142, trivial⟩
  · cases h; exact ⟨Tryz.isAgg143, Tryz.sizeOf143, trivial⟩
  · cases h; exact ⟨Tryz.isAgg144, Tryz.sizeOf144, trivial⟩
  · cases h; exact ⟨Tryz.isAgg145, Tryz.sizeOf145, trivial⟩
  · cases h; exact ⟨Tryz.isAgg146, Tryz.sizeOf146, trivial⟩
  · cases h; exact ⟨Tryz.isAgg147, Tryz.sizeOf147, trivial⟩
  · cases h; exact ⟨Tryz.isAgg148, Tryz.sizeOf148, trivial⟩
  · cases h; exact ⟨Tryz.isAgg149, Tryz.sizeOf149, trivial⟩
  · cases h; exact ⟨Tryz.isAgg150, Tryz.sizeOf150, trivial⟩
  · cases h; exact ⟨Tryz.isAgg151, Tryz.sizeOf151, trivial⟩
  · cases h; exact ⟨Tryz.isAgg152, Tryz.sizeOf152, trivial⟩
  · cases h; exact ⟨Tryz.isAgg153, Tryz.sizeOf153, trivial⟩
  · cases h; exact ⟨Tryz.isAgg154, Tryz.sizeOf154, trivial⟩
  · cases h; exact ⟨Tryz.isAgg155, Tryz.sizeOf155, trivial⟩
  · cases h; exact ⟨Tryz.isAgg156, Tryz.sizeOf156, trivial⟩
  · cases h; exact ⟨Tryz.isAgg157, Tryz.sizeOf157, trivial⟩
  · cases h; exact ⟨Tryz.isAgg158, Tryz.sizeOf158, trivial⟩
  · cases h; exact ⟨Tryz.isAgg159, Tryz.sizeOf159, trivial⟩
  · cases h; exact ⟨Tryz.isAgg160, Tryz.sizeOf160, Tryz.underlying160⟩
  · cases h; exact ⟨Tryz.isAgg161, Tryz.sizeOf161, trivial⟩
  · cases h; exact ⟨Tryz.isAgg162, Tryz.sizeOf162, trivial⟩
  · cases h; exact ⟨Tryz.isAgg163, Tryz.sizeOf163, ⟨by kernel_rfl, fun vs => by kernel_rfl⟩⟩
  · cases h; exact ⟨Tryz.isAgg164, Tryz.sizeOf164, ⟨by kernel_rfl, fun vs => by kernel_rfl⟩⟩
  · cases h; exact ⟨Tryz.isAgg165, Tryz.sizeOf165, ⟨Tryz.underlying165, Tryz.sizeOf16, fun vs => by kernel_rfl⟩⟩
  · cases h; exact ⟨Tryz.isAgg168, Tryz.sizeOf168, Tryz.underlying168⟩
  · cases h; exact ⟨Tryz.isAgg169, Tryz.sizeOf169, Tryz.underlying169⟩
  · cases h; exact ⟨Tryz.isAgg170, Tryz.sizeOf170, trivial⟩
  · cases h; exact ⟨Tryz.isAgg171, Tryz.sizeOf171, Tryz.underlying171⟩
  · cases h; exact ⟨Tryz.isAgg172, Tryz.sizeOf172, Tryz.underlying172⟩
  · cases h; exact ⟨Tryz.isAgg173, Tryz.sizeOf173, ⟨by kernel_rfl, fun vs => by kernel_rfl⟩⟩
  · cases h; exact ⟨Tryz.isAgg174, Tryz.sizeOf174, ⟨by kernel_rfl, fun vs => by kernel_rfl⟩⟩
  · cases h
section
variable {N : Nat} {R R' : Regs} {W0 : World} {F : List Nat} {L L' : List Ent} {Q : Exit → Act → World → Prop} {ops : Array Oper} {l l' : List Oper} {C : Prop}
theorem xg (n : Nat) (hs : List Nat) (h : (match nrm L with
    | some L => ex tab N ops n R L hs ((0 : Nat) = 0) l
    | none => none) = some (R', L', l', C)) (c : C) (k : G N R' (St W0 F L') (wpList Tryz.prog ops Q l')) : G N R (St W0 F L) (wpList Tryz.prog ops Q l) := by
  rw [nrm_eq] at h;exact (ex_ok tab_ok h c).2 k
theorem xq {Qq : Act → Prop} (n : Nat) (hs : List Nat) (h : (match nrm L with
    | some L => eq_ tab N ops L n R hs ((0 : Nat) = 0) l
    | none => none) = some (R', l', C)) (c : C) (k : GQ N R' (wpQuiet Tryz.prog ops (St W0 F L) Qq l')) : GQ N R (wpQuiet Tryz.prog ops (St W0 F L) Qq l) := by
  rw [nrm_eq] at h;exact (eq_ok tab_ok h c).2 k
theorem k_go {id : Nat} {Lh Lr : List Ent} (is : List Nat) (hp : pickE is L = some (Lh, Lr)) (hm : Tryz.prog.follows .mixedOrders = true) (hQ : ∀ c a w d v, Q (.panic c) (a.put (some d) v) w → Q (.panic c) a w)
    (h : (∀ c a w d v, Q (.panic c) (a.put (some d) v) w → Q (.panic c) a w) → GA Tryz.prog l.toArray Q (St W0 F Lh) l.length (Array.replicate l.length false) (GR N R W0 F L)) : G N R (St W0 F L) ((Code.region id l.toArray true).wp Tryz.prog Q) :=
  k_start _ hm (h hQ)
theorem k_x {o : Oper} {fuel d : Nat} {listed : Array Bool} {v : Value} {hs' : List Nat} {Lh Lr : List Ent} (k : Nat) (is hs : List Nat) (hQ : ∀ c a w d v, Q (.panic c) (a.put (some d) v) w → Q (.panic c) a w) (hm : may ops listed k = true) (hk : ops[k]? = some o) (hw : want ops R o = some true) (hd : o.dst = some d) (hN : Nat.blt d N = true)
    (hp : pickE is L = some (Lh, Lr)) (hy : yv tab R Lh hs o.op = some (v, hs', none)) (h : GA Tryz.prog ops Q (St W0 F Lh) fuel (listed.setIfInBounds k true) (GR N ((d, v) :: R) W0 F L)) : GA Tryz.prog ops Q (St W0 F Lh) (fuel + 1) listed (GR N R W0 F L) :=
  k_take k hk hm hQ hw hd hN (fun _ h => h.pick is hp) (yv_ok tab_ok hy (fun p hp => by cases hp)) h
theorem k_xc {o : Oper} {fuel d : Nat} {listed : Array Bool} {v : Value} {hs' : List Nat} {Lh Lr : List Ent} (k : Nat) (is hs : List Nat) (hQ : ∀ c a w d v, Q (.panic c) (a.put (some d) v) w → Q (.panic c) a w) (hm : may ops listed k = true) (hk : ops[k]? = some o) (hw : want ops R o = some true) (hd : o.dst = some d) (hN : Nat.blt d N = true)
    (hp : pickE is L = some (Lh, Lr)) (hy : yv tab R Lh hs o.op = some (v, hs', some C)) (c : C) (h : GA Tryz.prog ops Q (St W0 F Lh) fuel (listed.setIfInBounds k true) (GR N ((d, v) :: R) W0 F L)) : GA Tryz.prog ops Q (St W0 F Lh) (fuel + 1) listed (GR N R W0 F L) :=
  k_take k hk hm hQ hw hd hN (fun _ h => h.pick is hp) (yv_ok tab_ok hy (fun p hp => by cases hp; exact c)) h
theorem k_no {o : Oper} {fuel d : Nat} {listed : Array Bool} {Lh Lr : List Ent} (k : Nat) (is : List Nat) (hQ : ∀ c a w d v, Q (.panic c) (a.put (some d) v) w → Q (.panic c) a w) (hm : may ops listed k = true) (hk : ops[k]? = some o) (hw : want ops R o = some false) (hd : o.dst = some d) (hN : Nat.blt d N = true)
    (hp : pickE is L = some (Lh, Lr)) (h : GA Tryz.prog ops Q (St W0 F Lh) fuel (listed.setIfInBounds k true) (GR N ((d, undef) :: R) W0 F L)) : GA Tryz.prog ops Q (St W0 F Lh) (fuel + 1) listed (GR N R W0 F L) :=
  k_untold k hk hm hQ hw hd hN (fun _ h => h.pick is hp) h
end
end Go.Proofs.YtjdmdpjbijkjaaaGreat

namespace Go.Proofs.YtjdmdpjbijkjaaaGreat
open Go Go.RowKit
def s4C (s : Nat → Int) : List Value := [.int .u64 (s 0), .int .u64 (s 1), .int .u64 (s 2), .int .u64 (s 3)]
theorem s4_get (s : Nat → Int) (k : Nat) (h : k < 4) : (s4C s)[k]? = some (.int .u64 (s k)) := by
  match k, h with
  | 0, _ => rfl
  | 1, _ => rfl
  | 2, _ => rfl
  | 3, _ => rfl
def upd (s : Nat → Int) (i : Nat) (v : Int) : Nat → Int := fun k => if k = i then v else s k
theorem s4_set (s : Nat → Int) (i : Nat) (v : Int) (h : i < 4) : (s4C s).set i (.int .u64 v) = s4C (upd s i v) := by
  match i, h with
  | 0, _ => rfl
  | 1, _ => rfl
  | 2, _ => rfl
  | 3, _ => rfl
def s0 : Nat → Int := fun _ => 0
def orB (x : Int) (n : Nat) : Int := IntKind.u64.wrap ((BitVec.ofInt 64 x ||| BitVec.ofInt 64 (2 ^ n : Int)).toNat : Int)
def addS (s : Nat → Int) (c : Nat) : Nat → Int := upd s (c / 64) (orB (s (c / 64)) (c % 64))
def withS (s : Nat → Int) (lo : Nat) : Nat → Nat → Int
  | 0 => s
  | m + 1 => addS (withS s lo m) (lo + m)
section
variable {P : Program} {N : Nat} {R : Regs} {S : World → Prop}
variable {dst : Option Tmp} {ty t t' : TypeId} {pos : String} {af : Array Edge} {gd : Option (Nat × Bool)} {x y : Operand} {k k' : IntKind} {a b : Int}
theorem y_shr (hx : ev R x = some (.int k a)) (hy : ev R y = some (.int k' b)) (hb : 0 ≤ b) : Yv P N R S ⟨dst, .binOp .shr t x y t', ty, pos, af, gd⟩ (.int k (a.fdiv (2 ^ min b.toNat k.bits))) := y_bin hx hy fun w => by
  simp [eqGuard, binOp, Op.shift, Int.not_lt.2 hb]
theorem y_shl (hx : ev R x = some (.int k a)) (hy : ev R y = some (.int k' b)) (hb : 0 ≤ b) : Yv P N R S ⟨dst, .binOp .shl t x y t', ty, pos, af, gd⟩ (.int k (k.wrap (a * 2 ^ min b.toNat k.bits))) := y_bin hx hy fun w => by
  simp [eqGuard, binOp, Op.shift, Int.not_lt.2 hb]
theorem y_and (hx : ev R x = some (.int k a)) (hy : ev R y = some (.int k b)) : Yv P N R S ⟨dst, .binOp .and t x y t', ty, pos, af, gd⟩ (.int k (k.wrap ((BitVec.ofInt k.bits a &&& BitVec.ofInt k.bits b).toNat : Int))) := y_bin hx hy fun w => by
  simp [eqGuard, binOp, Op.intBits]
theorem y_or (hx : ev R x = some (.int k a)) (hy : ev R y = some (.int k b)) : Yv P N R S ⟨dst, .binOp .or t x y t', ty, pos, af, gd⟩ (.int k (k.wrap ((BitVec.ofInt k.bits a ||| BitVec.ofInt k.bits b).toNat : Int))) := y_bin hx hy fun w => by
  simp [eqGuard, binOp, Op.intBits]
theorem y_val {o : Oper} {v u : Value} (h : Yv P N R S o v) (e : v = u) : Yv P N R S o u := e ▸ h
theorem shr6 : ∀ c : Fin 256, ((c.val : Int)).fdiv (2 ^ min (6 : Int).toNat IntKind.i64.bits) = ((c.val / 64 : Nat) : Int) := by decide +kernel
theorem and63 : ∀ c : Fin 256, IntKind.i64.wrap ((BitVec.ofInt IntKind.i64.bits (c.val : Int) &&& BitVec.ofInt IntKind.i64.bits 63).toNat : Int) = ((c.val % 64 : Nat) : Int) := by decide +kernel
theorem shl1 : ∀ n : Fin 64, IntKind.u64.wrap (1 * 2 ^ min (n.val : Int).toNat IntKind.u64.bits) = (2 ^ n.val : Int) := by decide +kernel
theorem quo64 (c : Nat) : ((c : Int)).tdiv 64 = ((c / 64 : Nat) : Int) := rfl
theorem rem64 (c : Nat) : ((c : Int)).tmod 64 = ((c % 64 : Nat) : Int) := rfl
theorem u64_small : ∀ n : Fin 64, IntKind.u64.wrap (n.val : Int) = (n.val : Int) := by decide +kernel
theorem y_shr6 {c : Nat} (h : c < 256) (hx : ev R x = some (.int .i64 (c : Int))) : Yv P N R S ⟨dst, .binOp .shr t x (.const (.int .u64 6)) t', ty, pos, af, gd⟩ (.int .i64 ((c / 64 : Nat) : Int)) := y_val (y_shr hx rfl (by decide)) (by rw [shr6 ⟨c, h⟩])
theorem y_and63 {c : Nat} (h : c < 256) (hx : ev R x = some (.int .i64 (c : Int))) : Yv P N R S ⟨dst, .binOp .and t x (.const (.int .i64 63)) t', ty, pos, af, gd⟩ (.int .i64 ((c % 64 : Nat) : Int)) := y_val (y_and hx rfl) (by rw [and63 ⟨c, h⟩])
theorem y_shl1 {n : Nat} {k : IntKind} (h : n < 64) (hy : ev R y = some (.int k (n : Int))) : Yv P N R S ⟨dst, .binOp .shl t (.const (.int .u64 1)) y t', ty, pos, af, gd⟩ (.int .u64 (2 ^ n)) := y_val (y_shl rfl hy (by omega)) (by rw [shl1 ⟨n, h⟩])
theorem y_orB {a : Int} {n : Nat} (hx : ev R x = some (.int .u64 a)) (hy : ev R y = some (.int .u64 (2 ^ n))) : Yv P N R S ⟨dst, .binOp .or t x y t', ty, pos, af, gd⟩ (.int .u64 (orB a n)) := y_or hx hy
theorem g_stV {Q : Exit → Act → World → Prop} {ops : Array Oper} {rest : List Oper} {W0 : World} {F : List Nat} {L : List Ent} {b off : Nat} {cs : List Value} {v : Value} (i : Nat) (hw : want ops R ⟨none, .store t x y, ty, pos, af, gd⟩ = some true) (hx : ev R x = some (.pointer (some ⟨b, off, none⟩))) (hy : ev R y = some v) (hz : ∀ w, (sizeOf t).run P w = .ok 1 w) (h1 : v.oneCell' = true)
    (hi : L[i]? = some (.cells b t' cs)) (hl : off < cs.length) (h : G N R (St W0 F (L.set i (.cells b t' (cs.set off v)))) (wpList P ops Q rest)) : G N R (St W0 F L) (wpList P ops Q (⟨none, .store t x y, ty, pos, af, gd⟩ :: rest)) :=
  g_st i hw hx hy hz h1 hi (Nat.ble_eq_true_of_le hl) h
end
set_option maxRecDepth 100000 in
theorem cwith_any (s : Nat → Int) (lo hi : Nat) (hlo : lo ≤ 255) (hhi : hi ≤ 255) (w : World) :
    Calls Tryz.prog 38 #[.agg (s4C s).toArray, .int .u8 (lo : Int), .int .u8 (hi : Int)] w fun e w' => e = .returned (.agg (s4C (withS s lo (hi + 1 - lo))).toArray) ∧ Below w.heap.size w w' := by
 refine fn_intro Tryz.func38 rfl Tryz.ntmps38 rfl rfl (s_ (o_ ?_));refine g_box rfl rfl rfl rfl (fun b1 => (g_alloc rfl rfl Tryz.zeroValue28 rfl (fun b2 => ?_)));refine n_ (t_ (s_ (s_ (o_ (xg 3 [] rfl (by omega) ?_)))));refine n_ (t_ (g_block (g_loop (α := {x : Nat // x ≤ hi + 1 - lo}) (fun x => [(2, .int .u8 (hi : Int)), (3, .pointer (some ⟨b1, 0, none⟩)), (6, .pointer (some ⟨b2, 0, none⟩)), (7, .int .i64 ((lo + x.1 : Nat) : Int))]) (fun x => St w [] [.cells b2 28 (s4C s0), .cells b1 28 (s4C (withS s lo x.1))]) (fun x => hi + 1 - lo - x.1) ⟨0, Nat.zero_le _⟩ [2, 3, 6, 7] rfl (zpk [0,0] rfl) ?_)));rintro ⟨m, hm⟩;dsimp only;refine s_ (s_ (o_ (xg 4 [0] rfl (by omega) ?_)));refine n_ (t_ (g_casep 13 rfl (fun h1 => ?_) fun h1 => ?_))
 ·refine g_cond_t rfl (g_skip (t_ (s_ (g_block (k_go [] rfl (by kernel_rfl) (fun _ _ _ _ _ h => h) fun hQ => ?_)))));refine k_x 0 [] [] hQ (by kernel_rfl) rfl rfl rfl rfl rfl rfl (k_take 1 rfl (by kernel_rfl) hQ rfl rfl rfl (zpk [] rfl) (y_shr6 (c := lo + m) (by omega) rfl) ?_);refine k_take 2 rfl (by kernel_rfl) hQ rfl rfl rfl (zpk [] rfl) (y_idxArr (m := (lo + m) / 64) rfl rfl Tryz.underlying28 Tryz.sizeOf26 (by omega) (by omega) (by omega)) (k_x 4 [] [] hQ (by kernel_rfl) rfl rfl rfl rfl rfl rfl ?_);refine k_take 5 rfl (by kernel_rfl) hQ rfl rfl rfl (zpk [] rfl) (y_and63 (c := lo + m) (by omega) rfl) (k_take 6 rfl (by kernel_rfl) hQ rfl rfl rfl (zpk [] rfl) (y_shl1 (n := (lo + m) % 64) (by omega) rfl) ?_);refine k_one 3 (by kernel_rfl) (k_op 3 rfl ?_);refine g_val (v := .int .u64 (withS s lo m ((lo + m) / 64))) rfl rfl rfl (y_ld (off := (lo + m) / 64) 1 rfl Tryz.isAgg26 rfl (s4_get _ _ (by omega))) (n_ ?_);refine k_end (zpk [] rfl) (k_take 7 rfl (by kernel_rfl) hQ rfl rfl rfl (zpk [] rfl) (y_orB (n := (lo + m) % 64) rfl rfl) ?_);refine k_take 8 rfl (by kernel_rfl) hQ rfl rfl rfl (zpk [] rfl) (y_idxArr (m := (lo + m) / 64) rfl rfl Tryz.underlying28 Tryz.sizeOf26 (by omega) (by omega) (by omega)) (k_one 9 (by kernel_rfl) ?_);refine k_op 9 rfl (g_stV 1 rfl rfl rfl Tryz.sizeOf26 rfl rfl (show (lo + m) / 64 < 4 by omega) ?_);simp only [zs0,zs1];rw [s4_set _ _ _ (show (lo + m) / 64 < 4 by omega)];refine n_ (k_end (zpk [] rfl) ?_);refine k_done (by kernel_rfl) (g_in_normal (t_ (o_ ?_)));refine xg 3 [] rfl (by omega) (n_ ?_);exact g_again ⟨m + 1, by omega⟩ [2, 3, 6, 7] (by dsimp only; omega) rfl (zpk [0,0] rfl)
 refine g_cond_f rfl (g_exit (g_then_exit (g_then_exit (g_in_exit (t_ (s_ (o_ (xg 1 [1] rfl (by omega) ?_))))))));refine g_stN 0 rfl rfl rfl (by kernel_rfl) rfl rfl rfl rfl ?_;simp only [zs0];refine n_ (t_ (g_ret (g_end_cell 0 Tryz.results38 rfl rfl Tryz.isAgg28 Tryz.sizeOf28 rfl ?_)));have hmm : m = hi + 1 - lo := by omega
 subst hmm;exact fun w hS => ⟨rfl, hS.below⟩
theorem cwith_m (s : Nat → Int) (lo hi : Nat) (hlo : lo ≤ 255) (hhi : hi ≤ 255) : Meets Tryz.prog (fun _ => True) 38 [.agg (s4C s).toArray, .int .u8 (lo : Int), .int .u8 (hi : Int)] (fun _ : Unit => .agg (s4C (withS s lo (hi + 1 - lo))).toArray) [] (fun _ => []) := meets1 Tryz.call38 (fun w hI => cwith_any s lo hi hlo hhi w)
set_option maxRecDepth 100000 in
theorem radd_any (s : Nat → Int) (c : Nat) (hc : c ≤ 255) (w : World) :
    Calls Tryz.prog 92 #[.agg (s4C s).toArray, .int .i64 (c : Int)] w fun e w' => e = .returned (.agg (s4C (addS s c)).toArray) ∧ Below w.heap.size w w' := by
 refine fn_intro Tryz.func92 rfl Tryz.ntmps92 rfl rfl (s_ (o_ ?_));refine g_box rfl rfl rfl rfl (fun b1 => (g_alloc rfl rfl Tryz.zeroValue28 rfl (fun b2 => ?_)));refine ntso_ (xg 1 [] rfl rfl ?_);refine g_val (v := .int .i64 ((c / 64 : Nat) : Int)) rfl rfl rfl (y_val (y_iquo rfl rfl (by decide)) (by rw [quo64 c, wrap_in (by omega)])) (xg 1 [] rfl rfl ?_);refine g_val (v := .int .i64 ((c / 64 : Nat) : Int)) rfl rfl rfl (y_val (y_iquo rfl rfl (by decide)) (by rw [quo64 c, wrap_in (by omega)])) (g_val rfl rfl rfl (y_idxArr (m := c / 64) rfl rfl Tryz.underlying28 Tryz.sizeOf26 (by omega) (by omega) (by omega)) ?_);refine g_val (v := .int .u64 (s (c / 64))) rfl rfl rfl (y_ld (off := c / 64) 1 rfl Tryz.isAgg26 rfl (s4_get _ _ (by omega))) (xg 1 [] rfl rfl ?_);refine g_val (v := .int .i64 ((c % 64 : Nat) : Int)) rfl rfl rfl (y_val (y_irem rfl rfl (by decide)) (by rw [rem64 c])) (g_val (v := .int .u64 ((c % 64 : Nat) : Int)) rfl rfl rfl (y_val (y_toInt rfl Tryz.underlying3 Tryz.underlying132) (by rw [u64_small ⟨c % 64, by omega⟩])) ?_);refine g_val (v := .int .u64 (2 ^ (c % 64))) rfl rfl rfl (y_shl1 (n := c % 64) (by omega) rfl) (g_val (v := .int .u64 (orB (s (c / 64)) (c % 64))) rfl rfl rfl (y_orB rfl rfl) ?_);refine g_val rfl rfl rfl (y_idxArr (m := c / 64) rfl rfl Tryz.underlying28 Tryz.sizeOf26 (by omega) (by omega) (by omega)) (g_stV 1 rfl rfl rfl Tryz.sizeOf26 rfl rfl (show c / 64 < 4 by omega) ?_);simp only [zs0,zs1];rw [s4_set _ _ _ (show c / 64 < 4 by omega)];refine ntso_ (xg 1 [1] rfl (by omega) ?_);refine g_stN 0 rfl rfl rfl (by kernel_rfl) rfl rfl rfl rfl ?_;simp only [zs0];refine n_ (t_ (g_ret (g_end_cell 0 Tryz.results92 rfl rfl Tryz.isAgg28 Tryz.sizeOf28 rfl ?_)));exact fun w hS => ⟨rfl, hS.below⟩
set_option maxRecDepth 100000 in
theorem rwith_any (s : Nat → Int) (lo hi : Nat) (hlo : lo ≤ 255) (hhi : hi ≤ 255) (w : World) :
    Calls Tryz.prog 56 #[.agg (s4C s).toArray, .int .u8 (lo : Int), .int .u8 (hi : Int)] w fun e w' => e = .returned (.agg (s4C (withS s lo (hi + 1 - lo))).toArray) ∧ Below w.heap.size w w' := by
 refine fn_intro Tryz.func56 rfl Tryz.ntmps56 rfl rfl (s_ (o_ ?_));refine g_box rfl rfl rfl rfl (fun b1 => (g_alloc rfl rfl Tryz.zeroValue28 rfl (fun b2 => ?_)));refine n_ (t_ (s_ (s_ (o_ (xg 3 [] rfl (by omega) ?_)))));refine n_ (t_ (g_block (g_loop (α := {x : Nat // x ≤ hi + 1 - lo}) (fun x => [(2, .int .u8 (hi : Int)), (3, .pointer (some ⟨b1, 0, none⟩)), (6, .pointer (some ⟨b2, 0, none⟩)), (7, .int .i64 ((lo + x.1 : Nat) : Int))]) (fun x => St w [] [.cells b2 28 (s4C s0), .cells b1 28 (s4C (withS s lo x.1))]) (fun x => hi + 1 - lo - x.1) ⟨0, Nat.zero_le _⟩ [2, 3, 6, 7] rfl (zpk [0,0] rfl) ?_)));rintro ⟨m, hm⟩;dsimp only;refine s_ (s_ (o_ (xg 4 [0] rfl (by omega) ?_)));refine n_ (t_ (g_casep 13 rfl (fun h1 => ?_) fun h1 => ?_))
 ·refine g_cond_t rfl (g_skip (t_ (s_ (g_block (o_ (xg 2 [1] rfl (by omega) ?_))))));refine g_call1 rfl rfl rfl Tryz.call92 (fun w hS => radd_any (withS s lo m) (lo + m) (by omega) w) (xg 1 [1] rfl (by omega) ?_);refine n_ (g_in_normal (t_ (o_ (xg 3 [] rfl (by omega) ?_))));refine n_ ?_;exact g_again ⟨m + 1, by omega⟩ [2, 3, 6, 7] (by dsimp only; omega) rfl (zpk [0,0] rfl)
 refine g_cond_f rfl (g_exit (g_then_exit (g_then_exit (g_in_exit (t_ (s_ (o_ (xg 1 [1] rfl (by omega) ?_))))))));refine g_stN 0 rfl rfl rfl (by kernel_rfl) rfl rfl rfl rfl ?_;simp only [zs0];refine n_ (t_ (g_ret (g_end_cell 0 Tryz.results56 rfl rfl Tryz.isAgg28 Tryz.sizeOf28 rfl ?_)));have hmm : m = hi + 1 - lo := by omega
 subst hmm;exact fun w hS => ⟨rfl, hS.below⟩
end Go.Proofs.YtjdmdpjbijkjaaaGreat

namespace Go.Proofs.YtjdmdpjbijkjaaaGreat
open Go.ChangeShapes Go.WideShapes Go.ChangeAt Go.RowKit
section
variable {H : Type} {enc : TypeId × Value → H} {P : Program}
end
end Go.Proofs.YtjdmdpjbijkjaaaGreat

namespace Go.Proofs.YtjdmdpjbijkjaaaGreat
open Go Go.RowKit
structure Tok where
  k : Int
  s : Nat → Int
  mi : Int
  ma : Int
def tC (t : Tok) : List Value := [.int .i64 t.k, .int .u64 (t.s 0), .int .u64 (t.s 1), .int .u64 (t.s 2), .int .u64 (t.s 3), .int .i64 t.mi, .int .i64 t.ma]
theorem tC_len (t : Tok) : (tC t).length = 7 := rfl
theorem fm_get {α : Type} (f : α → List Value) (sz : Nat) (hf : ∀ a, (f a).length = sz) (l : List α) (i j : Nat) (a : α) (hi : l[i]? = some a) (hj : j < sz) : (l.flatMap f)[i * sz + j]? = (f a)[j]? := by
  induction l generalizing i with
  | nil => simp at hi
  | cons b l ih =>
    rw [List.flatMap_cons];cases i with
    | zero =>
      simp only [List.getElem?_cons_zero, Option.some.injEq] at hi;subst hi;rw [Nat.zero_mul, Nat.zero_add, List.getElem?_append_left (by rw [hf]; exact hj)]
    | succ i =>
      rw [List.getElem?_cons_succ] at hi;rw [List.getElem?_append_right (by rw [hf, Nat.succ_mul]; omega), hf, show (i + 1) * sz + j - sz = i * sz + j by rw [Nat.succ_mul]; omega];exact ih i hi
theorem fm_len {α : Type} (f : α → List Value) (sz : Nat) (hf : ∀ a, (f a).length = sz) (l : List α) : (l.flatMap f).length = l.length * sz := by
  induction l with
  | nil => simp
  | cons a l ih => rw [List.flatMap_cons, List.length_append, hf, ih, List.length_cons, Nat.succ_mul]; omega
theorem g_appS {P : Program} {N : Nat} {R : Regs} {Q : Exit → Act → World → Prop} {ops : Array Oper} {rest : List Oper} {W0 : World} {F : List Nat} {L : List Ent} {ty e : TypeId} {pos : String} {af : Array Edge} {gd : Option (Nat × Bool)} {x y : Operand} {α : Type} (f : α → List Value) {d : Nat} {tt : TypeId} {size bytes cap : Nat} {v : Value} {cs : List α} {b j : Nat} {t' : TypeId} (c : α) (i : Nat)
    (hw : want ops R ⟨some d, .call { callee := .builtin .append, args := #[x, y], argTypes := #[tt, tt] }, ty, pos, af, gd⟩ = some true) (hN : Nat.blt d N = true)
    (hx : ev R x = some v) (hy : ev R y = some (.slice (some ⟨b, 0, none⟩) 1 cap)) (ht : P.underlying tt = some (.slice e)) (he : elemInfo P e = some (size, bytes))
    (hi : L[i]? = some (.row e size v cs.length (cs.flatMap f))) (hj : L[j]? = some (.cells b t' (f c))) (hl : ∀ a, (f a).length = size) (h1 : (f c).all (·.oneCell') = true)
    (hb : (cs.length + 1) * bytes ≤ 140737488355328) (h63 : cs.length + 1 ≤ maxLen)
    (h : ∀ v', G N ((d, v') :: R) (St W0 F (L.set i (.row e size v' (cs ++ [c]).length ((cs ++ [c]).flatMap f)))) (wpList P ops Q rest)) :
    G N R (St W0 F L) (wpList P ops Q (⟨some d, .call { callee := .builtin .append, args := #[x, y], argTypes := #[tt, tt] }, ty, pos, af, gd⟩ :: rest)) := by
  refine g_append (n := cs.length) (m := 1) (xs := cs.flatMap f) (news := f c) i hw hN hx hy ht he hi (by rw [hl]; omega) (news_of_cells hj) h1 hb h63 fun v' => ?_;have e1 : (cs ++ [c]).length = cs.length + 1 := by simp
  have e2 : (cs ++ [c]).flatMap f = cs.flatMap f ++ f c := by simp
  have := h v';rwa [e1, e2] at this
def st8 (l : List UInt8) : Value := .string ⟨l.toArray⟩
theorem st8_nil (c : UInt8) (l : List UInt8) : ¬ ((⟨(c :: l).toArray⟩ : ByteArray) = ⟨#[]⟩) := fun h => by
  have := congrArg (fun b : ByteArray => b.data.size) h;simp at this
theorem st8_0 (c : UInt8) (l : List UInt8) : (⟨(c :: l).toArray⟩ : ByteArray)[0]? = some c := rfl
theorem st8_1 (c : UInt8) (l : List UInt8) : (⟨(c :: l).toArray⟩ : ByteArray).extract 1 (⟨(c :: l).toArray⟩ : ByteArray).size = ⟨l.toArray⟩ := by
  apply ByteArray.ext
  rw [ByteArray.data_extract];apply Array.ext'
  rw [Array.toList_extract];show ((c :: l).drop 1).take ((c :: l).toArray.size - 1) = l
  simp
theorem st8_get {l : List UInt8} {i : Nat} (h : i < l.length) : ∃ c, l[i]? = some c ∧ (⟨l.toArray⟩ : ByteArray)[i]? = some c := by
  refine ⟨l[i], List.getElem?_eq_getElem h, ?_⟩;rw [getElem?_pos _ _ (by rw [size_mk]; exact h)];rfl
def litT (c : UInt8) : Tok := ⟨0, withS s0 c.toNat 1, 0, 0⟩
def kT (k : Int) : Tok := ⟨k, s0, 0, 0⟩
def startsT (ts : List Tok) : Bool := match ts.getLast? with
  | none => true
  | some t => decide (t.k = 1 ∨ t.k = 3)
def begunT (ts : List Tok) : Bool := match ts.getLast? with
  | none => false
  | some t => decide (t.k = 5)
theorem last_get {ts : List Tok} (i : Nat) (h : i + 1 = ts.length) : ∃ t, ts[i]? = some t ∧ ts.getLast? = some t := by
  refine ⟨ts[i]'(by omega), List.getElem?_eq_getElem (by omega), ?_⟩;rw [List.getLast?_eq_getElem?, show ts.length - 1 = i by omega, List.getElem?_eq_getElem (show i < ts.length by omega)]
theorem last_none {ts : List Tok} (h : ts.length = 0) : ts.getLast? = none := by rw [List.length_eq_zero_iff.1 h]; rfl
theorem St.mine {W0 w : World} {F : List Nat} {L : List Ent} (h : St W0 F L w) : St w (L.flatMap Ent.fp) L w := St.start L (fun e he => h.ok e he) h.apart
theorem g_callAll {P : Program} {N : Nat} {R : Regs} {Q : Exit → Act → World → Prop} {ops : Array Oper} {rest : List Oper} {W0 : World} {F : List Nat} {L : List Ent} {ty : TypeId} {pos : String} {af : Array Edge} {gd : Option (Nat × Bool)} {α : Type} {d : Nat} {f : FuncId} {xs : List Operand} {ats : Array TypeId} {vs : List Value} (r : α → Value) (L1 : α → List Ent)
    (hw : want ops R ⟨some d, .call { callee := .value (.func f), args := xs.toArray, argTypes := ats }, ty, pos, af, gd⟩ = some true) (hN : Nat.blt d N = true)
    (hx : xs.mapM (ev R) = some vs) (hf : ∀ args w, (callFunc f args).run P w = .ok (.enter f args) w)
    (hc : ∀ w F', St w F' L w → Calls P f vs.toArray w (fun e w' => ∃ x, e = .returned (r x) ∧ St w F' (L1 x) w'))
    (h : ∀ x, G N ((d, r x) :: R) (St W0 F (L1 x)) (wpList P ops Q rest)) : G N R (St W0 F L) (wpList P ops Q (⟨some d, .call { callee := .value (.func f), args := xs.toArray, argTypes := ats }, ty, pos, af, gd⟩ :: rest)) :=
  g_call r (fun x => St W0 F (L1 x)) hw hN hx hf (fun w hS => (hc w _ hS.mine).mono fun _ _ ⟨x, he, hb⟩ => ⟨x, he, by
    have := St.join (Lr := []) (by simpa using hS) (fun k hk => by obtain ⟨e, he, hk⟩ := List.mem_flatMap.1 hk; exact ⟨e, he, hk⟩) hb;simpa using this⟩) h
set_option maxRecDepth 100000 in
theorem put_any (b : Nat) (r e0 d v : Value) (ts : List Tok) (t : Tok) (F : List Nat) (w : World) (hts : ts.length ≤ 1000) (hS0 : St w F [.cells b 73 [r, e0, v, d], .row 91 7 v ts.length (ts.flatMap tC)] w) :
    Calls Tryz.prog 37 #[.pointer (some ⟨b, 0, none⟩), .agg (tC t).toArray] w fun e w' => ∃ v' : Value, e = .returned (.tuple #[]) ∧ St w F [.cells b 73 [r, e0, v', d], .row 91 7 v' (ts ++ [t]).length ((ts ++ [t]).flatMap tC)] w' := by
 refine fn_intro_own Tryz.func37 rfl Tryz.ntmps37 rfl rfl hS0 (s_ (o_ ?_));refine g_box rfl rfl rfl rfl (fun b1 => (n_ (t_ ?_)));refine k_go [0] rfl (by kernel_rfl) (fun _ _ _ _ _ h => h) fun hQ => (k_x 0 [0] [] hQ (by kernel_rfl) rfl rfl rfl rfl rfl rfl ?_);refine k_x 1 [0] [] hQ (by kernel_rfl) rfl rfl rfl rfl rfl rfl (k_x 2 [0] [] hQ (by kernel_rfl) rfl rfl rfl rfl rfl rfl ?_);refine k_x 3 [0] [] hQ (by kernel_rfl) rfl rfl rfl rfl rfl rfl (k_xc 5 [0] [0] hQ (by kernel_rfl) rfl rfl rfl rfl rfl rfl (by omega) ?_);refine k_all [4,6] (by kernel_rfl) (by simp) ⟨?_, ?_, trivial⟩
 ·refine k_op 4 rfl (xg 1 [1] rfl (by omega) ?_);refine n_ (k_end (zpk [0] rfl) ?_);refine k_one 6 (by kernel_rfl) (k_op 6 rfl ?_);refine g_buildSlice (offs := [0]) rfl rfl Tryz.underlying71 rfl Tryz.zeroValue91 (by kernel_rfl) (fun b2 => (n_ ?_));refine k_end (zpk [1] rfl) (k_one 7 (by kernel_rfl) ?_);refine k_op 7 rfl (g_appS (bytes := 56) tC (t) 3 (j := 0) rfl rfl rfl rfl Tryz.underlying71 (by kernel_rfl) rfl rfl tC_len rfl (by omega) (by have : maxLen = 9223372036854775807 := rfl; omega) (fun v3 => ?_));simp only [zs0,zs1];refine n_ (k_end (zpk [1] rfl) ?_);refine k_x 8 [1] [] hQ (by kernel_rfl) rfl rfl rfl rfl rfl rfl (k_x 9 [1] [] hQ (by kernel_rfl) rfl rfl rfl rfl rfl rfl ?_);refine k_one 10 (by kernel_rfl) (k_op 10 rfl ?_);refine g_rowLen 3 rfl (fun pr1 cr1 hv1 => ?_);cases hv1;refine g_st 2 rfl rfl rfl Tryz.sizeOf71 rfl rfl rfl ?_;simp only [zs0,zs1];refine n_ (k_end (zpk [1] rfl) ?_);refine k_done (by kernel_rfl) (g_end_normal ?_);refine g_end0 Tryz.results37 ?_;exact fun w hS => ⟨_, rfl, hS.pick [2,2] rfl⟩
 refine k_op 6 rfl (g_buildSlice (offs := [0]) rfl rfl Tryz.underlying71 rfl Tryz.zeroValue91 (by kernel_rfl) (fun b4 => ?_));refine n_ (k_end (zpk [1] rfl) ?_);refine k_one 4 (by kernel_rfl) (k_op 4 rfl ?_);refine xg 1 [2] rfl (by omega) (n_ ?_);refine k_end (zpk [1] rfl) (k_one 7 (by kernel_rfl) ?_);refine k_op 7 rfl (g_appS (bytes := 56) tC (t) 3 (j := 0) rfl rfl rfl rfl Tryz.underlying71 (by kernel_rfl) rfl rfl tC_len rfl (by omega) (by have : maxLen = 9223372036854775807 := rfl; omega) (fun v5 => ?_));simp only [zs0,zs1];refine n_ (k_end (zpk [1] rfl) ?_);refine k_x 8 [1] [] hQ (by kernel_rfl) rfl rfl rfl rfl rfl rfl (k_x 9 [1] [] hQ (by kernel_rfl) rfl rfl rfl rfl rfl rfl ?_);refine k_one 10 (by kernel_rfl) (k_op 10 rfl ?_);refine g_rowLen 3 rfl (fun pr2 cr2 hv2 => ?_);cases hv2;refine g_st 2 rfl rfl rfl Tryz.sizeOf71 rfl rfl rfl ?_;simp only [zs0,zs1];refine n_ (k_end (zpk [1] rfl) ?_);refine k_done (by kernel_rfl) (g_end_normal ?_);refine g_end0 Tryz.results37 ?_;exact fun w hS => ⟨_, rfl, hS.pick [2,2] rfl⟩
set_option maxRecDepth 100000 in
theorem literal_any (b : Nat) (r e0 d v : Value) (ts : List Tok) (c : UInt8) (F : List Nat) (w : World) (hts : ts.length ≤ 1000) (hS0 : St w F [.cells b 73 [r, e0, v, d], .row 91 7 v ts.length (ts.flatMap tC)] w) :
    Calls Tryz.prog 42 #[.pointer (some ⟨b, 0, none⟩), .int .u8 (c.toNat : Int)] w fun e w' => ∃ v' : Value, e = .returned (.tuple #[]) ∧ St w F [.cells b 73 [r, e0, v', d], .row 91 7 v' (ts ++ [litT c]).length ((ts ++ [litT c]).flatMap tC)] w' := by
 have hcl := c.toNat_lt;refine fn_intro_own Tryz.func42 rfl Tryz.ntmps42 rfl rfl hS0 (o_ ?_);refine xg 4 [] rfl rfl (g_call1 rfl rfl rfl Tryz.call38 (fun w hS => (by have := cwith_any s0 c.toNat c.toNat (by omega) (by omega) w; rwa [show c.toNat + 1 - c.toNat = 1 by omega] at this)) ?_);refine xg 1 [] rfl rfl (g_callAll (fun _ : Value => .tuple #[]) (fun v' => [.cells b 73 [r, e0, v', d], .row 91 7 v' (ts ++ [(litT c)]).length ((ts ++ [(litT c)]).flatMap tC)]) rfl rfl rfl Tryz.call37 (fun w F' hS => put_any b r e0 d v ts (litT c) F' w (by first | omega | (simp only [List.length_append, List.length_singleton]; omega)) hS) (fun vq => ?_));refine n_ (g_end_normal (g_end0 Tryz.results42 ?_));exact fun w hS => ⟨_, rfl, hS.pick [0,0] rfl⟩
set_option maxRecDepth 100000 in
theorem starts_any (b : Nat) (r e0 d v : Value) (ts : List Tok) (F : List Nat) (w : World) (hts : ts.length ≤ 1000) (hS0 : St w F [.cells b 73 [r, e0, v, d], .row 91 7 v ts.length (ts.flatMap tC)] w) :
    Calls Tryz.prog 40 #[.pointer (some ⟨b, 0, none⟩)] w fun e w' => ∃ _ : Unit, e = .returned (.bool (startsT ts)) ∧ St w F [.cells b 73 [r, e0, v, d], .row 91 7 v ts.length (ts.flatMap tC)] w' := by
 refine fn_intro_own Tryz.func40 rfl Tryz.ntmps40 rfl rfl hS0 (s_ (o_ ?_));refine xg 1 [] rfl rfl (ntso_ ?_);refine xg 4 [0] rfl (by omega) (g_rowLen 1 rfl (fun pr1 cr1 hv1 => ?_));cases hv1;refine g_val rfl rfl rfl (y_llen rfl Tryz.underlying71) (xg 1 [] rfl rfl ?_);refine ntso_ (xg 3 [0] rfl rfl ?_);refine g_casep 11 rfl (fun h2 => ?_) fun h2 => ?_
 ·refine xg 24 [] rfl rfl (n_ (t_ (g_ret ?_)));refine g_end1 Tryz.results40 rfl ?_;exact fun w hS => ⟨(), ret_bool (by unfold startsT; rw [last_none (by omega)]), hS.pick [0,0] rfl⟩
 refine xg 5 [0] rfl (by omega) ?_;obtain ⟨tk, htk, hlk⟩ := last_get (ts := ts) (ts.length - 1) (by omega);refine g_val rfl rfl rfl (y_subi rfl rfl (by omega)) (g_rowCase 1 rfl (by omega) (fun gr3 cr3 hv3 => ?_));cases hv3;refine g_val rfl rfl rfl (y_idxAddr (m := (ts.length - 1) * 7 + 0) rfl rfl Tryz.underlying71 Tryz.sizeOf91 (by omega) (by omega) (by omega)) (xg 1 [] rfl rfl ?_);refine g_val rfl rfl rfl (y_ldR (u := .int .i64 tk.k) 1 rfl Tryz.isAgg3 rfl ((fm_get tC 7 tC_len _ (ts.length - 1) 0 _ (htk) (by decide)).trans rfl)) (xg 3 [0] rfl rfl ?_);refine g_casep 23 rfl (fun h4 => ?_) fun h4 => ?_
 ·refine xg 12 [] rfl rfl (n_ (t_ (g_ret ?_)));refine g_end1 Tryz.results40 rfl ?_;exact fun w hS => ⟨(), ret_bool (by unfold startsT; first | (rw [hlk]; done) | (rw [hlk]; dsimp only; exact (decide_eq_true (by omega)).symm)), hS.pick [0,0] rfl⟩
 refine xg 5 [0] rfl (by omega) (g_val rfl rfl rfl (y_subi rfl rfl (by omega)) ?_);refine g_val rfl rfl rfl (y_idxAddr (m := (ts.length - 1) * 7 + 0) rfl rfl Tryz.underlying71 Tryz.sizeOf91 (by omega) (by omega) (by omega)) (xg 1 [] rfl rfl ?_);refine g_val rfl rfl rfl (y_ldR (u := .int .i64 tk.k) 1 rfl Tryz.isAgg3 rfl ((fm_get tC 7 tC_len _ (ts.length - 1) 0 _ (htk) (by decide)).trans rfl)) (xg 3 [0] rfl rfl ?_);refine n_ (t_ (g_ret (g_end1 Tryz.results40 rfl ?_)));exact fun w hS => ⟨(), ret_bool (by unfold startsT; first | (rw [hlk]; done) | (rw [hlk]; dsimp only; exact decide_eq_decide.2 (by omega))), hS.pick [0,0] rfl⟩
set_option maxRecDepth 100000 in
theorem begun_any (b : Nat) (r e0 d v : Value) (ts : List Tok) (F : List Nat) (w : World) (hts : ts.length ≤ 1000) (hS0 : St w F [.cells b 73 [r, e0, v, d], .row 91 7 v ts.length (ts.flatMap tC)] w) :
    Calls Tryz.prog 41 #[.pointer (some ⟨b, 0, none⟩)] w fun e w' => ∃ _ : Unit, e = .returned (.bool (begunT ts)) ∧ St w F [.cells b 73 [r, e0, v, d], .row 91 7 v ts.length (ts.flatMap tC)] w' := by
 refine fn_intro_own Tryz.func41 rfl Tryz.ntmps41 rfl rfl hS0 (s_ (o_ ?_));refine xg 1 [] rfl rfl (ntso_ ?_);refine xg 4 [0] rfl (by omega) (g_rowLen 1 rfl (fun pr1 cr1 hv1 => ?_));cases hv1;refine g_val rfl rfl rfl (y_llen rfl Tryz.underlying71) (xg 1 [] rfl rfl ?_);refine ntso_ (xg 3 [0] rfl rfl ?_);refine g_casep 11 rfl (fun h2 => ?_) fun h2 => ?_
 ·refine xg 5 [0] rfl (by omega) ?_;obtain ⟨tk, htk, hlk⟩ := last_get (ts := ts) (ts.length - 1) (by omega);refine g_val rfl rfl rfl (y_subi rfl rfl (by omega)) (g_rowCase 1 rfl (by omega) (fun gr3 cr3 hv3 => ?_));cases hv3;refine g_val rfl rfl rfl (y_idxAddr (m := (ts.length - 1) * 7 + 0) rfl rfl Tryz.underlying71 Tryz.sizeOf91 (by omega) (by omega) (by omega)) (xg 1 [] rfl rfl ?_);refine g_val rfl rfl rfl (y_ldR (u := .int .i64 tk.k) 1 rfl Tryz.isAgg3 rfl ((fm_get tC 7 tC_len _ (ts.length - 1) 0 _ (htk) (by decide)).trans rfl)) (xg 3 [0] rfl rfl ?_);refine n_ (t_ (g_ret (g_end1 Tryz.results41 rfl ?_)));exact fun w hS => ⟨(), ret_bool (by unfold begunT; first | (rw [hlk]; done) | (rw [hlk]; dsimp only; exact decide_eq_decide.2 (by omega))), hS.pick [0,0] rfl⟩
 refine xg 12 [] rfl rfl (n_ (t_ (g_ret ?_)));refine g_end1 Tryz.results41 rfl ?_;exact fun w hS => ⟨(), ret_bool (by unfold begunT; rw [last_none (by omega)]), hS.pick [0,0] rfl⟩
end Go.Proofs.YtjdmdpjbijkjaaaGreat

namespace Go.Proofs.YtjdmdpjbijkjaaaGreat
open Go Go.RowKit
def okC (c : UInt8) : Prop := c.toNat ≠ 92 ∧ c.toNat ≠ 91 ∧ c.toNat ≠ 94 ∧ c.toNat ≠ 36 ∧ c.toNat ≠ 123
def dotT : Tok := ⟨0, withS s0 0 256, 0, 0⟩
def timesT (a b : Int) : Tok := ⟨4, s0, a, b⟩
def tokB (c : UInt8) (ts : List Tok) (d : Int) : List Tok × Int :=
  if (c.toNat : Int) = 46 then (ts ++ [dotT], d) else if (c.toNat : Int) = 42 ∧ (startsT ts || begunT ts) = true then (ts ++ [litT c], d) else if (c.toNat : Int) = 42 then (ts ++ [timesT 0 (-1)], d) else (ts ++ [litT c], d)
def tokE (c : UInt8) (ts : List Tok) (d : Int) : List Tok × Int :=
  if (c.toNat : Int) = 46 then (ts ++ [dotT], d) else if (c.toNat : Int) = 42 then (ts ++ [timesT 0 (-1)], d) else if (c.toNat : Int) = 43 then (ts ++ [timesT 1 (-1)], d) else if (c.toNat : Int) = 63 then (ts ++ [timesT 0 1], d) else
  if (c.toNat : Int) = 40 then (ts ++ [kT 1], d + 1) else if (c.toNat : Int) = 41 then (ts ++ [kT 2], d - 1) else if (c.toNat : Int) = 124 then (ts ++ [kT 3], d) else (ts ++ [litT c], d)
def tokF (f : UInt8 → List Tok → Int → List Tok × Int) : List UInt8 → List Tok → Int → Option (List Tok)
  | [], ts, d => if d = 0 then some ts else none
  | c :: l, ts, d => if (f c ts d).2 < 0 then none else tokF f l (f c ts d).1 (f c ts d).2
end Go.Proofs.YtjdmdpjbijkjaaaGreat

namespace Go.Proofs.YtjdmdpjbijkjaaaGreat
open Go Go.RowKit
inductive MT where
  | mk (k : Int) (s : Nat → Int) (mi ma nu : Int) (v : Value) (kids : List MT)
def MT.v : MT → Value
  | .mk _ _ _ _ _ v _ => v
def MT.kids : MT → List MT
  | .mk _ _ _ _ _ _ kids => kids
def nC : MT → List Value
  | .mk k s mi ma nu v _ => [.int .i64 k, .int .u64 (s 0), .int .u64 (s 1), .int .u64 (s 2), .int .u64 (s 3), .int .i64 mi, .int .i64 ma, .int .i64 nu, v]
theorem nC_len (t : MT) : (nC t).length = 9 := by cases t; rfl
mutual
def MT.fp : MT → List Nat
  | .mk _ _ _ _ _ v kids => v.ownBlock.toList ++ fpL kids
def fpL : List MT → List Nat
  | [] => []
  | t :: ts => t.fp ++ fpL ts
end
mutual
def MT.ok (w : World) : MT → Prop
  | .mk _ _ _ _ _ v kids => w.ownsRow 0 31 9 v kids.length (kids.flatMap nC) ∧ okL w kids
def okL (w : World) : List MT → Prop
  | [] => True
  | t :: ts => t.ok w ∧ okL w ts
end
mutual
theorem MT.stable {w w' : World} : ∀ (t : MT), (∀ k, k ∈ t.fp → w'.heap[k]? = w.heap[k]?) → t.ok w → t.ok w'
  | .mk k s mi ma nu v kids, hk, h => by
    unfold MT.ok at h ⊢
    unfold MT.fp at hk
    exact ⟨ownsRow_stable (fun k hk' => hk k (List.mem_append_left _ hk')) h.1, okL_stable kids (fun k hk' => hk k (List.mem_append_right _ hk')) h.2⟩
theorem okL_stable {w w' : World} : ∀ (ts : List MT), (∀ k, k ∈ fpL ts → w'.heap[k]? = w.heap[k]?) → okL w ts → okL w' ts
  | [], _, _ => by unfold okL; trivial
  | t :: ts, hk, h => by
    unfold okL at h ⊢
    unfold fpL at hk
    exact ⟨MT.stable t (fun k hk' => hk k (List.mem_append_left _ hk')) h.1, okL_stable ts (fun k hk' => hk k (List.mem_append_right _ hk')) h.2⟩
end
mutual
theorem MT.inb {w : World} : ∀ (t : MT), t.ok w → ∀ k, k ∈ t.fp → k < w.heap.size
  | .mk k s mi ma nu v kids, h, q, hq => by
    unfold MT.ok at h
    unfold MT.fp at hq
    rcases List.mem_append.1 hq with hq | hq
    · exact (h.1.lt q (by simpa using hq)).2
    · exact okL_inb kids h.2 q hq
theorem okL_inb {w : World} : ∀ (ts : List MT), okL w ts → ∀ k, k ∈ fpL ts → k < w.heap.size
  | [], _, q, hq => by unfold fpL at hq; cases hq
  | t :: ts, h, q, hq => by
    unfold okL at h
    unfold fpL at hq
    rcases List.mem_append.1 hq with hq | hq
    · exact MT.inb t h.1 q hq
    · exact okL_inb ts h.2 q hq
end
theorem okL_cons {w : World} {t : MT} {ts : List MT} : okL w (t :: ts) ↔ t.ok w ∧ okL w ts := by rw [okL]
theorem ok_mk {w : World} {k : Int} {s : Nat → Int} {mi ma nu : Int} {v : Value} {ms : List MT} : (MT.mk k s mi ma nu v ms).ok w ↔ w.ownsRow 0 31 9 v ms.length (ms.flatMap nC) ∧ okL w ms := by rw [MT.ok]
theorem fpL_cons {t : MT} {ts : List MT} : fpL (t :: ts) = t.fp ++ fpL ts := by rw [fpL]
theorem fp_mk {k : Int} {s : Nat → Int} {mi ma nu : Int} {v : Value} {ms : List MT} : (MT.mk k s mi ma nu v ms).fp = v.ownBlock.toList ++ fpL ms := by rw [MT.fp]
theorem okL_nil {w : World} : okL w [] := by rw [okL]; trivial
theorem fpL_nil : fpL [] = [] := by rw [fpL]
def Ent.forest (ts : List MT) : Ent := .own { fp := fpL ts, holds := fun w => okL w ts, stable := fun w w' hk h => okL_stable ts hk h, inb := fun w h => okL_inb ts h }
theorem fpL_append (a b : List MT) : fpL (a ++ b) = fpL a ++ fpL b := by
  induction a with
  | nil => simp [fpL]
  | cons t a ih => simp only [List.cons_append, fpL, ih, List.append_assoc]
theorem okL_append {w : World} (a b : List MT) : okL w (a ++ b) ↔ okL w a ∧ okL w b := by
  induction a with
  | nil => simp [okL]
  | cons t a ih => simp only [List.cons_append, okL, ih, and_assoc]
section
variable {W0 w : World} {F : List Nat} {L Lr : List Ent} {e1 e2 e : Ent}
theorem St.merge (h : St W0 F (e1 :: e2 :: Lr) w) (hh : e1.holds w → e2.holds w → e.holds w) (hf : ∀ k, k ∈ e.fp → k ∈ e1.fp ∨ k ∈ e2.fp) : St W0 F (e :: Lr) w := by
  have h1 := h.ok e1 (by simp);have h2 := h.ok e2 (by simp);obtain ⟨a1, a2⟩ := List.pairwise_cons.1 h.apart;obtain ⟨b1, b2⟩ := List.pairwise_cons.1 a2;refine ⟨h.os, h.tape, h.output, h.size, h.keep, fun x hx => ?_, fun x hx k hk => ?_, List.pairwise_cons.2 ⟨fun y hy k hk hk' => ?_, b2⟩⟩
  · rcases List.mem_cons.1 hx with rfl | hx
    · exact hh h1 h2
    · exact h.ok x (by simp [hx])
  · rcases List.mem_cons.1 hx with rfl | hx
    · rcases hf k hk with q | q
      · exact h.own e1 (by simp) k q
      · exact h.own e2 (by simp) k q
    · exact h.own x (by simp [hx]) k hk
  · rcases hf k hk with q | q
    · exact a1 y (by simp [hy]) k q hk'
    · exact b1 y hy k q hk'
theorem St.nil (h : St W0 F L w) : St W0 F (.forest [] :: L) w :=
  ⟨h.os, h.tape, h.output, h.size, h.keep, fun x hx => (List.mem_cons.1 hx).elim (fun q => by subst q; exact (by show okL w []; unfold okL; trivial)) (h.ok x), fun x hx k hk => (List.mem_cons.1 hx).elim (fun q => by subst q; cases (show k ∈ fpL [] from hk)) (fun q => h.own x q k hk),
    List.pairwise_cons.2 ⟨fun y _ k hk => (by cases (show k ∈ fpL [] from hk)), h.apart⟩⟩
end
section
variable {P : Program} {N : Nat} {R : Regs} {W0 : World} {F : List Nat} {L L' Lr : List Ent} {X : Act → World → Prop} {e1 e2 : Ent}
theorem g_perm (hp : L.Perm L') (h : G N R (St W0 F L') X) : G N R (St W0 F L) X := h.weaken fun _ hS => hS.perm hp
theorem g_merge (e : Ent) (hh : ∀ w, e1.holds w → e2.holds w → e.holds w) (hf : ∀ k, k ∈ e.fp → k ∈ e1.fp ∨ k ∈ e2.fp) (h : G N R (St W0 F (e :: Lr)) X) : G N R (St W0 F (e1 :: e2 :: Lr)) X := h.weaken fun w hS => hS.merge (hh w) hf
theorem g_forest0 (h : G N R (St W0 F (.forest [] :: L)) X) : G N R (St W0 F L) X := h.weaken fun _ hS => hS.nil
theorem g_node (k : Int) (s : Nat → Int) (mi ma nu : Int) {v : Value} {n : Nat} {ms : List MT} (hn : n = ms.length) (h : G N R (St W0 F (.forest [.mk k s mi ma nu v ms] :: Lr)) X) : G N R (St W0 F (.row 31 9 v n (ms.flatMap nC) :: .forest ms :: Lr)) X := by
  subst hn;refine g_merge (.forest [.mk k s mi ma nu v ms]) (fun w h1 h2 => ?_) (fun q hq => ?_) h
  · exact okL_cons.2 ⟨ok_mk.2 ⟨h1, h2⟩, okL_nil⟩
  · have hq' : q ∈ fpL [.mk k s mi ma nu v ms] := hq;rw [fpL_cons, fp_mk, fpL_nil, List.append_nil] at hq';exact List.mem_append.1 hq'
theorem g_leaf (k : Int) (s : Nat → Int) (mi ma nu : Int) (h : G N R (St W0 F (.forest [.mk k s mi ma nu (.slice none 0 0) []] :: L)) X) : G N R (St W0 F L) X := by
  refine g_nilRow 31 9 (g_perm (L' := .row 31 9 (.slice none 0 0) 0 (([] : List MT).flatMap nC) :: L) (.refl _) ?_);exact g_forest0 (g_perm (.swap _ _ _) (g_node k s mi ma nu rfl h))
theorem g_kids {k : Int} {s : Nat → Int} {mi ma nu : Int} {v : Value} {kids ts : List MT} (i : Nat) (hi : L[i]? = some (.forest (.mk k s mi ma nu v kids :: ts))) (h : ∀ p c, v = .slice p kids.length c → G N R (St W0 F L) X) : G N R (St W0 F L) X := fun a w hR hS => by
  have ho : okL w (.mk k s mi ma nu v kids :: ts) := hS.get hi;obtain ⟨_, ⟨h1, h2⟩ | ⟨g, cap, cur, h1, _⟩⟩ := (ok_mk.1 (okL_cons.1 ho).1).1
  · exact h none 0 (by rw [h1, h2]) a w hR hS
  · exact h _ cap h1 a w hR hS
theorem g_grow {a b : List MT} (h : G N R (St W0 F (.forest (a ++ b) :: Lr)) X) : G N R (St W0 F (.forest a :: .forest b :: Lr)) X :=
  g_merge (.forest (a ++ b)) (fun _ h1 h2 => (okL_append a b).2 ⟨h1, h2⟩) (fun q hq => by
    have hq' : q ∈ fpL (a ++ b) := hq;rw [fpL_append] at hq';exact List.mem_append.1 hq') h
end
end Go.Proofs.YtjdmdpjbijkjaaaGreat

namespace Go.Proofs.YtjdmdpjbijkjaaaGreat
open Go Go.RowKit
def isK (ts : List Tok) (k : Nat) (q : Int) : Bool := match ts[k]? with
  | none => false
  | some t => decide (t.k = q)
abbrev nilS : Value := .slice none 0 0
mutual
inductive RAll (ts : List Tok) : Nat → Int → Bool → MT → Nat → Int → Bool → Prop
  | one {k g b t k1 g1 b1 r k2 g2 b2} : RRow ts k g b t k1 g1 b1 → RBars ts k1 g1 b1 [t] [r] k2 g2 b2 → RAll ts k g b r k2 g2 b2
  | many {k g b t k1 g1 b1 rows v k2 g2 b2} : RRow ts k g b t k1 g1 b1 → RBars ts k1 g1 b1 [t] rows k2 g2 b2 → rows.length ≠ 1 → RAll ts k g b (.mk 3 s0 0 0 0 v rows) k2 g2 b2
inductive RBars (ts : List Tok) : Nat → Int → Bool → List MT → List MT → Nat → Int → Bool → Prop
  | stop {k g b rows} : (b = true ∨ isK ts k 3 = false) → RBars ts k g b rows rows k g b
  | more {k g t k1 g1 b1 rows rows' k2 g2 b2} : isK ts k 3 = true → RRow ts (k + 1) g false t k1 g1 b1 → RBars ts k1 g1 b1 (rows ++ [t]) rows' k2 g2 b2 → RBars ts k g false rows rows' k2 g2 b2
inductive RRow (ts : List Tok) : Nat → Int → Bool → MT → Nat → Int → Bool → Prop
  | one {k g b t k1 g1 b1} : RPcs ts k g b [] [t] k1 g1 b1 → RRow ts k g b t k1 g1 b1
  | many {k g b ms v k1 g1 b1} : RPcs ts k g b [] ms k1 g1 b1 → ms.length ≠ 1 → RRow ts k g b (.mk 2 s0 0 0 0 v ms) k1 g1 (b1 || decide (ms.length = 0))
inductive RPcs (ts : List Tok) : Nat → Int → Bool → List MT → List MT → Nat → Int → Bool → Prop
  | stop {k g b ms} : (ts.length ≤ k ∨ b = true ∨ isK ts k 3 = true ∨ isK ts k 2 = true) → RPcs ts k g b ms ms k g b
  | anchor {k g t q ms ms' k2 g2 b2} : ts[k]? = some t → (t.k = 5 ∧ q = 6 ∨ t.k = 6 ∧ q = 7) → RPcs ts (k + 1) g false (ms ++ [.mk q s0 0 0 0 nilS []]) ms' k2 g2 b2 → RPcs ts k g false ms ms' k2 g2 b2
  | piece {k g n k1 g1 b1 ms ms' k2 g2 b2} : isK ts k 3 = false → isK ts k 2 = false → RPiece ts k g n k1 g1 b1 → RPcs ts k1 g1 b1 (ms ++ [n]) ms' k2 g2 b2 → RPcs ts k g false ms ms' k2 g2 b2
inductive RPiece (ts : List Tok) : Nat → Int → MT → Nat → Int → Bool → Prop
  | plain {k g n k1 g1 b1} : RAtom ts k g n k1 g1 b1 → isK ts k1 4 = false → RPiece ts k g n k1 g1 b1
  | rep {k g n k1 g1 b1 u v} : RAtom ts k g n k1 g1 b1 → ts[k1]? = some u → u.k = 4 → RPiece ts k g (.mk 4 s0 u.mi u.ma 0 v [n]) (k1 + 1) g1 b1
inductive RAtom (ts : List Tok) : Nat → Int → MT → Nat → Int → Bool → Prop
  | set {k g t} : ts[k]? = some t → t.k = 0 → RAtom ts k g (.mk 1 t.s 0 0 0 nilS []) (k + 1) g false
  | times {k g t} : ts[k]? = some t → t.k = 4 → RAtom ts k g (.mk 0 s0 0 0 0 nilS []) (k + 1) g true
  | group {k g t n k1 g1 b1} : ts[k]? = some t → t.k ≠ 5 → t.k ≠ 6 → t.k ≠ 4 → t.k ≠ 0 → RGrp ts (k + 1) g n k1 g1 b1 → RAtom ts k g n k1 g1 b1
inductive RGrp (ts : List Tok) : Nat → Int → MT → Nat → Int → Bool → Prop
  | full {k g} : 9 < g + 1 → RGrp ts k g (.mk 5 s0 0 0 (g + 1) nilS []) k (g + 1) true
  | gone {k g t k1 g1 b1 v} : g + 1 ≤ 9 → RAll ts k (g + 1) false t k1 g1 b1 → isK ts k1 2 = false → RGrp ts k g (.mk 5 s0 0 0 (g + 1) v [t]) k1 g1 true
  | shut {k g t k1 g1 b1 v} : g + 1 ≤ 9 → RAll ts k (g + 1) false t k1 g1 b1 → isK ts k1 2 = true → RGrp ts k g (.mk 5 s0 0 0 (g + 1) v [t]) (k1 + 1) g1 b1
end
def Pos (ts : List Tok) (k off c : Nat) : Prop := k ≤ ts.length ∧ (k < ts.length → off = k * 7) ∧ ts.length - k ≤ c
theorem fm_elem {α : Type} (f : α → List Value) (sz : Nat) (hf : ∀ a, (f a).length = sz) (l : List α) (i : Nat) (a : α) (hi : l[i]? = some a) : ((l.flatMap f).drop (i * sz)).take sz = f a := by
  induction l generalizing i with
  | nil => simp at hi
  | cons b l ih =>
    rw [List.flatMap_cons];cases i with
    | zero =>
      simp only [List.getElem?_cons_zero, Option.some.injEq] at hi;subst hi;rw [Nat.zero_mul, List.drop_zero, ← hf b, List.take_left]
    | succ i =>
      rw [List.getElem?_cons_succ] at hi;rw [show (i + 1) * sz = (f b).length + i * sz by rw [hf, Nat.succ_mul]; omega, ← List.drop_drop, List.drop_left];exact ih i hi
theorem tok_at (ts : List Tok) (k : Nat) (h : k < ts.length) : ∃ t, ts[k]? = some t := ⟨ts[k], List.getElem?_eq_getElem h⟩
theorem isK_of {ts : List Tok} {k : Nat} {t : Tok} {q : Int} (h : ts[k]? = some t) : isK ts k q = decide (t.k = q) := by unfold isK; rw [h]
theorem isK_end {ts : List Tok} {k : Nat} {q : Int} (h : ts.length ≤ k) : isK ts k q = false := by unfold isK; rw [List.getElem?_eq_none h]
theorem pos_next {ts : List Tok} {k off c : Nat} (h : Pos ts k off c) (hk : k < ts.length) : Pos ts (k + 1) (if c = 1 then off else off + 7) (c - 1) := by
  obtain ⟨h1, h2, h3⟩ := h;have := h2 hk;refine ⟨by omega, fun h => ?_, by omega⟩;rw [if_neg (by omega)]; omega
theorem y_lfrom {P : Program} {N : Nat} {R : Regs} {S : World → Prop} {dst : Option Tmp} {ty t e : TypeId} {pos : String} {af : Array Edge} {gd : Option (Nat × Bool)} {x : Operand} {g off n c sz : Nat} (hz : ∀ w, (sizeOf e).run P w = .ok sz w) (hx : ev R x = some (.slice (some ⟨g, off, none⟩) n c)) (ht : P.underlying t = some (.slice e)) (h1 : 1 ≤ n) (h2 : n ≤ c) :
    Yv P N R S ⟨dst, .slice t x (some (.const (.int .i64 1))) none none, ty, pos, af, gd⟩ (.slice (some ⟨g, if c = 1 then off else off + sz, none⟩) (n - 1) (c - 1)) := fun a' w hR _ => by
  have hb : (0 : Int) ≤ 1 ∧ (1 : Int) ≤ n := ⟨by decide, by exact_mod_cast h1⟩;have hr : (Instr.sliceBound (.int .i64 1) n .sliceB).run P w = .ok 1 w := by simp [Instr.sliceBound, asIntOf, hb.2]
  have he : a'.eval (.const (.int .i64 1)) = .int .i64 1 := rfl;by_cases hc : c = 1
  · simp [execOp, hR.eval hx, he, Instr.sliceAt, Instr.slice, Instr.sliceBounds, Sem.run_bind, run_underlying ht w, hr, hz, hc]
  · by_cases hs : sz = 0 <;> simp [execOp, hR.eval hx, he, Instr.sliceAt, Instr.slice, Instr.sliceBounds, Sem.run_bind, run_underlying ht w, hr, hz, Addr.add, hc, hs]
set_option maxRecDepth 100000 in
theorem is_any (pb gb c0 k off c : Nat) (ts : List Tok) (gv bv : Value) (q : Int) (F : List Nat) (w : World) (hpos : Pos ts k off c) (hS0 : St w F [.cells pb 76 [.slice (some ⟨gb, off, none⟩) (ts.length - k) c, gv, bv], .row 91 7 (.slice (some ⟨gb, 0, none⟩) ts.length c0) ts.length (ts.flatMap tC)] w) :
    Calls Tryz.prog 45 #[.pointer (some ⟨pb, 0, none⟩), .int .i64 q] w fun e w' => ∃ _ : Unit, e = .returned (.bool (isK ts k q)) ∧ St w F [.cells pb 76 [.slice (some ⟨gb, off, none⟩) (ts.length - k) c, gv, bv], .row 91 7 (.slice (some ⟨gb, 0, none⟩) ts.length c0) ts.length (ts.flatMap tC)] w' := by
 refine fn_intro_own Tryz.func45 rfl Tryz.ntmps45 rfl rfl hS0 (s_ (o_ ?_));refine xg 1 [] rfl rfl (ntso_ ?_);refine xg 7 [0,0] rfl (by omega) (g_casep 11 rfl (fun h1 => ?_) fun h1 => ?_)
 ·refine xg 4 [0] rfl (by omega) ?_;obtain ⟨tk, htk⟩ := tok_at ts k (by omega);have hoff := hpos.2.1 (by omega);refine g_val rfl rfl rfl (y_idxAddr (m := k * 7 + 0) rfl rfl Tryz.underlying71 Tryz.sizeOf91 (by omega) (by omega) (by omega)) (xg 1 [] rfl rfl ?_);refine g_val rfl rfl rfl (y_ldR (u := .int .i64 tk.k) 1 rfl Tryz.isAgg3 rfl ((fm_get tC 7 tC_len _ k 0 _ (htk) (by decide)).trans rfl)) (xg 4 [0] rfl rfl ?_);refine n_ (t_ (g_ret (g_end1 Tryz.results45 rfl ?_)));exact fun w hS => ⟨(), ret_bool (isK_of htk).symm, hS.pick [0,0] rfl⟩
 refine xg 11 [] rfl rfl (n_ (t_ (g_ret ?_)));refine g_end1 Tryz.results45 rfl ?_;exact fun w hS => ⟨(), ret_bool (isK_end (by omega)).symm, hS.pick [0,0] rfl⟩
set_option maxRecDepth 100000 in
theorem take_any (pb gb c0 k off c : Nat) (ts : List Tok) (gv bv : Value) (hk : k < ts.length) (F : List Nat) (w : World) (hpos : Pos ts k off c) (hS0 : St w F [.cells pb 76 [.slice (some ⟨gb, off, none⟩) (ts.length - k) c, gv, bv], .row 91 7 (.slice (some ⟨gb, 0, none⟩) ts.length c0) ts.length (ts.flatMap tC)] w) :
    Calls Tryz.prog 46 #[.pointer (some ⟨pb, 0, none⟩)] w fun e w' => ∃ x : {x : Tok × Nat × Nat // ts[k]? = some x.1 ∧ Pos ts (k + 1) x.2.1 x.2.2}, e = .returned (.agg (tC x.1.1).toArray) ∧ St w F [.cells pb 76 [.slice (some ⟨gb, x.1.2.1, none⟩) (ts.length - (k + 1)) x.1.2.2, gv, bv], .row 91 7 (.slice (some ⟨gb, 0, none⟩) ts.length c0) ts.length (ts.flatMap tC)] w' := by
 refine fn_intro_own Tryz.func46 rfl Tryz.ntmps46 rfl rfl hS0 (s_ (o_ ?_));refine g_alloc rfl rfl Tryz.zeroValue91 rfl (fun b1 => (ntso_ ?_));refine xg 4 [1] rfl (by omega) ?_;obtain ⟨tk, htk⟩ := tok_at ts k (by omega);have hoff := hpos.2.1 (by omega);refine g_val rfl rfl rfl (y_idxAddr (m := k * 7 + 0) rfl rfl Tryz.underlying71 Tryz.sizeOf91 (by omega) (by omega) (by omega)) (g_val rfl rfl rfl (y_ldRN (k := 7) (vs := tC tk) 2 rfl Tryz.isAgg91 Tryz.sizeOf91 rfl (fm_elem tC 7 tC_len _ k _ (htk)) (tC_len _)) ?_);refine g_alloc rfl rfl Tryz.zeroValue91 rfl (fun b2 => (xg 1 [0] rfl (by omega) ?_));refine ntso_ (xg 5 [2] rfl (by omega) ?_);refine g_val rfl rfl rfl (y_lfrom Tryz.sizeOf91 rfl Tryz.underlying71 (by omega) (by have := hpos.2.2; omega)) (xg 3 [2] rfl (by omega) ?_);refine ntso_ (xg 2 [0,1] rfl (by omega) ?_);refine n_ (t_ (g_ret (g_end_cell 1 Tryz.results46 rfl rfl Tryz.isAgg91 Tryz.sizeOf91 rfl ?_)));exact fun w hS => ⟨⟨(tk, if c = 1 then off else off + 7, c - 1), htk, pos_next hpos hk⟩, rfl, by have := hS.pick [2,2] rfl; exact this⟩
end Go.Proofs.YtjdmdpjbijkjaaaGreat

