/-
  A small logic for walks: registers as a list, memory as a list of blocks that are owned.
-/
import Derived.WalkKit
import Derived.Below
import Derived.Deep.Quiet
import Derived.Deep.MidRow
import Derived.Laws.Rows
import Derived.Laws.OwnMore
import Derived.ScopeJumps
import Derived.KernelRfl
namespace Go.Proofs.YtkjhjgokaeiopaaGreatDoor
open Go Go.RowKit

theorem ret_bool {a b : Bool} (h : a = b) : Ending.returned (.bool a) = .returned (.bool b) := by rw [h]
theorem ret_int {k : IntKind} {a b : Int} (h : a = b) : Ending.returned (.int k a) = .returned (.int k b) := by rw [h]
theorem ret_bool2 {a b c d : Bool} (h : a = b) (h' : c = d) : Ending.returned (.tuple #[.bool a, .bool c]) = .returned (.tuple #[.bool b, .bool d]) := by rw [h, h']

/-! ### Registers -/
abbrev Regs := List (Nat × Value)

structure Rf (N : Nat) (R : Regs) (a : Act) : Prop where
  size : a.tmps.size = N
  defers : a.defers = []
  get : ∀ i v, R.lookup i = some v → a.tmps[i]? = some v

def ev (R : Regs) : Operand → Option Value
  | .tmp i => R.lookup i
  | .const v => some v
  | .global g => some (.pointer (some ⟨g, 0, none⟩))
  | .func f => some (.func (.func f) #[] #[])

section
variable {N : Nat} {R R' : Regs} {a : Act} {v : Value} {d : Nat}

theorem Rf.eval (h : Rf N R a) {x : Operand} (hx : ev R x = some v) : a.eval x = v := by
  cases x with
  | tmp i =>
    have := h.get i v hx
    simp [Act.eval, this]
  | const u => simp only [ev, Option.some.injEq] at hx; exact hx
  | global g => simpa [ev, Act.eval] using hx
  | func f => simpa [ev, Act.eval] using hx

theorem Rf.put (h : Rf N R a) (hd : Nat.blt d N = true) : Rf N ((d, v) :: R) (a.put (some d) v) := by
  have hd' : d < N := Nat.le_of_ble_eq_true hd
  refine ⟨by simp [Act.put, h.size], h.defers, fun i u hi => ?_⟩
  simp only [Act.put]
  rw [List.lookup_cons] at hi
  by_cases e : i = d
  · subst e
    simp at hi
    subst hi
    simp [h.size, hd']
  · have e' : (i == d) = false := by simpa using e
    simp only [e'] at hi
    rw [Array.getElem?_setIfInBounds_ne (fun q => e q.symm)]
    exact h.get i u hi

theorem Rf.put0 (h : Rf N R a) : Rf N R (a.put none v) := h

theorem Rf.sub (h : Rf N R a) (hs : ∀ i v, R'.lookup i = some v → R.lookup i = some v) : Rf N R' a :=
  ⟨h.size, h.defers, fun i v hi => h.get i v (hs i v hi)⟩

/-- The registers ks alone. -/
def Regs.only (R : Regs) : List Nat → Regs
  | [] => []
  | k :: ks => match R.lookup k with
    | some v => (k, v) :: Regs.only R ks
    | none => Regs.only R ks

theorem Rf.only (h : Rf N R a) (ks : List Nat) : Rf N (R.only ks) a := by
  refine h.sub fun i v hi => ?_
  induction ks with
  | nil => simp [Regs.only] at hi
  | cons k ks ih =>
    unfold Regs.only at hi
    cases hk : R.lookup k with
    | none => rw [hk] at hi; exact ih hi
    | some u =>
      rw [hk] at hi
      simp only [List.lookup_cons] at hi
      by_cases e : i = k
      · subst e
        simp at hi
        rw [hk, hi]
      · have e' : (i == k) = false := by simpa using e
        rw [e'] at hi
        exact ih hi
end

/-! ### Blocks that are owned -/
structure Ent0 where
  fp : List Nat
  holds : World → Prop
  stable : ∀ w w' : World, (∀ k, k ∈ fp → w'.heap[k]? = w.heap[k]?) → holds w → holds w'
  inb : ∀ w, holds w → ∀ k, k ∈ fp → k < w.heap.size

theorem lt_of_some {w : World} {b : Nat} {o : Obj} (h : w.heap[b]? = some o) : b < w.heap.size := by
  by_cases hlt : b < w.heap.size
  · exact hlt
  · have hn : w.heap[b]? = none := by simp; omega
    rw [hn] at h; cases h
theorem ownsRow_stable {w w' : World} {e : TypeId} {size : Nat} {v : Value} {n : Nat} {xs : List Value} (hk : ∀ k, k ∈ v.ownBlock.toList → w'.heap[k]? = w.heap[k]?) (h : w.ownsRow 0 e size v n xs) : w'.ownsRow 0 e size v n xs := by
  obtain ⟨h1, h2⟩ := h
  refine ⟨h1, ?_⟩
  rcases h2 with h2 | ⟨g, cap, cur, hv, hg, hh, r⟩
  · exact .inl h2
  · refine .inr ⟨g, cap, cur, hv, hg, ?_, r⟩
    rw [hk g (by simp [hv, Value.ownBlock])]
    exact hh

/-- cells: block b is a row of just these cells; row: v is a slice of n elements of type e (each of 'size' cells), whose cells are xs: nobody else's. -/
inductive Ent where
  | cells (b : Nat) (t : TypeId) (cs : List Value)
  | row (e : TypeId) (size : Nat) (v : Value) (n : Nat) (xs : List Value)
  | own (x : Ent0)
def Ent.fp : Ent → List Nat
  | .cells b _ _ => [b]
  | .row _ _ v _ _ => v.ownBlock.toList
  | .own x => x.fp
def Ent.holds : Ent → World → Prop
  | .cells b t cs, w => w.heap[b]? = some (.cells cs.toArray t (0, 0))
  | .row e size v n xs, w => w.ownsRow 0 e size v n xs
  | .own x, w => x.holds w
theorem Ent.stable (e : Ent) (w w' : World) (hk : ∀ k, k ∈ e.fp → w'.heap[k]? = w.heap[k]?) (h : e.holds w) : e.holds w' := by
  cases e with
  | cells b t cs => show w'.heap[b]? = _; rw [hk b (by simp [Ent.fp])]; exact h
  | row e size v n xs => exact ownsRow_stable hk h
  | own x => exact x.stable w w' hk h
theorem Ent.inb (e : Ent) (w : World) (h : e.holds w) (k : Nat) (hk : k ∈ e.fp) : k < w.heap.size := by
  cases e with
  | cells b t cs => simp [Ent.fp] at hk; subst hk; exact lt_of_some h
  | row e size v n xs =>
    have h' : w.ownsRow 0 e size v n xs := h
    exact (h'.lt k (by simpa [Ent.fp] using hk)).2
  | own x => exact x.inb w h k hk

structure St (W0 : World) (F : List Nat) (L : List Ent) (w : World) : Prop where
  os : w.os = W0.os
  tape : w.tape = W0.tape
  output : w.output = W0.output
  size : W0.heap.size ≤ w.heap.size
  keep : ∀ k, k < W0.heap.size → k ∉ F → w.heap[k]? = W0.heap[k]?
  ok : ∀ e, e ∈ L → e.holds w
  own : ∀ e, e ∈ L → ∀ k, k ∈ e.fp → W0.heap.size ≤ k ∨ k ∈ F
  apart : L.Pairwise fun x y => ∀ k, k ∈ x.fp → k ∉ y.fp

section
variable {W0 w w' : World} {F : List Nat} {L L' : List Ent}

theorem St.refl (w : World) : St w [] [] w := ⟨rfl, rfl, rfl, Nat.le_refl _, fun _ _ _ => rfl, by simp, by simp, List.Pairwise.nil⟩
theorem St.below (h : St W0 [] L w) : Below W0.heap.size W0 w := ⟨h.os, h.tape, h.output, h.size, fun k hk => h.keep k hk (by simp)⟩
theorem St.of_below (h : Below W0.heap.size W0 w) : St W0 [] [] w := ⟨h.os, h.tape, h.output, h.size, fun k hk _ => h.block k hk, by simp, by simp, List.Pairwise.nil⟩

theorem St.get (h : St W0 F L w) {i : Nat} {e : Ent} (hi : L[i]? = some e) : e.holds w := h.ok e (List.mem_of_getElem? hi)
theorem St.cells (h : St W0 F L w) {i b : Nat} {t : TypeId} {cs : List Value} (hi : L[i]? = some (.cells b t cs)) : w.heap[b]? = some (.cells cs.toArray t (0, 0)) := h.get hi

theorem St.drew (h : St W0 F L w) : St W0 F L { w with drawn := w.drawn + 1 } :=
  ⟨h.os, h.tape, h.output, h.size, h.keep, fun e he => e.stable w _ (fun _ _ => rfl) (h.ok e he), h.own, h.apart⟩

/-- Fewer are owned. -/
theorem St.sub (h : St W0 F L w) (hs : L'.Sublist L) : St W0 F L' w :=
  ⟨h.os, h.tape, h.output, h.size, h.keep, fun e he => h.ok e (hs.subset he), fun e he => h.own e (hs.subset he), h.apart.sublist hs⟩

theorem pairwise_apart_perm (hp : L.Perm L') (h : L.Pairwise fun x y : Ent => ∀ k, k ∈ x.fp → k ∉ y.fp) : L'.Pairwise fun x y => ∀ k, k ∈ x.fp → k ∉ y.fp :=
  hp.pairwise h (fun hxy k hk hk' => hxy k hk' hk)
theorem St.perm (h : St W0 F L w) (hp : L.Perm L') : St W0 F L' w :=
  ⟨h.os, h.tape, h.output, h.size, h.keep, fun e he => h.ok e (hp.mem_iff.2 he), fun e he => h.own e (hp.mem_iff.2 he), pairwise_apart_perm hp h.apart⟩

/-- A new block. -/
theorem St.new (h : St W0 F L w) (t : TypeId) (cs : List Value) : St W0 F (.cells w.heap.size t cs :: L) (w.alloc (.cells cs.toArray t)) := by
  have hold : ∀ k, k < w.heap.size → (w.alloc (.cells cs.toArray t)).heap[k]? = w.heap[k]? := fun k hk => Below.heap_alloc _ _ _ hk
  refine ⟨h.os, h.tape, h.output, ?_, fun k hk hF => ?_, fun e he => ?_, fun e he k hk => ?_, ?_⟩
  · have := h.size; simp; omega
  · rw [hold k (by have := h.size; omega)]; exact h.keep k hk hF
  · rcases List.mem_cons.1 he with rfl | he
    · exact heap_alloc_new _ _
    · exact e.stable w _ (fun k hk => hold k (e.inb w (h.ok e he) k hk)) (h.ok e he)
  · rcases List.mem_cons.1 he with rfl | he
    · simp [Ent.fp] at hk; subst hk; exact .inl h.size
    · exact h.own e he k hk
  · refine List.pairwise_cons.2 ⟨fun y hy k hk hk' => ?_, h.apart⟩
    simp [Ent.fp] at hk; subst hk
    exact Nat.lt_irrefl _ (y.inb w (h.ok y hy) _ hk')

/-- What is owned is written: one entry's blocks turn. -/
theorem St.write (h : St W0 F L w) {i : Nat} {e e' : Ent} (hi : L[i]? = some e) (hos : w'.os = w.os) (htape : w'.tape = w.tape) (hout : w'.output = w.output) (hsize : w.heap.size ≤ w'.heap.size)
    (hk : ∀ k, k < w.heap.size → k ∉ e.fp → w'.heap[k]? = w.heap[k]?) (hh : e'.holds w') (hfp : ∀ k, k ∈ e'.fp → k ∈ e.fp ∨ w.heap.size ≤ k) : St W0 F (L.set i e') w' := by
  have hmem : e ∈ L := List.mem_of_getElem? hi
  have hilt : i < L.length := (List.getElem?_eq_some_iff.1 hi).1
  have hie : L[i] = e := (List.getElem?_eq_some_iff.1 hi).2
  have hapart : ∀ y, ∀ j, j < L.length → j ≠ i → L[j]? = some y → ∀ k, k ∈ e.fp → k ∉ y.fp := by
    intro y j hj hne hy k hke hky
    have hjy : L[j] = y := (List.getElem?_eq_some_iff.1 hy).2
    rcases Nat.lt_or_ge i j with hlt | hge
    · exact (List.pairwise_iff_getElem.1 h.apart i j hilt hj hlt) k (by rw [hie]; exact hke) (by rw [hjy]; exact hky)
    · exact (List.pairwise_iff_getElem.1 h.apart j i hj hilt (by omega)) k (by rw [hjy]; exact hky) (by rw [hie]; exact hke)
  refine ⟨hos.trans h.os, htape.trans h.tape, hout.trans h.output, Nat.le_trans h.size hsize, fun k hk0 hF => ?_, fun y hy => ?_, fun y hy k hky => ?_, ?_⟩
  · rw [hk k (by have := h.size; omega) (fun hke => ?_)]
    · exact h.keep k hk0 hF
    · rcases h.own e hmem k hke with h1 | h1
      · omega
      · exact hF h1
  · obtain ⟨j, hj⟩ := List.getElem?_of_mem hy
    rw [List.getElem?_set] at hj
    by_cases e1 : i = j
    · simp [e1] at hj
      rw [← hj.2]; exact hh
    · simp [e1] at hj
      have hjlt : j < L.length := (List.getElem?_eq_some_iff.1 hj).1
      have hyL : y ∈ L := List.mem_of_getElem? hj
      exact y.stable w w' (fun k hky => hk k (y.inb w (h.ok y hyL) k hky) (fun hke => hapart y j hjlt (fun q => e1 q.symm) hj k hke hky)) (h.ok y hyL)
  · obtain ⟨j, hj⟩ := List.getElem?_of_mem hy
    rw [List.getElem?_set] at hj
    by_cases e1 : i = j
    · simp [e1] at hj
      rw [← hj.2] at hky
      rcases hfp k hky with h1 | h1
      · exact h.own e hmem k h1
      · exact .inl (Nat.le_trans h.size h1)
    · simp [e1] at hj
      exact h.own y (List.mem_of_getElem? hj) k hky
  · rw [List.pairwise_iff_getElem]
    intro p q hp hq hpq k hkp hkq
    simp only [List.length_set] at hp hq
    rw [List.getElem_set] at hkp hkq
    have hfar : ∀ j, (hj : j < L.length) → j ≠ i → ∀ k, k ∈ e'.fp → k ∉ (L[j]).fp := by
      intro j hj hne k hk1 hk2
      rcases hfp k hk1 with h1 | h1
      · exact hapart L[j] j hj hne (List.getElem?_eq_getElem hj) k h1 hk2
      · have := (L[j]).inb w (h.ok _ (List.getElem_mem hj)) k hk2
        omega
    by_cases e1 : i = p
    · simp only [e1, if_true] at hkp
      have e2 : i ≠ q := by omega
      rw [if_neg (by omega)] at hkq
      exact hfar q hq (by omega) k hkp hkq
    · rw [if_neg e1] at hkp
      by_cases e2 : i = q
      · simp only [e2, if_true] at hkq
        exact hfar p hp (by omega) k hkq hkp
      · rw [if_neg e2] at hkq
        exact (List.pairwise_iff_getElem.1 h.apart p q hp hq hpq) k hkp hkq

/-- One cell of a block that is owned. -/
theorem St.setCell (h : St W0 F L w) {i b off : Nat} {t : TypeId} {cs : List Value} (hi : L[i]? = some (.cells b t cs)) (v : Value) :
    St W0 F (L.set i (.cells b t (cs.set off v))) (w.setCell ⟨b, off, none⟩ v) := by
  refine h.write hi rfl rfl rfl (by simp [World.setCell]) (fun k _ hk => Below.heap_setCell _ _ _ _ (by simpa [Ent.fp] using hk)) ?_ (fun k hk => .inl hk)
  have := heap_setCell_same w b off cs.toArray t v (h.cells hi)
  show (w.setCell ⟨b, off, none⟩ v).heap[b]? = _
  rw [this]
  simp

/-- What is put together out of two. -/
theorem St.join {L0 Lr : List Ent} (h : St W0 F (L0 ++ Lr) w) {F0 : List Nat} (hF0 : ∀ k, k ∈ F0 → ∃ e, e ∈ L0 ∧ k ∈ e.fp) (h1 : St w F0 L' w') : St W0 F (L' ++ Lr) w' := by
  have hr : ∀ e, e ∈ Lr → ∀ k, k ∈ e.fp → k < w.heap.size ∧ k ∉ F0 := by
    intro e he k hk
    refine ⟨e.inb w (h.ok e (List.mem_append_right _ he)) k hk, fun hk0 => ?_⟩
    obtain ⟨e0, he0, hk0'⟩ := hF0 k hk0
    exact (List.pairwise_append.1 h.apart).2.2 e0 he0 e he k hk0' hk
  refine ⟨h1.os.trans h.os, h1.tape.trans h.tape, h1.output.trans h.output, Nat.le_trans h.size h1.size, fun k hk hF => ?_, fun e he => ?_, fun e he k hk => ?_, ?_⟩
  · rw [h1.keep k (by have := h.size; omega) (fun hk0 => ?_)]
    · exact h.keep k hk hF
    · obtain ⟨e0, he0, hk0'⟩ := hF0 k hk0
      rcases h.own e0 (List.mem_append_left _ he0) k hk0' with h2 | h2
      · omega
      · exact hF h2
  · rcases List.mem_append.1 he with he | he
    · exact h1.ok e he
    · exact e.stable w w' (fun k hk => h1.keep k (hr e he k hk).1 (hr e he k hk).2) (h.ok e (List.mem_append_right _ he))
  · rcases List.mem_append.1 he with he | he
    · rcases h1.own e he k hk with h2 | h2
      · exact .inl (Nat.le_trans h.size h2)
      · obtain ⟨e0, he0, hk0'⟩ := hF0 k h2
        exact h.own e0 (List.mem_append_left _ he0) k hk0'
    · exact h.own e (List.mem_append_right _ he) k hk
  · refine List.pairwise_append.2 ⟨h1.apart, (List.pairwise_append.1 h.apart).2.1, fun x hx y hy k hk hky => ?_⟩
    rcases h1.own x hx k hk with h2 | h2
    · have := (hr y hy k hky).1; omega
    · exact (hr y hy k hky).2 h2

/-- A callee that owns nothing ahead. -/
theorem St.then (h : St W0 F L w) (h1 : St w [] L' w') : St W0 F (L' ++ L) w' := St.join (L0 := []) (by simpa using h) (by simp) h1
end

/-! ### The judgement -/
def G (N : Nat) (R : Regs) (S : World → Prop) (X : Act → World → Prop) : Prop := ∀ a w, Rf N R a → S w → X a w

end Go.Proofs.YtkjhjgokaeiopaaGreatDoor
