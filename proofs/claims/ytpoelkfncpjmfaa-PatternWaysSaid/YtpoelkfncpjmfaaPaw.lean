/- Trees in memory. -/
import Derived.Test.YtpoelkfncpjmfaaPav
namespace Go.Proofs.Ytpoelkfncpjmfaa
open Go Go.RowKit

/-- A node: its kind, set, least, most, number; its kids' slice, its kids. -/
inductive MT where
  | mk (k : Int) (s : Nat → Int) (mi ma nu : Int) (v : Value) (kids : List MT)
def MT.v : MT → Value
  | .mk _ _ _ _ _ v _ => v
def MT.kids : MT → List MT
  | .mk _ _ _ _ _ _ kids => kids
def nC : MT → List Value
  | .mk k s mi ma nu v _ => [.int .i64 k, .int .u64 (s 0), .int .u64 (s 1), .int .u64 (s 2), .int .u64 (s 3), .int .i64 mi, .int .i64 ma, .int .i64 nu, v]
theorem nC_len (t : MT) : (nC t).length = 9 := by cases t; rfl
mutual
def MT.fp : MT → List Nat
  | .mk _ _ _ _ _ v kids => v.ownBlock.toList ++ fpL kids
def fpL : List MT → List Nat
  | [] => []
  | t :: ts => t.fp ++ fpL ts
end
mutual
def MT.ok (w : World) : MT → Prop
  | .mk _ _ _ _ _ v kids => w.ownsRow 0 30 9 v kids.length (kids.flatMap nC) ∧ okL w kids
def okL (w : World) : List MT → Prop
  | [] => True
  | t :: ts => t.ok w ∧ okL w ts
end
mutual
theorem MT.stable {w w' : World} : ∀ (t : MT), (∀ k, k ∈ t.fp → w'.heap[k]? = w.heap[k]?) → t.ok w → t.ok w'
  | .mk k s mi ma nu v kids, hk, h => by
    unfold MT.ok at h ⊢
    unfold MT.fp at hk
    exact ⟨ownsRow_stable (fun k hk' => hk k (List.mem_append_left _ hk')) h.1, okL_stable kids (fun k hk' => hk k (List.mem_append_right _ hk')) h.2⟩
theorem okL_stable {w w' : World} : ∀ (ts : List MT), (∀ k, k ∈ fpL ts → w'.heap[k]? = w.heap[k]?) → okL w ts → okL w' ts
  | [], _, _ => by unfold okL; trivial
  | t :: ts, hk, h => by
    unfold okL at h ⊢
    unfold fpL at hk
    exact ⟨MT.stable t (fun k hk' => hk k (List.mem_append_left _ hk')) h.1, okL_stable ts (fun k hk' => hk k (List.mem_append_right _ hk')) h.2⟩
end
mutual
theorem MT.inb {w : World} : ∀ (t : MT), t.ok w → ∀ k, k ∈ t.fp → k < w.heap.size
  | .mk k s mi ma nu v kids, h, q, hq => by
    unfold MT.ok at h
    unfold MT.fp at hq
    rcases List.mem_append.1 hq with hq | hq
    · exact (h.1.lt q (by simpa using hq)).2
    · exact okL_inb kids h.2 q hq
theorem okL_inb {w : World} : ∀ (ts : List MT), okL w ts → ∀ k, k ∈ fpL ts → k < w.heap.size
  | [], _, q, hq => by unfold fpL at hq; cases hq
  | t :: ts, h, q, hq => by
    unfold okL at h
    unfold fpL at hq
    rcases List.mem_append.1 hq with hq | hq
    · exact MT.inb t h.1 q hq
    · exact okL_inb ts h.2 q hq
end
theorem okL_cons {w : World} {t : MT} {ts : List MT} : okL w (t :: ts) ↔ t.ok w ∧ okL w ts := by rw [okL]
theorem ok_mk {w : World} {k : Int} {s : Nat → Int} {mi ma nu : Int} {v : Value} {ms : List MT} : (MT.mk k s mi ma nu v ms).ok w ↔ w.ownsRow 0 30 9 v ms.length (ms.flatMap nC) ∧ okL w ms := by rw [MT.ok]
theorem fpL_cons {t : MT} {ts : List MT} : fpL (t :: ts) = t.fp ++ fpL ts := by rw [fpL]
theorem fp_mk {k : Int} {s : Nat → Int} {mi ma nu : Int} {v : Value} {ms : List MT} : (MT.mk k s mi ma nu v ms).fp = v.ownBlock.toList ++ fpL ms := by rw [MT.fp]
theorem okL_nil {w : World} : okL w [] := by rw [okL]; trivial
theorem fpL_nil : fpL [] = [] := by rw [fpL]
/-- What lies below some nodes. -/
def Ent.forest (ts : List MT) : Ent := .own { fp := fpL ts, holds := fun w => okL w ts, stable := fun w w' hk h => okL_stable ts hk h, inb := fun w h => okL_inb ts h }
theorem fpL_append (a b : List MT) : fpL (a ++ b) = fpL a ++ fpL b := by
  induction a with
  | nil => simp [fpL]
  | cons t a ih => simp only [List.cons_append, fpL, ih, List.append_assoc]
theorem okL_append {w : World} (a b : List MT) : okL w (a ++ b) ↔ okL w a ∧ okL w b := by
  induction a with
  | nil => simp [okL]
  | cons t a ih => simp only [List.cons_append, okL, ih, and_assoc]
section
variable {W0 w : World} {F : List Nat} {L Lr : List Ent} {e1 e2 e : Ent}
theorem St.merge (h : St W0 F (e1 :: e2 :: Lr) w) (hh : e1.holds w → e2.holds w → e.holds w) (hf : ∀ k, k ∈ e.fp → k ∈ e1.fp ∨ k ∈ e2.fp) : St W0 F (e :: Lr) w := by
  have h1 := h.ok e1 (by simp)
  have h2 := h.ok e2 (by simp)
  obtain ⟨a1, a2⟩ := List.pairwise_cons.1 h.apart
  obtain ⟨b1, b2⟩ := List.pairwise_cons.1 a2
  refine ⟨h.os, h.tape, h.output, h.size, h.keep, fun x hx => ?_, fun x hx k hk => ?_, List.pairwise_cons.2 ⟨fun y hy k hk hk' => ?_, b2⟩⟩
  · rcases List.mem_cons.1 hx with rfl | hx
    · exact hh h1 h2
    · exact h.ok x (by simp [hx])
  · rcases List.mem_cons.1 hx with rfl | hx
    · rcases hf k hk with q | q
      · exact h.own e1 (by simp) k q
      · exact h.own e2 (by simp) k q
    · exact h.own x (by simp [hx]) k hk
  · rcases hf k hk with q | q
    · exact a1 y (by simp [hy]) k q hk'
    · exact b1 y hy k q hk'
theorem St.nil (h : St W0 F L w) : St W0 F (.forest [] :: L) w :=
  ⟨h.os, h.tape, h.output, h.size, h.keep, fun x hx => (List.mem_cons.1 hx).elim (fun q => by subst q; exact (by show okL w []; unfold okL; trivial)) (h.ok x), fun x hx k hk => (List.mem_cons.1 hx).elim (fun q => by subst q; cases (show k ∈ fpL [] from hk)) (fun q => h.own x q k hk),
    List.pairwise_cons.2 ⟨fun y _ k hk => (by cases (show k ∈ fpL [] from hk)), h.apart⟩⟩
end
section
variable {P : Program} {N : Nat} {R : Regs} {W0 : World} {F : List Nat} {L L' Lr : List Ent} {X : Act → World → Prop} {e1 e2 : Ent}
theorem g_perm (hp : L.Perm L') (h : G N R (St W0 F L') X) : G N R (St W0 F L) X := h.weaken fun _ hS => hS.perm hp
theorem g_merge (e : Ent) (hh : ∀ w, e1.holds w → e2.holds w → e.holds w) (hf : ∀ k, k ∈ e.fp → k ∈ e1.fp ∨ k ∈ e2.fp) (h : G N R (St W0 F (e :: Lr)) X) : G N R (St W0 F (e1 :: e2 :: Lr)) X := h.weaken fun w hS => hS.merge (hh w) hf
theorem g_forest0 (h : G N R (St W0 F (.forest [] :: L)) X) : G N R (St W0 F L) X := h.weaken fun _ hS => hS.nil
/-- A node above its kids. -/
theorem g_node (k : Int) (s : Nat → Int) (mi ma nu : Int) {v : Value} {n : Nat} {ms : List MT} (hn : n = ms.length) (h : G N R (St W0 F (.forest [.mk k s mi ma nu v ms] :: Lr)) X) : G N R (St W0 F (.row 30 9 v n (ms.flatMap nC) :: .forest ms :: Lr)) X := by
  subst hn
  refine g_merge (.forest [.mk k s mi ma nu v ms]) (fun w h1 h2 => ?_) (fun q hq => ?_) h
  · exact okL_cons.2 ⟨ok_mk.2 ⟨h1, h2⟩, okL_nil⟩
  · have hq' : q ∈ fpL [.mk k s mi ma nu v ms] := hq
    rw [fpL_cons, fp_mk, fpL_nil, List.append_nil] at hq'
    exact List.mem_append.1 hq'
theorem g_leaf (k : Int) (s : Nat → Int) (mi ma nu : Int) (h : G N R (St W0 F (.forest [.mk k s mi ma nu (.slice none 0 0) []] :: L)) X) : G N R (St W0 F L) X := by
  refine g_nilRow 30 9 (g_perm (L' := .row 30 9 (.slice none 0 0) 0 (([] : List MT).flatMap nC) :: L) (.refl _) ?_)
  exact g_forest0 (g_perm (.swap _ _ _) (g_node k s mi ma nu rfl h))
theorem g_kids {k : Int} {s : Nat → Int} {mi ma nu : Int} {v : Value} {kids ts : List MT} (i : Nat) (hi : L[i]? = some (.forest (.mk k s mi ma nu v kids :: ts))) (h : ∀ p c, v = .slice p kids.length c → G N R (St W0 F L) X) : G N R (St W0 F L) X := fun a w hR hS => by
  have ho : okL w (.mk k s mi ma nu v kids :: ts) := hS.get hi
  obtain ⟨_, ⟨h1, h2⟩ | ⟨g, cap, cur, h1, _⟩⟩ := (ok_mk.1 (okL_cons.1 ho).1).1
  · exact h none 0 (by rw [h1, h2]) a w hR hS
  · exact h _ cap h1 a w hR hS
theorem g_grow {a b : List MT} (h : G N R (St W0 F (.forest (a ++ b) :: Lr)) X) : G N R (St W0 F (.forest a :: .forest b :: Lr)) X :=
  g_merge (.forest (a ++ b)) (fun _ h1 h2 => (okL_append a b).2 ⟨h1, h2⟩) (fun q hq => by
    have hq' : q ∈ fpL (a ++ b) := hq
    rw [fpL_append] at hq'
    exact List.mem_append.1 hq') h
end

end Go.Proofs.Ytpoelkfncpjmfaa
