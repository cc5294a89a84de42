/-
  Rows that are owned: loads, stores, a shorter row; regions that draw their order and end in a tail that writes.
-/
import Derived.Test.YtpoelkfncpjmfaaC
import Derived.StillTail
namespace Go.Proofs.Ytpoelkfncpjmfaa
open Go Go.RowKit
section
variable {P : Program} {N : Nat} {R : Regs} {S : World → Prop} {Q : Exit → Act → World → Prop} {ops : Array Oper} {rest : List Oper} {W0 : World} {F : List Nat} {L : List Ent} {X : Act → World → Prop}
variable {dst : Option Tmp} {ty t t' : TypeId} {pos : String} {af : Array Edge} {gd : Option (Nat × Bool)} {x y : Operand} {o : Oper}

/-! ### A region that draws, and whose last operations stand in order -/
def Hd (P : Program) (ops : Array Oper) (T : Act → World → Prop) (l : List Oper) : Act → World → Prop := fun a w => wpStill P ops w (fun a' => T a' w) l a
theorem g_tail {id : Nat} {l : List Oper} (n : Nat) (hm : P.follows .mixedOrders = true) (hB : Region.lexTailB .any l.toArray n = true)
    (h : G N R (St W0 F L) (Hd P l.toArray (wpList P l.toArray Q (l.drop n)) (l.take n))) : G N R (St W0 F L) ((Code.region id l.toArray true).wp P Q) :=
  fun a w hR hS => wp_region_still_tail n hm hB (h a _ hR hS.drew)
theorem s_nil {T : Act → World → Prop} (h : G N R S T) : G N R S (Hd P ops T []) := h
theorem s_val {T : Act → World → Prop} {d : Nat} {v : Value} (hw : want ops R o = some true) (hd : o.dst = some d) (hN : Nat.blt d N = true) (hv : Yv P N R S o v) (h : G N ((d, v) :: R) S (Hd P ops T rest)) : G N R S (Hd P ops T (o :: rest)) := fun a w hR hS => by
  unfold Hd
  simp only [wpStill]
  rw [wanted_of hw hR, if_pos rfl]
  have hr := hv a w hR hS
  have hk := h (a.put o.dst v) w (by rw [hd]; exact hR.put hN) hS
  unfold Oper.still
  rw [hr]
  exact ⟨rfl, hk⟩

/-! ### Rows -/
theorem row_cell {w : World} {e : TypeId} {size g n m c k : Nat} {xs : List Value} {u : Value} (h : w.ownsRow 0 e size (.slice (some ⟨g, 0, none⟩) m c) n xs) (hv : xs[k]? = some u) : w.cell? ⟨g, k, none⟩ = some u := by
  obtain ⟨hl, h | ⟨g', cap, cur, h1, _, h3, _, _, h5, h6⟩⟩ := h
  · cases h.1
  · have hg : g = g' := by cases h1; rfl
    subst hg
    rw [cell_of_row w g k cur e (0, 0) h3]
    have hk : k < xs.length := (List.getElem?_eq_some_iff.1 hv).1
    rw [← h6, List.getElem?_take, if_pos (by omega)] at hv
    simpa using hv
/-- A row with an element lies somewhere. -/
theorem g_rowCase {e : TypeId} {size n : Nat} {v : Value} {xs : List Value} (i : Nat) (hi : L[i]? = some (.row e size v n xs)) (hn : 0 < n) (h : ∀ g c, v = .slice (some ⟨g, 0, none⟩) n c → G N R (St W0 F L) X) : G N R (St W0 F L) X := fun a w hR hS => by
  have ho : w.ownsRow 0 e size v n xs := hS.get hi
  obtain ⟨_, h2 | ⟨g, cap, cur, h1, _⟩⟩ := ho
  · omega
  · exact h g cap h1 a w hR hS
/-- A row: its value's shape, whatever its length. -/
theorem g_rowLen {e : TypeId} {size n : Nat} {v : Value} {xs : List Value} (i : Nat) (hi : L[i]? = some (.row e size v n xs)) (h : ∀ p c, v = .slice p n c → G N R (St W0 F L) X) : G N R (St W0 F L) X := fun a w hR hS => by
  have ho : w.ownsRow 0 e size v n xs := hS.get hi
  obtain ⟨_, ⟨h1, h2⟩ | ⟨g, cap, cur, h1, _⟩⟩ := ho
  · subst h2; exact h none 0 h1 a w hR hS
  · exact h _ cap h1 a w hR hS
theorem y_ldR {e : TypeId} {size g n m c off : Nat} {xs : List Value} {u : Value} (i : Nat) (hx : ev R x = some (.pointer (some ⟨g, off, none⟩))) (ha : ∀ w, (isAgg t).run P w = .ok false w) (hi : L[i]? = some (.row e size (.slice (some ⟨g, 0, none⟩) m c) n xs)) (hv : xs[off]? = some u) :
    Yv P N R (St W0 F L) ⟨dst, .load t x, ty, pos, af, gd⟩ u := y_load1 hx ha fun w hS => row_cell (hS.get hi) hv
theorem y_ldRN {e : TypeId} {size g n m c off k : Nat} {xs vs : List Value} (i : Nat) (hx : ev R x = some (.pointer (some ⟨g, off, none⟩))) (ha : ∀ w, (isAgg t).run P w = .ok true w) (hz : ∀ w, (sizeOf t).run P w = .ok k w) (hi : L[i]? = some (.row e size (.slice (some ⟨g, 0, none⟩) m c) n xs)) (hv : (xs.drop off).take k = vs) (hn : vs.length = k) :
    Yv P N R (St W0 F L) ⟨dst, .load t x, ty, pos, af, gd⟩ (.agg vs.toArray) := fun a w hR hS => by
  have ho : w.ownsRow 0 e size (.slice (some ⟨g, 0, none⟩) m c) n xs := hS.get hi
  have hl : (loadCells ⟨g, off, none⟩ vs.length).run P w = .ok vs.toArray w :=
    run_loadCells_list (P := P) w ⟨g, off, none⟩ vs (fun j v hj => by
      rw [Addr.add_mid]
      refine row_cell ho ?_
      have hlt : j < vs.length := (List.getElem?_eq_some_iff.1 hj).1
      rw [← hv] at hj
      rw [List.getElem?_take, if_pos (by omega), List.getElem?_drop] at hj
      exact hj)
  rw [hn] at hl
  simp [execOp, hR.eval hx, Instr.loadAt, Instr.sureAddr, loadVar, Sem.run_bind, ha, hz, hl]
/-- One cell of a row, written. -/
theorem g_stR {e : TypeId} {size g n m c off : Nat} {xs : List Value} {v : Value} (i : Nat) (hw : want ops R ⟨none, .store t x y, ty, pos, af, gd⟩ = some true) (hx : ev R x = some (.pointer (some ⟨g, off, none⟩))) (hy : ev R y = some v) (hz : ∀ w, (sizeOf t).run P w = .ok 1 w) (h1 : v.oneCell' = true)
    (hi : L[i]? = some (.row e size (.slice (some ⟨g, 0, none⟩) m c) n xs)) (hl : off < xs.length) (h : G N R (St W0 F (L.set i (.row e size (.slice (some ⟨g, 0, none⟩) m c) n (xs.set off v)))) (wpList P ops Q rest)) : G N R (St W0 F L) (wpList P ops Q (⟨none, .store t x y, ty, pos, af, gd⟩ :: rest)) :=
  g_one hw fun K a w hR hS hK => by
    have ho : w.ownsRow 0 e size (.slice (some ⟨g, 0, none⟩) m c) n xs := hS.get hi
    have hc : v.cells = #[v] := by cases v <;> simp_all [Value.cells, Value.oneCell']
    have hcell : ∃ u, w.cell? ⟨g, off, none⟩ = some u := ⟨xs[off], row_cell ho (List.getElem?_eq_getElem hl)⟩
    obtain ⟨hlen, h2 | ⟨g', cap, cur, q1, q2, q3, q4, q5, q6, q7⟩⟩ := ho
    · cases h2.1
    · have hg : g = g' := by cases q1; rfl
      subst hg
      refine Oper.wp_skip (w' := w.setCell ⟨g, off, none⟩ v) ?_ (hK _ _ (h _ _ hR (hS.write hi rfl rfl rfl (by simp [World.setCell]) (fun k _ hk => Below.heap_setCell _ _ _ _ (by simpa [Ent.fp, Value.ownBlock] using hk)) ?_ (fun k hk => .inl hk))))
      · obtain ⟨u, hu⟩ := hcell
        have hfz : w.frozen? ⟨g, off, none⟩ = false := by simp [World.frozen?, q3]
        have e0 : (⟨g, off, none⟩ : Addr).add 0 = ⟨g, off, none⟩ := by simp [Addr.add]
        simp [execOp, hR.eval hx, hR.eval hy, Sem.run_bind, Instr.storeAt, Instr.sureAddr, storeVar, hz, hc, storeCells, e0, run_store P w _ v .plain h1, hu, hfz]
      · show (w.setCell ⟨g, off, none⟩ v).ownsRow 0 e size _ n (xs.set off v)
        refine ⟨by simpa using hlen, .inr ⟨g, cap, cur.setIfInBounds off v, q1, q2, heap_setCell_same w g off cur e v q3, q4, q5, by simpa using q6, ?_⟩⟩
        rw [Array.toList_setIfInBounds, List.take_set, q7]
end
end Go.Proofs.Ytpoelkfncpjmfaa
