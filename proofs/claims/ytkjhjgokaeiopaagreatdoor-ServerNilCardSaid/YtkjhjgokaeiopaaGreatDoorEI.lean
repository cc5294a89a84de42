/-
  The engine (9): operations that turn memory; stores, what is laid anew.
-/
import Derived.Test.YtkjhjgokaeiopaaGreatDoorEH
namespace Go.Proofs.YtkjhjgokaeiopaaGreatDoor.E
open Go Go.RowKit
section
variable {P : Program} {σ : Nat → Value} {ρ : Nm} {n : Nat} {rs : T V} {h h' : T O} {a : Act} {w w' : World} {tb : Tb}

/-- What an operation does: its value; a name that is a name no more; a name that (now) stands for o. -/
structure Fx where
  v : V
  rm : Option Nat
  put : Option (Nat × O)
def Fx.to (f : Fx) (h : T O) (j : Nat) : Option O := match f.put with
  | some (p, o) => if j = p then some o else if f.rm = some j then none else h.get j
  | none => if f.rm = some j then none else h.get j
/-- What a new name stands for: told by the value. -/
def nmOf : Value → A
  | .slice (some p) _ c => ⟨p.block, p.off, c⟩
  | .pointer (some p) => ⟨p.block, p.off, 0⟩
  | .map (some r) => ⟨r, 0, 0⟩
  | .func (.yield r) _ _ => ⟨r, 0, 0⟩
  | .tuple ⟨.pointer (some p) :: _⟩ => ⟨p.block, p.off, 0⟩
  | _ => ⟨0, 0, 0⟩

theorem Keeps.alloc (w : World) (o : Obj) (F : Nat → Prop) : Keeps w (w.alloc o) F := ⟨rfl, rfl, rfl, by simp, fun k hk _ => Below.heap_alloc _ _ _ hk⟩
theorem Keeps.drew {F : Nat → Prop} (hk : Keeps w.drew w' F) : Keeps w w' F := ⟨hk.os, hk.tape, hk.output, hk.size, hk.keep⟩

theorem Mem.same (hm : Mem σ ρ h w) (hk : ∀ k, k < w.heap.size → w'.heap[k]? = w.heap[k]?) : Mem σ ρ h w' :=
  ⟨fun i o hi => O.holds_of (hk _ (O.holds_lt (hm.ok i o hi))) (hm.ok i o hi), hm.apart⟩
theorem Mem.new {p : Nat} {o : O} (hm : Mem σ ρ h w) (hh : ∀ j, h'.get j = if j = p then some o else h.get j) (hk : ∀ k, k < w.heap.size → w'.heap[k]? = w.heap[k]?) (ho : o.holds σ ρ (ρ p) w') (hp : w.heap.size ≤ (ρ p).b) : Mem σ ρ h' w' := by
  refine ⟨fun i oi hi => ?_, fun i j oi oj hi hj hne => ?_⟩
  · rw [hh] at hi
    by_cases e : i = p
    · rw [if_pos e] at hi; cases hi; rw [e]; exact ho
    · rw [if_neg e] at hi; exact O.holds_of (hk _ (O.holds_lt (hm.ok i oi hi))) (hm.ok i oi hi)
  · rw [hh] at hi hj
    by_cases e : i = p
    · have e2 : j ≠ p := fun q => hne (e.trans q.symm)
      rw [if_neg e2] at hj
      have := O.holds_lt (hm.ok j oj hj)
      rw [e]; omega
    · rw [if_neg e] at hi
      by_cases e2 : j = p
      · have := O.holds_lt (hm.ok i oi hi)
        rw [e2]; omega
      · rw [if_neg e2] at hj; exact hm.apart _ _ _ _ hi hj hne
theorem Mem.turn {i p : Nat} {oi o : O} (hm : Mem σ ρ h w) (hi : h.get i = some oi) (hh : ∀ j, h'.get j = if j = p then some o else if j = i then none else h.get j)
    (hk : ∀ k, k < w.heap.size → k ≠ (ρ i).b → w'.heap[k]? = w.heap[k]?) (ho : o.holds σ ρ (ρ p) w') (hp : (ρ p).b = (ρ i).b ∨ w.heap.size ≤ (ρ p).b) : Mem σ ρ h' w' := by
  refine ⟨fun j oj hj => ?_, fun j k oj ok hj hk' hne => ?_⟩
  · rw [hh] at hj
    by_cases e : j = p
    · rw [if_pos e] at hj; cases hj; rw [e]; exact ho
    · rw [if_neg e] at hj
      by_cases e2 : j = i
      · rw [if_pos e2] at hj; cases hj
      · rw [if_neg e2] at hj
        exact O.holds_of (hk _ (O.holds_lt (hm.ok j oj hj)) (hm.apart _ _ _ _ hj hi e2)) (hm.ok j oj hj)
  · have far : ∀ m om, h.get m = some om → m ≠ i → (ρ m).b ≠ (ρ p).b := by
      intro m om hm' hmi
      rcases hp with hp | hp
      · rw [hp]; exact hm.apart _ _ _ _ hm' hi hmi
      · have := O.holds_lt (hm.ok m om hm'); omega
    rw [hh] at hj hk'
    by_cases e : j = p
    · have e2 : k ≠ p := fun q => hne (e.trans q.symm)
      rw [if_neg e2] at hk'
      by_cases e3 : k = i
      · rw [if_pos e3] at hk'; cases hk'
      · rw [if_neg e3] at hk'; rw [e]; exact (far k ok hk' e3).symm
    · rw [if_neg e] at hj
      by_cases e3 : j = i
      · rw [if_pos e3] at hj; cases hj
      · rw [if_neg e3] at hj
        by_cases e2 : k = p
        · rw [e2]; exact far j oj hj e3
        · rw [if_neg e2] at hk'
          by_cases e4 : k = i
          · rw [if_pos e4] at hk'; cases hk'
          · rw [if_neg e4] at hk'; exact hm.apart _ _ _ _ hj hk' hne
theorem Mem.drop {i : Nat} (hm : Mem σ ρ h w) (hh : ∀ j, h'.get j = if j = i then none else h.get j) : Mem σ ρ h' w := by
  refine ⟨fun j oj hj => ?_, fun j k oj ok hj hk hne => ?_⟩
  · rw [hh] at hj
    by_cases e : j = i
    · rw [if_pos e] at hj; cases hj
    · rw [if_neg e] at hj; exact hm.ok j oj hj
  · rw [hh] at hj hk
    by_cases e : j = i
    · rw [if_pos e] at hj; cases hj
    · rw [if_neg e] at hj
      by_cases e2 : k = i
      · rw [if_pos e2] at hk; cases hk
      · rw [if_neg e2] at hk; exact hm.apart _ _ _ _ hj hk hne

/-- What an operation does, told: r is its result. -/
structure Does (P : Program) (σ : Nat → Value) (ρ : Nm) (h : T O) (w : World) (id : Nat) (f : Fx) (s : Sem Next) (u : Value) (w' : World) : Prop where
  run : s.run P w = .ok (.value u) w' ∨ s.run P w = .ok .skip w' ∧ u = undef
  keeps : Keeps w w' (Ours ρ h)
  names : (∀ p o, f.put = some (p, o) → p = id ∨ ∃ o', h.get p = some o')
  mem : ρ id = nmOf u → u = f.v.den σ ρ ∧ ∀ h', (∀ j, h'.get j = f.to h j) → Mem σ ρ h' w'
  fresh : (∃ o, f.put = some (id, o)) → h.get id = none → w.heap.size ≤ (nmOf u).b ∨ Ours ρ h (nmOf u).b

/-! ### Many cells are written -/
theorem setCell_heap {b o : Nat} {cs : List Value} {e : TypeId} {fz : Nat × Nat} {v : Value} (hb : w.heap[b]? = some (.cells cs.toArray e fz)) : (w.setCell ⟨b, o, none⟩ v).heap[b]? = some (.cells (cs.set o v).toArray e fz) := by
  simp [World.setCell, Array.getElem?_modify, hb]
theorem setCells_heap {b : Nat} {e : TypeId} {fz : Nat × Nat} : ∀ (vs : List Value) (o : Nat) (w : World) (cs : List Value), w.heap[b]? = some (.cells cs.toArray e fz) → o + vs.length ≤ cs.length →
    (w.setCells b o vs).heap[b]? = some (.cells (cs.take o ++ (vs ++ cs.drop (o + vs.length))).toArray e fz)
  | [], o, w, cs, hb, _ => by simpa [World.setCells] using hb
  | v :: vs, o, w, cs, hb, hl => by
    simp only [List.length_cons] at hl
    rw [World.setCells, setCells_heap vs (o + 1) _ _ (setCell_heap hb) (by simp; omega)]
    congr 3
    have e1 : (cs.set o v).take (o + 1) = cs.take o ++ [v] := by
      rw [List.take_add_one, List.take_set_of_le (Nat.le_refl _), List.getElem?_set_self (by omega)]; rfl
    have e2 : (cs.set o v).drop (o + 1 + vs.length) = cs.drop (o + (v :: vs).length) := by
      rw [List.drop_set_of_lt (by omega)]; congr 1; simp only [List.length_cons]; omega
    rw [e1, e2, List.append_assoc]; rfl
theorem setCells_other (b : Nat) : ∀ (vs : List Value) (o : Nat) (w : World) (k : Nat), k ≠ b → (w.setCells b o vs).heap[k]? = w.heap[k]?
  | [], _, _, _, _ => rfl
  | v :: vs, o, w, k, hk => by rw [World.setCells, setCells_other b vs _ _ k hk]; exact Below.heap_setCell _ _ _ _ hk
theorem setCells_size (b : Nat) : ∀ (vs : List Value) (o : Nat) (w : World), (w.setCells b o vs).heap.size = w.heap.size
  | [], _, _ => rfl
  | v :: vs, o, w => by rw [World.setCells, setCells_size b vs]; simp [World.setCell]
theorem setCells_rest (b : Nat) : ∀ (vs : List Value) (o : Nat) (w : World), (w.setCells b o vs).os = w.os ∧ (w.setCells b o vs).tape = w.tape ∧ (w.setCells b o vs).output = w.output
  | [], _, _ => ⟨rfl, rfl, rfl⟩
  | v :: vs, o, w => by rw [World.setCells]; exact setCells_rest b vs _ _
theorem setCells_keeps {b o : Nat} {vs : List Value} {F : Nat → Prop} (hF : F b) : Keeps w (w.setCells b o vs) F := by
  obtain ⟨h1, h2, h3⟩ := setCells_rest b vs o w
  exact ⟨h1, h2, h3, by rw [setCells_size]; exact Nat.le_refl _, fun k _ hk => setCells_other b vs o w k (fun e => hk (e ▸ hF))⟩
/-- A frozen part lies apart from it. -/
def thaw (lo hi len : Nat) : Bool := Nat.ble hi lo || Nat.ble len lo
/-- The cells from off on are written: what is there then. -/
theorem cells_put {id off : Nat} {cs l ms : List V} {e : TypeId} {lo hi : Nat} {tl : Option Nat} (hm : Mem σ ρ h w) (hg : h.get id = some (.cells cs e lo hi tl)) (hp : putE off cs l = some ms) (hz : tl = none → thaw lo hi cs.length = true) (h1 : allOne l = true) :
    (storeCells ⟨(ρ id).b, (ρ id).o + off, none⟩ (denL σ ρ l)).run P w = .ok () (w.setCells (ρ id).b ((ρ id).o + off) (denL σ ρ l)) ∧
    O.holds σ ρ (ρ id) (w.setCells (ρ id).b ((ρ id).o + off) (denL σ ρ l)) (.cells ms e lo hi tl) := by
  obtain ⟨q1, q2⟩ := putE_some (putE_den (σ := σ) (ρ := ρ) hp)
  rw [denL_len, denL_len] at q1
  have hlen : ms.length = cs.length := by
    have := congrArg List.length q2
    rw [denL_len] at this
    rw [this]
    simp [denL_len]; omega
  have h1' := allOne_ok (σ := σ) (ρ := ρ) h1
  rw [List.all_eq_true] at h1'
  have ho := hm.ok _ _ hg
  cases tl with
  | none =>
    obtain ⟨o1, o2⟩ := ho
    have hfz : ∀ j, j < cs.length → w.frozen? ⟨(ρ id).b, j, none⟩ = false := by
      intro j hj
      have := hz rfl
      simp only [thaw, Bool.or_eq_true] at this
      simp only [World.frozen?, o2, Bool.and_eq_false_iff, decide_eq_false_iff_not]
      rcases this with q | q
      · have := Nat.le_of_ble_eq_true q; omega
      · have := Nat.le_of_ble_eq_true q; omega
    have hst := run_storeCells_cells (P := P) (ρ id).b ((ρ id).o + off) (denL σ ρ l) 0 w (fun j hj => by
        rw [denL_len] at hj
        rw [cell_of_row w _ _ _ e (lo, hi) o2, List.getElem?_toArray, List.getElem?_eq_getElem (by rw [denL_len]; omega)]; rfl)
      (fun j hj => by rw [denL_len] at hj; exact hfz _ (by omega)) (fun v hv => h1' v hv)
    refine ⟨by simpa using hst, o1, ?_⟩
    rw [setCells_heap (denL σ ρ l) _ w _ o2 (by rw [denL_len, denL_len]; omega), o1, Nat.zero_add, denL_len, q2, denL_len]
  | some z =>
    obtain ⟨pre, suf, fz, o1, o2, o3, o4⟩ := ho
    have hsz : (pre ++ (denL σ ρ cs ++ suf)).length = pre.length + cs.length + suf.length := by simp [denL_len]; omega
    have hfz : ∀ j, j < pre.length + cs.length + suf.length → w.frozen? ⟨(ρ id).b, j, none⟩ = false := by
      intro j hj
      simp only [World.frozen?, o1, Bool.and_eq_false_iff, decide_eq_false_iff_not]
      omega
    have hst := run_storeCells_cells (P := P) (ρ id).b ((ρ id).o + off) (denL σ ρ l) 0 w (fun j hj => by
        rw [denL_len] at hj
        rw [cell_of_row w _ _ _ e fz o1, List.getElem?_toArray, List.getElem?_eq_getElem (by rw [hsz]; omega)]; rfl)
      (fun j hj => by rw [denL_len] at hj; exact hfz _ (by omega)) (fun v hv => h1' v hv)
    refine ⟨by simpa using hst, pre, suf, fz, ?_, by rw [hlen]; exact o2, o3, by rw [hlen]; exact o4⟩
    rw [setCells_heap (denL σ ρ l) _ w _ o1 (by rw [hsz, denL_len]; omega), q2]
    congr 3
    rw [← o3, List.take_append, denL_len, List.take_of_length_le (by omega), show pre.length + off - pre.length = off by omega, List.drop_append, List.drop_of_length_le (by omega), List.take_append_of_le_length (by rw [denL_len]; omega), show pre.length + off + l.length - pre.length = off + l.length by omega, List.drop_append_of_le_length (by rw [denL_len]; omega)]
    simp
end
end Go.Proofs.YtkjhjgokaeiopaaGreatDoor.E
