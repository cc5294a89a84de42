/-
  The engine (3): what an operation yields that leaves memory alone.
-/
import Derived.Test.YtkjhjgokaeiopaaGreatDoorEB
namespace Go.Proofs.YtkjhjgokaeiopaaGreatDoor.E
open Go Go.RowKit

/-! ### Lists under den -/
section
variable {σ : Nat → Value} {ρ : Nm}
theorem nth_den {l : List V} {i : Nat} {v : V} (h : nth l i = some v) : (denL σ ρ l)[i]? = some (v.den σ ρ) := by
  rw [nth_eq] at h; rw [denL_map, List.getElem?_map, h]; rfl
theorem dropE_den : ∀ {n : Nat} {l m : List V}, dropE n l = some m → (denL σ ρ l).drop n = denL σ ρ m ∧ n ≤ l.length := fun {n l m} h => by
  obtain ⟨h1, h2⟩ := dropE_some h
  exact ⟨by rw [denL_map, denL_map, ← h2, List.map_drop], h1⟩
theorem takeE_den {n : Nat} {l m : List V} (h : takeE n l = some m) : (denL σ ρ l).take n = denL σ ρ m ∧ m.length = n := by
  obtain ⟨h1, h2⟩ := takeE_some h
  exact ⟨by rw [denL_map, denL_map, ← h2, List.map_take], h1⟩
theorem overE_map {α β : Type} (f : α → β) : ∀ {l r m : List α}, overE l r = some m → overE (l.map f) (r.map f) = some (m.map f)
  | l, [], m, h => by
    have : m = l := by cases l <;> (cases h; rfl)
    subst this; cases m <;> rfl
  | a :: l, b :: r, m, h => by
    unfold overE at h
    split at h
    · rename_i m' hm; cases h; simp only [List.map_cons, overE, overE_map f hm]
    · cases h
  | [], _ :: _, _, h => by cases h
theorem putE_map {α β : Type} (f : α → β) : ∀ {n : Nat} {l r m : List α}, putE n l r = some m → putE n (l.map f) (r.map f) = some (m.map f)
  | 0, l, r, m, h => overE_map f h
  | n + 1, a :: l, r, m, h => by
    unfold putE at h
    split at h
    · rename_i m' hm; cases h; simp only [List.map_cons, putE, putE_map f hm]
    · cases h
  | _ + 1, [], _, _, h => by cases h
theorem putE_den {n : Nat} {l r m : List V} (h : putE n l r = some m) : putE n (denL σ ρ l) (denL σ ρ r) = some (denL σ ρ m) := by
  simp only [denL_map]; exact putE_map _ h
end

/-- A value's cells; none: they are not known. -/
def V.cells : V → Option (List V)
  | .c (.agg a) => some (a.toList.map V.at)
  | .c (.tuple _) => none
  | .agg l => some l
  | .tuple _ => none
  | v => some [v]
theorem V.cells_ok {σ : Nat → Value} {ρ : Nm} {v : V} {l : List V} (h : v.cells = some l) : (v.den σ ρ).cells = (denL σ ρ l).toArray := by
  cases v with
  | c u => cases u <;> simp only [V.cells, Option.some.injEq, reduceCtorEq] at h <;> subst h <;> simp [V.den, denL, Value.cells, denL_at]
  | op i => simp only [V.cells, Option.some.injEq] at h; subst h; cases hs : σ i <;> simp [V.den, denL, oneV, hs, Value.cells]
  | tuple l => simp [V.cells] at h
  | _ => simp only [V.cells, Option.some.injEq] at h; subst h; simp [V.den, denL, Value.cells]
/-- Each is one cell, and none is a row. -/
def V.one : V → Bool
  | .agg _ => false
  | .tuple _ => false
  | .c (.agg _) => false
  | .c (.tuple _) => false
  | _ => true
theorem V.one_ok {σ : Nat → Value} {ρ : Nm} {v : V} (h : v.one = true) : (v.den σ ρ).oneCell' = true := by
  cases v with
  | c u => cases u <;> simp only [V.one, Bool.false_eq_true] at h <;> simp [V.den, Value.oneCell']
  | op i => cases hs : σ i <;> simp [V.den, oneV, hs, Value.oneCell']
  | agg l => simp [V.one] at h
  | tuple l => simp [V.one] at h
  | _ => simp [V.den, Value.oneCell']
def allOne : List V → Bool
  | [] => true
  | v :: l => bif v.one then allOne l else false
theorem allOne_ok {σ : Nat → Value} {ρ : Nm} : ∀ {l : List V}, allOne l = true → (denL σ ρ l).all (·.oneCell') = true
  | [], _ => rfl
  | v :: l, h => by
    unfold allOne at h
    cases hv : v.one with
    | true => rw [hv] at h; simp only [denL, List.all_cons, V.one_ok hv, Bool.true_and]; exact allOne_ok h
    | false => rw [hv] at h; cases h
def fillV (pl : Nat → Option (Nat × Nat)) (zs : List V) : List (Nat × V) → Option (List V)
  | [] => some zs
  | (i, v) :: r => match pl i, v.cells with
    | some (o, n), some l => bif Nat.beq l.length n then (match putE o zs l with
      | some z => fillV pl z r
      | none => none) else none
    | _, _ => none
def denP (σ : Nat → Value) (ρ : Nm) (l : List (Nat × V)) : List (Nat × Value) := l.map fun (i, v) => (i, v.den σ ρ)
theorem fillV_ok {σ : Nat → Value} {ρ : Nm} {pl : Nat → Option (Nat × Nat)} : ∀ {vs : List (Nat × V)} {zs z : List V}, fillV pl zs vs = some z → Instr.fill pl (denL σ ρ zs).toArray (denP σ ρ vs) = some (denL σ ρ z).toArray
  | [], zs, z, h => by cases h; rfl
  | (i, v) :: r, zs, z, h => by
    unfold fillV at h
    split at h
    · rename_i o n l hp hl
      cases hb : Nat.beq l.length n with
      | false => rw [hb] at h; cases h
      | true =>
        rw [hb] at h
        simp only [cond_true] at h
        split at h
        · rename_i z1 h1
          have hc := V.cells_ok (σ := σ) (ρ := ρ) hl
          obtain ⟨q1, q2⟩ := putE_some (putE_den (σ := σ) (ρ := ρ) h1)
          have hn : l.length = n := Nat.eq_of_beq_eq_true hb
          have ih := fillV_ok (σ := σ) (ρ := ρ) h
          show Instr.fill pl (denL σ ρ zs).toArray ((i, v.den σ ρ) :: denP σ ρ r) = _
          unfold Instr.fill
          rw [hp]
          dsimp only
          rw [hc]
          rw [if_neg (by simp only [List.size_toArray, denL_len, Bool.or_eq_true, decide_eq_true_eq, ne_eq, decide_not, Bool.not_eq_true', decide_eq_false_iff_not]; simp only [denL_len] at q1; omega)]
          have e := foldl_put o (denL σ ρ l) 0 (denL σ ρ zs) (by omega)
          have e3 : (denL σ ρ l).toArray.zipIdx.foldl (fun cs (c, j) => cs.setIfInBounds (o + j) c) (denL σ ρ zs).toArray = ((denL σ ρ l).zipIdx 0).foldl (fun cs (c, j) => cs.setIfInBounds (o + j) c) (denL σ ρ zs).toArray := by
            rw [← Array.foldl_toList]; congr 1; simp
          rw [e3, e, Nat.add_zero, ← q2]
          exact ih
        · cases h
    · cases h
def ovP (rs : T V) : List (Nat × Operand) → Option (List (Nat × V))
  | [] => some []
  | (i, x) :: r => match ov rs x, ovP rs r with
    | some v, some vs => some ((i, v) :: vs)
    | _, _ => none
def ovL (rs : T V) : List Operand → Option (List V)
  | [] => some []
  | x :: r => match ov rs x, ovL rs r with
    | some v, some vs => some (v :: vs)
    | _, _ => none
section
variable {P : Program} {σ : Nat → Value} {ρ : Nm} {n : Nat} {rs : T V} {h : T O} {a : Act} {w : World} {tb : Tb}
theorem ovP_ok (hr : RegsOk σ ρ n rs a.tmps) : ∀ {ps : List (Nat × Operand)} {vs : List (Nat × V)}, ovP rs ps = some vs → ps.map (fun (i, x) => (i, a.eval x)) = denP σ ρ vs
  | [], vs, h => by cases h; rfl
  | (i, x) :: r, vs, h => by
    unfold ovP at h
    split at h
    · rename_i v us hv hu
      cases h
      simp only [List.map_cons, ov_ev hr hv, ovP_ok hr hu]; rfl
    · cases h
theorem ovL_ok (hr : RegsOk σ ρ n rs a.tmps) : ∀ {ps : List Operand} {vs : List V}, ovL rs ps = some vs → ps.map a.eval = denL σ ρ vs
  | [], vs, h => by cases h; rfl
  | x :: r, vs, h => by
    unfold ovL at h
    split at h
    · rename_i v us hv hu
      cases h
      simp only [List.map_cons, ov_ev hr hv, ovL_ok hr hu]; rfl
    · cases h

/-! ### Reading memory -/
def cellsAt (h : T O) (id : Nat) : Option (List V) := match h.get id with
  | some (.cells cs _ _ _ _) => some cs
  | _ => none
theorem cellsAt_row {id : Nat} {cs : List V} (hm : Mem σ ρ h w) (hc : cellsAt h id = some cs) : ∀ off j v, (denL σ ρ cs)[off + j]? = some v → w.cell? ⟨(ρ id).b, (ρ id).o + off + j, none⟩ = some v := by
  unfold cellsAt at hc
  split at hc
  · rename_i cs' e lo hi tl hg
    cases hc
    intro off j v hv
    have ho := hm.ok _ _ hg
    cases tl with
    | none =>
      obtain ⟨h1, h2⟩ := ho
      rw [cell_of_row w _ _ _ e (lo, hi) h2, h1, Nat.zero_add]
      simpa using hv
    | some z =>
      obtain ⟨pre, suf, fz, h1, _, h2, _⟩ := ho
      rw [cell_of_row w _ _ _ e fz h1, ← h2]
      have hl : off + j < (denL σ ρ cs).length := (List.getElem?_eq_some_iff.1 hv).1
      rw [List.getElem?_toArray, List.getElem?_append_right (by omega), List.getElem?_append_left (by omega)]
      rw [show pre.length + off + j - pre.length = off + j by omega]
      exact hv
  · cases hc
def ldV (h : T O) (i : I) (id off : Nat) : Option V := match cellsAt h id with
  | some cs => bif i.agg then (match dropE off cs with
    | some m => (match takeE i.sz m with
      | some vs => some (.agg vs)
      | none => none)
    | none => none) else nth cs off
  | none => none
theorem run_ldV {t : TypeId} {i : I} {id off : Nat} {v : V} (hi : i.ok P t) (hm : Mem σ ρ h w) (hv : ldV h i id off = some v) : (loadVar t ⟨(ρ id).b, (ρ id).o + off, none⟩).run P w = .ok (v.den σ ρ) w := by
  unfold ldV at hv
  split at hv
  · rename_i cs hc
    have hrow := cellsAt_row hm hc
    cases ha : i.agg with
    | true =>
      rw [ha] at hv
      simp only [cond_true] at hv
      split at hv
      · rename_i m hd
        split at hv
        · rename_i vs ht
          cases hv
          obtain ⟨d1, d2⟩ := dropE_den (σ := σ) (ρ := ρ) hd
          obtain ⟨t1, t2⟩ := takeE_den (σ := σ) (ρ := ρ) ht
          have hl : (loadCells ⟨(ρ id).b, (ρ id).o + off, none⟩ (denL σ ρ vs).length).run P w = .ok (denL σ ρ vs).toArray w :=
            run_loadCells_list (P := P) w _ _ (fun j u hj => by
              rw [Addr.add_mid]
              refine hrow off j u ?_
              have hlt : j < (denL σ ρ vs).length := (List.getElem?_eq_some_iff.1 hj).1
              rw [← t1, ← d1, List.getElem?_take_of_lt (by rw [denL_len, t2] at hlt; exact hlt), List.getElem?_drop] at hj
              exact hj)
          rw [denL_len, t2] at hl
          simp [loadVar, Sem.run_bind, hi.agg, hi.sz, ha, hl, V.den]
        · cases hv
      · cases hv
    | false =>
      rw [ha] at hv
      simp only [cond_false] at hv
      have := hrow off 0 _ (nth_den hv)
      simp only [Nat.add_zero] at this
      simp [loadVar, Sem.run_bind, hi.agg, ha, load, Sem.run, this]
  · cases hv
end
end Go.Proofs.YtkjhjgokaeiopaaGreatDoor.E
