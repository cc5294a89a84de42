/-
  The engine (11): append, copy, maps, bytes.
-/
import Derived.Test.YtkjhjgokaeiopaaGreatDoorEJ
namespace Go.Proofs.YtkjhjgokaeiopaaGreatDoor.E
open Go Go.RowKit

/-- What is put behind: how many things, their cells. -/
def newsV (h : T O) (z : Nat) : V → Option (Nat × List V)
  | .sl id off n _ => (match cellsAt h id with
    | some cs => (match cutV off (off + n * z) cs with
      | some l => some (n, l)
      | none => none)
    | none => none)
  | .es _ => some (0, [])
  | .c (.slice none 0 0) => some (0, [])
  | .str l => if z = 1 then some (l.length, l.map fun k => .int .u8 (.ofNat (k % 256))) else none
  | _ => none
def okJ : TypeDesc → Bool
  | .slice _ => true
  | .string => true
  | _ => false
def appN (ie : I) (e : TypeId) (id k : Nat) (l : List V) : Option Fx :=
  if k = 0 then some ⟨.c (.slice none 0 0), none, none⟩ else if k * ie.by_ ≤ 140737488355328 ∧ k ≤ 140737488355328 then some ⟨.sl id 0 k (.v id 0), none, some (id, .cells l e 0 0 (some ie.sz))⟩ else none
def appK (h : T O) (ie : I) (e : TypeId) (id k : Nat) (l : List V) (q off n c : Nat) : Option Fx := match h.get q with
  | some (.cells cs e' lo hi tl) => if n + k ≤ c then (match putE (off + n * ie.sz) cs l with
      | some ms => if (tl.isSome || thaw lo hi cs.length) = true then some ⟨.sl q off (n + k) (.k c), none, some (q, .cells ms e' lo hi tl)⟩ else none
      | none => none)
    else (match cutV off (off + n * ie.sz) cs with
      | some old => if (n + k) * ie.by_ ≤ 140737488355328 ∧ n + k ≤ 140737488355328 then some ⟨.sl id 0 (n + k) (.v id 0), none, some (id, .cells (old ++ l) e 0 0 (some ie.sz))⟩ else none
      | none => none)
  | _ => none
def appU (h : T O) (ie : I) (e : TypeId) (id k : Nat) (l : List V) (q off n q' m0 : Nat) : Option Fx := match h.get q with
  | some (.cells cs e' _ _ (some z)) => if q = q' ∧ off = m0 * z ∧ z = ie.sz ∧ e = e' ∧ (n + k) * ie.by_ ≤ 140737488355328 ∧ n + k ≤ 140737488355328 then (match cutV off (off + n * ie.sz) cs with
      | some old => some ⟨.sl id 0 (n + k) (.v id 0), some q, some (id, .cells (old ++ l) e 0 0 (some ie.sz))⟩
      | none => none) else none
  | _ => none
def appF (tb : Tb) (rs : T V) (h : T O) (id : Nat) (t u : TypeId) (x y : Operand) : Option Fx := match tb.get t, tb.get u, ov rs x, ov rs y with
  | some i, some j, some s, some v => (match i.d with
    | .slice e => (match tb.get e, newsV h i.esz v with
      | some ie, some (k, l) => if ((okJ j.d && Nat.beq ie.z.cells.size ie.sz) && allOne l) && Nat.blt 0 ie.sz then (match s with
        | .c (.slice none 0 0) => appN ie e id k l
        | .sl q off n (.k c) => appK h ie e id k l q off n c
        | .sl q off n (.v q' m0) => appU h ie e id k l q off n q' m0
        | _ => none) else none
      | _, _ => none)
    | _ => none)
  | _, _, _, _ => none
section
variable {P : Program} {σ : Nat → Value} {ρ : Nm} {n : Nat} {rs : T V} {h : T O} {a : Act} {w : World} {tb : Tb} {id : Nat} {f : Fx}
variable {dst : Option Tmp} {ty t t' : TypeId} {pos : String} {af : Array Edge} {gd : Option (Nat × Bool)} {x y : Operand} {o : Oper}
theorem cutV_cells {q off m : Nat} {cs l : List V} (hm : Mem σ ρ h w) (hc : cellsAt h q = some cs) (hl : cutV off (off + m) cs = some l) :
    l.length = m ∧ ∀ j u, (denL σ ρ l)[j]? = some u → w.cell? ((⟨(ρ q).b, (ρ q).o + off, none⟩ : Addr).add j) = some u := by
  obtain ⟨c1, c2, c3⟩ := cutV_some hl
  refine ⟨by omega, fun j u hj => ?_⟩
  rw [Addr.add_mid]
  refine cellsAt_row hm hc off j u ?_
  have hlt : j < (denL σ ρ l).length := (List.getElem?_eq_some_iff.1 hj).1
  rw [denL_len] at hlt
  rw [← c2, denL_map, List.map_take, List.map_drop, ← denL_map, List.getElem?_take_of_lt (by omega), List.getElem?_drop] at hj
  exact hj
theorem newsV_ok {z k : Nat} {v : V} {l : List V} (hm : Mem σ ρ h w) (hv : newsV h z v = some (k, l)) (w' : World) (hw : w'.heap = w.heap) :
    (Builtin.lenOf (v.den σ ρ)).run P w' = .ok k w' ∧ (Builtin.firstCells z k (v.den σ ρ)).run P w' = .ok (denL σ ρ l).toArray w' ∧ l.length = k * z := by
  unfold newsV at hv
  split at hv
  · rename_i q off m cp
    split at hv
    · rename_i cs hc
      split at hv
      · rename_i l' hl
        cases hv
        obtain ⟨c1, c2⟩ := cutV_cells hm hc hl
        refine ⟨by simp [V.den, Builtin.lenOf], ?_, c1⟩
        have := run_firstCells_some (P := P) w' z k ⟨(ρ q).b, (ρ q).o + off, none⟩ k (cp.den ρ) (denL σ ρ l) (by rw [denL_len, c1]) (fun j u hj => by
          have := c2 j u hj
          rw [← this]; simp [World.cell?, hw])
        simpa [V.den] using this
      · cases hv
    · cases hv
  · cases hv; exact ⟨by simp [V.den, Builtin.lenOf], by simp [V.den, Builtin.firstCells, loadCells, loadCellsFrom, denL], by simp⟩
  · cases hv; exact ⟨by simp [V.den, Builtin.lenOf], by simp [V.den, Builtin.firstCells, denL], by simp⟩
  · rename_i l'
    split at hv
    · rename_i hz
      cases hv
      refine ⟨by simp [V.den, Builtin.lenOf, mkS_size], ?_, by simp [hz]⟩
      simp only [V.den, Builtin.firstCells, Sem.run_pure]
      congr 1
      apply Array.ext'
      rw [show (mkS l').extract 0 l'.length = mkS l' by rw [← mkS_size]; apply ByteArray.ext; rw [ByteArray.data_extract]; exact Array.extract_size]
      simp only [mkS, denL_map, List.map_map]
      simp [V.den, UInt8.toNat_ofNat']
    · cases hv
  · cases hv
/-- Appended, where there is room. -/
theorem run_app_room {t u e ty : TypeId} {j : TypeDesc} {z k sl sc : Nat} {b : Option Addr} {y : Value} {news : List Value} (ht : P.underlying t = some (.slice e)) (hu : P.underlying u = some j) (hj : okJ j = true) (hz : ∀ w, (sizeOf e).run P w = .ok z w)
    (h1 : (Builtin.lenOf y).run P w = .ok k w) (h2 : (Builtin.firstCells z k y).run P w = .ok news.toArray w) (hr : sl + k ≤ sc) {w' : World} (h3 : (match b with
      | some p => storeCells (p.add (sl * z)) news
      | none => pure ()).run P w = .ok () w') :
    (Builtin.append_ #[t, u] ty #[.slice b sl sc, y]).run P w = .ok (.slice b (sl + k) sc) w' := by
  cases j <;> simp only [okJ, Bool.false_eq_true] at hj <;>
    (cases b with
    | none => simp only [Sem.run_pure] at h3; cases h3; simp [Builtin.append_, Sem.run_bind, run_underlying ht w, run_underlying hu w, hz, h1, hr, h2]
    | some p => simp only at h3; simp [Builtin.append_, Sem.run_bind, run_underlying ht w, run_underlying hu w, hz, h1, hr, h2, h3])
/-- Appended, where there is none: all is laid anew. -/
theorem run_app_grow {t u e ty : TypeId} {j : TypeDesc} {ie : I} {k sl sc : Nat} {b : Option Addr} {y : Value} {olds news : List Value} (ht : P.underlying t = some (.slice e)) (hu : P.underlying u = some j) (hj : okJ j = true) (hE : ie.ok P e)
    (h1 : (Builtin.lenOf y).run P w = .ok k w) (h2 : (Builtin.firstCells ie.sz k y).run P w.drew = .ok news.toArray w.drew) (ho : (Builtin.firstCells ie.sz sl (.slice b sl sc)).run P w.drew = .ok olds.toArray w.drew) (hr : sc < sl + k)
    (hb : (sl + k) * ie.by_ ≤ 140737488355328) (hk : sl + k ≤ 140737488355328) :
    (Builtin.append_ #[t, u] ty #[.slice b sl sc, y]).run P w = .ok (.slice (some ⟨w.heap.size, 0, none⟩) (sl + k) (grownCap w (sl + k) sc e)) (w.drew.alloc (.cells (olds ++ news ++ repV ie.z.cells.toList (grownCap w (sl + k) sc e - (sl + k))).toArray e)) := by
  have hby := hE.by_
  cases hq : P.info? e with
  | none => simp [hq] at hby
  | some ti =>
    have hbt : ti.bytes = ie.by_ := by simpa [hq] using hby
    have hf := growslice_fits hr hb
    have hN : ¬ (sl + k ≤ sc) := by omega
    have h63 : ¬ (9223372036854775807 < ((sl : Int) + (k : Int))) := by omega
    have h48 : ¬ (281474976710656 < Builtin.nextslicecap (sl + k) sc * ie.by_) := by omega
    cases j <;> simp only [okJ, Bool.false_eq_true] at hj <;>
      (simp [Builtin.append_, Sem.run_bind, run_underlying ht w, run_underlying hu w, hE.sz, h1, hN, h63, h48, typeInfo, hq, hbt, Question.forced, h2, ho, hE.z, newRow, grownCap, zeros_rep])
theorem append_op {t u : TypeId} {x y : Operand} {vx vy r : Value} {w' : World} (hx : a.eval x = vx) (hy : a.eval y = vy) (hr : (Builtin.append_ #[t, u] ty #[vx, vy]).run P w = .ok r w') :
    (execOp a.eval ⟨dst, .call ⟨.builtin .append, #[x, y], #[t, u]⟩, ty, pos, af, gd⟩).run P w = .ok (.value r) w' := by
  simp [execOp, resolve, invoke, builtin, hx, hy, hr]
/-- All is laid anew: what it does. -/
theorem does_grow {s : Sem Next} {e : TypeId} {ie : I} {m z cap : Nat} {l : List V} {olds : List Value} {rm : Option Nat} (hz : ie.z.cells.size = z) (hl : l.length = m * z) (hc : m ≤ cap) (hold : ∀ ρ', ρ' = ρ → olds = denL σ ρ' l)
    (hrun : s.run P w = .ok (.value (.slice (some ⟨w.heap.size, 0, none⟩) m cap)) (w.drew.alloc (.cells (olds ++ repV ie.z.cells.toList (cap - m)).toArray e))) (hm : Mem σ ρ h w) (hrm : ∀ q, rm = some q → ∃ o, h.get q = some o) :
    Does P σ ρ h w id ⟨.sl id 0 m (.v id 0), rm, some (id, .cells l e 0 0 (some z))⟩ s (.slice (some ⟨w.heap.size, 0, none⟩) m cap) (w.drew.alloc (.cells (olds ++ repV ie.z.cells.toList (cap - m)).toArray e)) := by
  have hkeep : ∀ k, k < w.heap.size → (w.drew.alloc (.cells (olds ++ repV ie.z.cells.toList (cap - m)).toArray e)).heap[k]? = w.heap[k]? := fun k hk => Below.heap_alloc w.drew _ k hk
  refine ⟨.inl hrun, (Keeps.alloc w.drew _ _).drew, fun p o q => by cases q; exact .inl rfl, fun hρ => ⟨by simp [V.den, Cp.den, hρ, nmOf], fun h' hh => ?_⟩, fun _ _ => .inl (by simp [nmOf])⟩
  have hho : O.holds σ ρ (ρ id) (w.drew.alloc (.cells (olds ++ repV ie.z.cells.toList (cap - m)).toArray e)) (.cells l e 0 0 (some z)) := by
    refine ⟨[], repV ie.z.cells.toList (cap - m), (0, 0), ?_, .inl (Nat.le_refl _), by simp [hρ, nmOf], ?_⟩
    · have hb : (ρ id).b = w.heap.size := by simp [hρ, nmOf]
      rw [hb, ← hold ρ rfl]
      exact heap_alloc_new w.drew _
    · have hcc : (ρ id).c = cap := by simp [hρ, nmOf]
      rw [hcc, hl, repV_len, Array.length_toList, hz, ← Nat.add_mul]; congr 1; omega
  have hp : w.heap.size ≤ (ρ id).b := by simp [hρ, nmOf]
  cases rm with
  | none => exact hm.new (p := id) (fun j => by rw [hh]; simp [Fx.to]) hkeep hho hp
  | some q =>
    obtain ⟨o, hq⟩ := hrm q rfl
    refine hm.turn (i := q) (p := id) hq (fun j => ?_) (fun k hk _ => hkeep k hk) hho (.inr hp)
    rw [hh]; simp only [Fx.to]
    by_cases e1 : j = id
    · simp [e1]
    · by_cases e2 : j = q
      · simp [e2]
      · have : ¬ (some q = some j) := fun q' => e2 (by cases q'; rfl)
        simp [e1, e2, this]
/-- What is known where something is put behind. -/
structure App (P : Program) (σ : Nat → Value) (ρ : Nm) (w : World) (t u e : TypeId) (j : TypeDesc) (ie : I) (vy : Value) (k : Nat) (l : List V) : Prop where
  d : P.underlying t = some (.slice e)
  u : P.underlying u = some j
  j : okJ j = true
  E : ie.ok P e
  z : ie.z.cells.size = ie.sz
  one : allOne l = true
  pos : 0 < ie.sz
  n1 : (Builtin.lenOf vy).run P w = .ok k w
  n2 : (Builtin.firstCells ie.sz k vy).run P w = .ok (denL σ ρ l).toArray w
  n2' : (Builtin.firstCells ie.sz k vy).run P w.drew = .ok (denL σ ρ l).toArray w.drew
  n3 : l.length = k * ie.sz
variable {t u e : TypeId} {j : TypeDesc} {ie : I} {vy vx : Value} {k : Nat} {l : List V}
theorem appN_ok (A : App P σ ρ w t u e j ie vy k l) (hm : Mem σ ρ h w) (hx' : a.eval x = .slice none 0 0) (hy' : a.eval y = vy) (hf : appN ie e id k l = some f) :
    ∃ r w', Does P σ ρ h w id f (execOp a.eval ⟨dst, .call ⟨.builtin .append, #[x, y], #[t, u]⟩, ty, pos, af, gd⟩) r w' := by
  unfold appN at hf
  split at hf
  · rename_i hk
    simp only [Option.some.injEq] at hf
    subst hf hk
    have hl : l = [] := List.eq_nil_of_length_eq_zero (by have := A.n3; omega)
    have n2 := A.n2
    rw [hl] at n2
    have := run_app_room (P := P) (w := w) (w' := w) (ty := ty) (b := none) (sl := 0) (sc := 0) A.d A.u A.j A.E.sz A.n1 (by simpa [denL] using n2) (Nat.le_refl _) (by simp)
    refine ⟨.slice none 0 0, w, .inl (append_op hx' hy' this), Keeps.refl _ _, fun _ _ q => (by cases q), fun _ => ⟨by simp [V.den], fun h' hh => ?_⟩, fun ⟨_, q⟩ => (by cases q)⟩
    have : ∀ j, h'.get j = h.get j := fun j => by rw [hh]; simp [Fx.to]
    exact ⟨fun i o hi => hm.ok i o (by rw [← this]; exact hi), fun i j o o' hi hj => hm.apart i j o o' (by rw [← this]; exact hi) (by rw [← this]; exact hj)⟩
  · rename_i hk
    split at hf
    · rename_i hb2
      simp only [Option.some.injEq] at hf
      subst hf
      have hrun := run_app_grow (P := P) (w := w) (ty := ty) (b := none) (sl := 0) (sc := 0) (olds := []) A.d A.u A.j A.E A.n1 A.n2' (by simp [Builtin.firstCells]) (by omega) (by simpa using hb2.1) (by simpa using hb2.2)
      simp only [Nat.zero_add, List.nil_append] at hrun
      exact ⟨_, _, does_grow A.z A.n3 (grownCap_ge _ _ _ _) (fun ρ' h' => by rw [h']) (append_op hx' hy' hrun) hm (fun q hq => by cases hq)⟩
    · cases hf
theorem appK_ok (A : App P σ ρ w t u e j ie vy k l) (hm : Mem σ ρ h w) {q off m c : Nat} (hx' : a.eval x = .slice (some ⟨(ρ q).b, (ρ q).o + off, none⟩) m c) (hy' : a.eval y = vy) (hf : appK h ie e id k l q off m c = some f) :
    ∃ r w', Does P σ ρ h w id f (execOp a.eval ⟨dst, .call ⟨.builtin .append, #[x, y], #[t, u]⟩, ty, pos, af, gd⟩) r w' := by
  unfold appK at hf
  split at hf
  · rename_i cs e' lo hi' tl hg
    split at hf
    · rename_i hroom
      split at hf
      · rename_i ms hp
        split at hf
        · rename_i hth
          simp only [Option.some.injEq] at hf
          subst hf
          obtain ⟨q1, q2⟩ := cells_put (P := P) hm hg hp (fun e => by subst e; simpa using hth) A.one
          have hrun := run_app_room (P := P) (w := w) (ty := ty) (b := some ⟨(ρ q).b, (ρ q).o + off, none⟩) (sl := m) (sc := c) A.d A.u A.j A.E.sz A.n1 A.n2 hroom (w' := w.setCells (ρ q).b ((ρ q).o + (off + m * ie.sz)) (denL σ ρ l)) (by dsimp only; rw [add_off]; exact q1)
          refine ⟨_, _, .inl (append_op hx' hy' hrun), setCells_keeps ⟨_, _, hg, rfl⟩, fun p o q => by cases q; exact .inr ⟨_, hg⟩, fun _ => ⟨by simp [V.den, Cp.den], fun h' hh => ?_⟩, fun ⟨o, q'⟩ hn => by cases q'; rw [hn] at hg; cases hg⟩
          refine hm.turn (i := q) (p := q) hg (fun j => ?_) (fun k _ hk => setCells_other _ _ _ _ _ hk) q2 (.inl rfl)
          rw [hh]; simp only [Fx.to]
          by_cases ej : j = q <;> simp [ej]
        · cases hf
      · cases hf
    · rename_i hroom
      split at hf
      · rename_i old hold
        split at hf
        · rename_i hb2
          simp only [Option.some.injEq] at hf
          subst hf
          have hc : cellsAt h q = some cs := by simp [cellsAt, hg]
          obtain ⟨c1, c2⟩ := cutV_cells hm hc hold
          have ho := run_firstCells_some (P := P) w.drew ie.sz m ⟨(ρ q).b, (ρ q).o + off, none⟩ m c (denL σ ρ old) (by rw [denL_len, c1]) (fun j u hj => by have := c2 j u hj; simpa using this)
          have hrun := run_app_grow (P := P) (w := w) (ty := ty) (b := some ⟨(ρ q).b, (ρ q).o + off, none⟩) (sl := m) (sc := c) A.d A.u A.j A.E A.n1 A.n2' ho (by omega) hb2.1 hb2.2
          exact ⟨_, _, does_grow (l := old ++ l) A.z (by rw [List.length_append, c1, A.n3, Nat.add_mul]) (grownCap_ge _ _ _ _) (fun ρ' h' => by rw [h']; simp only [denL_map, List.map_append]) (append_op hx' hy' hrun) hm (fun q hq => by cases hq)⟩
        · cases hf
      · cases hf
  · cases hf
theorem appU_ok (A : App P σ ρ w t u e j ie vy k l) (hm : Mem σ ρ h w) {q off m q' m0 : Nat} (hx' : a.eval x = .slice (some ⟨(ρ q).b, (ρ q).o + off, none⟩) m ((ρ q').c - m0)) (hy' : a.eval y = vy) (hf : appU h ie e id k l q off m q' m0 = some f) :
    ∃ r w', Does P σ ρ h w id f (execOp a.eval ⟨dst, .call ⟨.builtin .append, #[x, y], #[t, u]⟩, ty, pos, af, gd⟩) r w' := by
  unfold appU at hf
  split at hf
  · rename_i cs e' lo hi' z hg
    split at hf
    · rename_i hb2
      obtain ⟨d1, d2, d3, d3', d4, d5⟩ := hb2
      subst d1 d2 d3 d3'
      split at hf
      · rename_i old hold
        simp only [Option.some.injEq] at hf
        subst hf
        have hc : cellsAt h q = some cs := by simp [cellsAt, hg]
        obtain ⟨c1, c2⟩ := cutV_cells hm hc hold
        have n3 := A.n3
        have hll : (old ++ l).length = (m + k) * ie.sz := by rw [List.length_append, c1, n3, Nat.add_mul]
        have hdd : denL σ ρ (old ++ l) = denL σ ρ old ++ denL σ ρ l := by simp only [denL_map, List.map_append]
        by_cases hroom : m + k ≤ (ρ q).c - m0
        · obtain ⟨pre, suf, fz, g1, g2, g3, g4⟩ := hm.ok _ _ hg
          obtain ⟨k1, k2, k3⟩ := cutV_some hold
          have hle : m0 * ie.sz + m * ie.sz ≤ cs.length := by
            have := congrArg List.length k2
            rw [List.length_take, List.length_drop, k3] at this
            omega
          have htot : (m + k) * ie.sz ≤ ((ρ q).c - m0) * ie.sz := Nat.mul_le_mul_right _ hroom
          rw [Nat.sub_mul, Nat.add_mul] at htot
          have hlen : (pre ++ (denL σ ρ cs ++ suf)).length = pre.length + cs.length + suf.length := by simp [denL_len]; omega
          have h1' := allOne_ok (σ := σ) (ρ := ρ) A.one
          rw [List.all_eq_true] at h1'
          have hst := run_storeCells_cells (P := P) (ρ q).b ((ρ q).o + (m0 * ie.sz + m * ie.sz)) (denL σ ρ l) 0 w (fun j hj => by
              rw [denL_len] at hj
              rw [cell_of_row w _ _ _ e fz g1, List.getElem?_toArray, List.getElem?_eq_getElem (by rw [hlen]; omega)]; rfl)
            (fun j hj => by
              rw [denL_len] at hj
              simp only [World.frozen?, g1, Bool.and_eq_false_iff, decide_eq_false_iff_not]
              omega) (fun v hv => h1' v hv)
          have hrun := run_app_room (P := P) (w := w) (ty := ty) (b := some ⟨(ρ q).b, (ρ q).o + m0 * ie.sz, none⟩) (sl := m) (sc := (ρ q).c - m0) A.d A.u A.j A.E.sz A.n1 A.n2 hroom (w' := w.setCells (ρ q).b ((ρ q).o + (m0 * ie.sz + m * ie.sz)) (denL σ ρ l)) (by dsimp only; rw [add_off]; simpa using hst)
          refine ⟨_, _, .inl (append_op hx' hy' hrun), setCells_keeps ⟨_, _, hg, rfl⟩, fun p o q => by cases q; exact .inl rfl, fun hρ => ⟨by simp [V.den, Cp.den, hρ, nmOf], fun h' hh => ?_⟩, fun _ _ => .inr ⟨q, _, hg, by simp [nmOf]⟩⟩
          have hb' : (ρ id).b = (ρ q).b := by simp [hρ, nmOf]
          have ho' : (ρ id).o = (ρ q).o + m0 * ie.sz := by simp [hρ, nmOf]
          have hc' : (ρ id).c = (ρ q).c - m0 := by simp [hρ, nmOf]
          refine hm.turn (i := q) (p := id) (o := .cells (old ++ l) e 0 0 (some ie.sz)) hg (fun j => ?_) (fun k _ hk => setCells_other _ _ _ _ _ hk) ?_ (.inl hb')
          · rw [hh]; simp only [Fx.to]
            by_cases e1 : j = id
            · simp [e1]
            · by_cases e2 : j = q
              · simp [e2]
              · have : ¬ (some q = some j) := fun q' => e2 (by cases q'; rfl)
                simp [e1, e2, this]
          · have hset := setCells_heap (denL σ ρ l) ((ρ q).o + (m0 * ie.sz + m * ie.sz)) w _ g1 (by rw [hlen, denL_len]; omega)
            have hmin : min (m0 * ie.sz) cs.length = m0 * ie.sz := Nat.min_eq_left k1
            refine ⟨pre ++ (denL σ ρ cs).take (m0 * ie.sz), (pre ++ (denL σ ρ cs ++ suf)).drop ((ρ q).o + (m0 * ie.sz + m * ie.sz) + l.length), fz, ?_, ?_, ?_, ?_⟩
            · rw [hb', hset, hdd]
              congr 3
              rw [denL_len]
              have e1 : (pre ++ (denL σ ρ cs ++ suf)).take ((ρ q).o + (m0 * ie.sz + m * ie.sz)) = pre ++ ((denL σ ρ cs).take (m0 * ie.sz) ++ denL σ ρ old) := by
                rw [← g3, List.take_append, List.take_of_length_le (by omega), show pre.length + (m0 * ie.sz + m * ie.sz) - pre.length = m0 * ie.sz + m * ie.sz by omega, List.take_append_of_le_length (by rw [denL_len]; omega)]
                congr 1
                rw [List.take_add]
                congr 1
                rw [← k2, denL_map, denL_map, List.map_take, List.map_drop, show m0 * ie.sz + m * ie.sz - m0 * ie.sz = m * ie.sz by omega]
              rw [e1]; simp only [List.append_assoc]
            · rw [List.length_append, List.length_take, denL_len, hll, List.length_drop, hlen, hmin, Nat.add_mul]
              omega
            · rw [List.length_append, List.length_take, denL_len, ho', g3, hmin]
            · rw [hll, List.length_drop, hlen, hc', Nat.sub_mul, Nat.add_mul, ← g4, n3]
              omega
        · have ho := run_firstCells_some (P := P) w.drew ie.sz m ⟨(ρ q).b, (ρ q).o + m0 * ie.sz, none⟩ m ((ρ q).c - m0) (denL σ ρ old) (by rw [denL_len, c1]) (fun j u hj => by have := c2 j u hj; simpa using this)
          have hrun := run_app_grow (P := P) (w := w) (ty := ty) (b := some ⟨(ρ q).b, (ρ q).o + m0 * ie.sz, none⟩) (sl := m) (sc := (ρ q).c - m0) A.d A.u A.j A.E A.n1 A.n2' ho (by omega) d4 d5
          exact ⟨_, _, does_grow (l := old ++ l) A.z hll (grownCap_ge _ _ _ _) (fun ρ' h' => by rw [h', hdd]) (append_op hx' hy' hrun) hm (fun q' hq => by cases hq; exact ⟨_, hg⟩)⟩
      · cases hf
    · cases hf
  · cases hf
theorem appF_ok (hT : tb.ok P) (hr : RegsOk σ ρ n rs a.tmps) (hm : Mem σ ρ h w) (hf : appF tb rs h id t u x y = some f) :
    ∃ r w', Does P σ ρ h w id f (execOp a.eval ⟨dst, .call ⟨.builtin .append, #[x, y], #[t, u]⟩, ty, pos, af, gd⟩) r w' := by
  unfold appF at hf
  split at hf
  · rename_i i j s v hi hj hx hy
    have hd := (hT _ _ hi).d
    have hu := (hT _ _ hj).d
    have hx' := ov_ev hr hx
    have hy' := ov_ev hr hy
    split at hf
    · rename_i e hz
      rw [hz] at hd
      have hel := (hT _ _ hi).els _ hz
      split at hf
      · rename_i ie k l he hnews
        have hE := hT _ _ he
        have hesz : i.esz = ie.sz := by
          have e1 := hel w
          rw [hE.sz w] at e1
          exact (Result.ok.inj e1).1.symm
        rw [hesz] at hnews
        split at hf
        · rename_i hb
          simp only [Bool.and_eq_true] at hb
          obtain ⟨⟨⟨b1, b2⟩, b3⟩, b4⟩ := hb
          rw [Nat.blt_eq] at b4
          obtain ⟨n1, n2, n3⟩ := newsV_ok hm hnews w rfl
          obtain ⟨_, n2', _⟩ := newsV_ok hm hnews w.drew rfl
          have A : App P σ ρ w t u e j.d ie (v.den σ ρ) k l := ⟨hd, hu, b1, hE, Nat.eq_of_beq_eq_true b2, b3, b4, n1, n2, n2', n3⟩
          split at hf
          · exact appN_ok A hm (by simpa [V.den] using hx') hy' hf
          · exact appK_ok A hm (by simpa [V.den, Cp.den] using hx') hy' hf
          · exact appU_ok A hm (by simpa [V.den, Cp.den] using hx') hy' hf
          · cases hf
        · cases hf
      · cases hf
    · cases hf
  · cases hf
end
end Go.Proofs.YtkjhjgokaeiopaaGreatDoor.E
