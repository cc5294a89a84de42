/-
  The logic's laws: control, and the operations one by one.
-/
import Derived.Test.YtkjhjgokaeiopaaGreatDoorS
import Derived.Deep.LoopGhost
namespace Go.Proofs.YtkjhjgokaeiopaaGreatDoor
open Go Go.RowKit

section
variable {P : Program} {N : Nat} {R R' : Regs} {S S' : World → Prop} {Q : Exit → Act → World → Prop} {X : Act → World → Prop}

/-! ### Control -/
theorem G.mono {X Y : Act → World → Prop} (h : G N R S X) (hxy : ∀ a w, X a w → Y a w) : G N R S Y := fun a w hR hS => hxy a w (h a w hR hS)
theorem G.weaken (hs : ∀ w, S w → S' w) (h : G N R S' X) : G N R S X := fun a w hR hS => h a w hR (hs w hS)
theorem G.keep (ks : List Nat) (hR : R.only ks = R') (h : G N R' S X) : G N R S X := fun a w hr hS => h a w (hR ▸ hr.only ks) hS
theorem g_seq {x y : Code} (h : G N R S (x.wp P (Exit.then (y.wp P Q) Q))) : G N R S ((Code.seq x y).wp P Q) := fun a w hR hS => wp_seq (h a w hR hS)
theorem g_skip (h : G N R S (Q .normal)) : G N R S (Code.skip.wp P Q) := fun a w hR hS => wp_skip (h a w hR hS)
theorem g_label {l : Nat} (h : G N R S (Q .normal)) : G N R S ((Code.label l).wp P Q) := fun a w hR hS => wp_label (h a w hR hS)
theorem g_exit {id : Nat} (h : G N R S (Q (.exit id))) : G N R S ((Code.exit id).wp P Q) := fun a w hR hS => wp_exit (h a w hR hS)
theorem g_goto {l : Nat} (h : G N R S (Q (.goto l))) : G N R S ((Code.goto l).wp P Q) := fun a w hR hS => wp_goto (h a w hR hS)
theorem g_ret (h : G N R S (Q .ret)) : G N R S (Code.ret.wp P Q) := fun a w hR hS => wp_ret (h a w hR hS)
theorem g_block {id : Nat} {c : Code} (h : G N R S (c.wp P (Exit.inBlock id Q))) : G N R S ((Code.block id c).wp P Q) := fun a w hR hS => wp_block (h a w hR hS)
theorem g_cond {c : Operand} {x y : Code} {t : Bool} (hc : ev R c = some (.bool t)) (h1 : t = true → G N R S (x.wp P Q)) (h2 : t = false → G N R S (y.wp P Q)) : G N R S ((Code.cond c x y).wp P Q) :=
  fun a w hR hS => wp_cond (hR.eval hc) (by cases t <;> simp <;> first | exact h1 rfl a w hR hS | exact h2 rfl a w hR hS)
theorem g_cond_t {c : Operand} {x y : Code} (hc : ev R c = some (.bool true)) (h1 : G N R S (x.wp P Q)) : G N R S ((Code.cond c x y).wp P Q) := fun a w hR hS => wp_cond_true (hR.eval hc) (h1 a w hR hS)
theorem g_cond_f {c : Operand} {x y : Code} (hc : ev R c = some (.bool false)) (h1 : G N R S (y.wp P Q)) : G N R S ((Code.cond c x y).wp P Q) := fun a w hR hS => wp_cond_false (hR.eval hc) (h1 a w hR hS)
theorem g_then {K : Act → World → Prop} (h : G N R S K) : G N R S (Exit.then K Q .normal) := h
theorem g_then_exit {K : Act → World → Prop} {id : Nat} (h : G N R S (Q (.exit id))) : G N R S (Exit.then K Q (.exit id)) := h
theorem g_then_ret {K : Act → World → Prop} (h : G N R S (Q .ret)) : G N R S (Exit.then K Q .ret) := h
theorem g_then_goto {K : Act → World → Prop} {l : Nat} (h : G N R S (Q (.goto l))) : G N R S (Exit.then K Q (.goto l)) := h
theorem g_in_normal {id : Nat} (h : G N R S (Q .normal)) : G N R S (Exit.inBlock id Q .normal) := h
theorem g_in_ret {id : Nat} (h : G N R S (Q .ret)) : G N R S (Exit.inBlock id Q .ret) := h
theorem g_in_goto {id l : Nat} (h : G N R S (Q (.goto l))) : G N R S (Exit.inBlock id Q (.goto l)) := h
theorem g_in_exit {id : Nat} (h : G N R S (Q .normal)) : G N R S (Exit.inBlock id Q (.exit id)) := fun a w hR hS => by
  show Exit.inBlock id Q (.exit id) a w
  simp only [Exit.inBlock, if_true]
  exact h a w hR hS
theorem g_in_exit_ne {id id' : Nat} (hne : Nat.beq id' id = false) (h : G N R S (Q (.exit id'))) : G N R S (Exit.inBlock id Q (.exit id')) := fun a w hR hS => by
  have hne' : id' ≠ id := Nat.ne_of_beq_eq_false hne
  show Exit.inBlock id Q (.exit id') a w
  simp only [Exit.inBlock, if_neg hne']
  exact h a w hR hS

/-- A loop: x tells what holds at a round's head; m falls. -/
def Again {α : Type} (N : Nat) (Rl : α → Regs) (Sl : α → World → Prop) (m : α → Nat) (n : Nat) (a : Act) (w : World) : Prop := ∃ y, m y < n ∧ Rf N (Rl y) a ∧ Sl y w
theorem g_loop {α : Type} {c : Code} (Rl : α → Regs) (Sl : α → World → Prop) (m : α → Nat) (x0 : α) (ks : List Nat) (hR : R.only ks = Rl x0) (h0 : ∀ w, S w → Sl x0 w)
    (round : ∀ x, G N (Rl x) (Sl x) (c.wp P (Exit.then (Again N Rl Sl m (m x)) Q))) : G N R S ((Code.loop c).wp P Q) := by
  intro a w hr hS
  refine wp_loop_ghost (fun n a w => ∃ x, m x = n ∧ Rf N (Rl x) a ∧ Sl x w) (m x0) ⟨x0, rfl, hR ▸ hr.only ks, h0 w hS⟩ ?_
  rintro n a w ⟨x, rfl, hrx, hSx⟩
  refine wp_mono (round x a w hrx hSx) ?_
  intro e a' w' hq
  cases e with
  | normal => obtain ⟨y, h1, h2, h3⟩ := hq; exact ⟨m y, h1, y, rfl, h2, h3⟩
  | _ => exact hq
theorem g_again {α : Type} {Rl : α → Regs} {Sl : α → World → Prop} {m : α → Nat} {n : Nat} (y : α) (ks : List Nat) (hm : m y < n) (hR : R.only ks = Rl y) (hS : ∀ w, S w → Sl y w) : G N R S (Exit.then (Again N Rl Sl m n) Q .normal) :=
  fun _ w hr hs => ⟨y, hm, hR ▸ hr.only ks, hS w hs⟩

/-- A scope that is jumped about in: 'n' falls with each jump. -/
def Exit.jumps (J : Nat → Nat → Act → World → Prop) (n : Option Nat) (Q : Exit → Act → World → Prop) : Exit → Act → World → Prop
  | .goto l, a, w => ∃ k, (∀ m, n = some m → k < m) ∧ J k l a w
  | e, a, w => Q e a w
theorem wp_scope_ghost {c : Code} (J : Nat → Nat → Act → World → Prop) {a : Act} {w : World}
    (first : c.wp P (Exit.jumps J none Q) a w)
    (pass : ∀ n l a w, J n l a w → ∃ rest, findLabel c l = some rest ∧ rest.wp P (Exit.jumps J (some n) Q) a w) : (Code.scope c).wp P Q a w := by
  intro b k cs
  have hg : ∀ l rest, findLabel c l = some rest → gotoIn l (.inScope c :: k) = some (.code rest :: .inScope c :: k) := fun l rest hf => by simp [gotoIn, hf]
  have key : ∀ n l a w rest, J n l a w → findLabel c l = some rest → ∃ e a' w', Q e a' w' ∧ Arrives P (lone (b.at a (.code rest :: .inScope c :: k)) cs w) b k cs e a' w' := by
    intro n
    induction n using Nat.strongRecOn with
    | _ n ih =>
      intro l a w rest hJ hf
      obtain ⟨rest', hf', hw⟩ := pass n l a w hJ
      rw [hf] at hf'
      obtain rfl := Option.some.inj hf'
      obtain ⟨e, a₁, w₁, hq, harr⟩ := hw b (.inScope c :: k) cs
      cases e with
      | normal => exact ⟨.normal, a₁, w₁, hq, Steps.trans harr (.one step_inScope)⟩
      | exit id => exact ⟨.exit id, a₁, w₁, hq, fun k' hk => harr k' (by simp [exitTo, hk])⟩
      | goto l' =>
        obtain ⟨n', hlt, hJ'⟩ := hq
        obtain ⟨rest2, hf2, _⟩ := pass n' l' a₁ w₁ hJ'
        obtain ⟨e₂, a₂, w₂, hq₂, harr₂⟩ := ih n' (hlt n rfl) l' a₁ w₁ rest2 hJ' hf2
        exact ⟨e₂, a₂, w₂, hq₂, .of_steps (harr _ (hg l' rest2 hf2)) harr₂⟩
      | ret => exact ⟨_, a₁, w₁, hq, harr⟩
      | panic ch => exact ⟨_, a₁, w₁, hq, harr⟩
      | outgrown => exact ⟨_, a₁, w₁, hq, harr⟩
  obtain ⟨e, a₁, w₁, hq, harr⟩ := first b (.inScope c :: k) cs
  cases e with
  | normal => exact ⟨.normal, a₁, w₁, hq, .head step_scope (Steps.trans harr (.one step_inScope))⟩
  | exit id => exact ⟨.exit id, a₁, w₁, hq, fun k' hk => .head step_scope (harr k' (by simp [exitTo, hk]))⟩
  | goto l' =>
    obtain ⟨n', _, hJ'⟩ := hq
    obtain ⟨rest2, hf2, _⟩ := pass n' l' a₁ w₁ hJ'
    obtain ⟨e₂, a₂, w₂, hq₂, harr₂⟩ := key n' l' a₁ w₁ rest2 hJ' hf2
    exact ⟨e₂, a₂, w₂, hq₂, .of_steps (Steps.trans (.one step_scope) (harr _ (hg l' rest2 hf2))) harr₂⟩
  | ret => exact ⟨_, a₁, w₁, hq, .of_steps (.one step_scope) harr⟩
  | panic ch => exact ⟨_, a₁, w₁, hq, .of_steps (.one step_scope) harr⟩
  | outgrown => exact ⟨_, a₁, w₁, hq, .of_steps (.one step_scope) harr⟩

/-- What holds at the labels: x tells. -/
def At {α : Type} (N : Nat) (Rl : α → Regs) (Sl : α → World → Prop) (lab m : α → Nat) (n l : Nat) (a : Act) (w : World) : Prop := ∃ x, m x = n ∧ lab x = l ∧ Rf N (Rl x) a ∧ Sl x w
theorem g_scope {α : Type} {c : Code} (Rl : α → Regs) (Sl : α → World → Prop) (lab m : α → Nat)
    (first : G N R S (c.wp P (Exit.jumps (At N Rl Sl lab m) none Q)))
    (pass : ∀ x, ∃ rest, findLabel c (lab x) = some rest ∧ G N (Rl x) (Sl x) (rest.wp P (Exit.jumps (At N Rl Sl lab m) (some (m x)) Q))) : G N R S ((Code.scope c).wp P Q) := by
  intro a w hr hS
  refine wp_scope_ghost (At N Rl Sl lab m) (first a w hr hS) ?_
  rintro n l a w ⟨x, rfl, rfl, hrx, hSx⟩
  obtain ⟨rest, hf, hg⟩ := pass x
  exact ⟨rest, hf, hg a w hrx hSx⟩
theorem g_jump {α : Type} {Rl : α → Regs} {Sl : α → World → Prop} {lab m : α → Nat} {n : Option Nat} {l : Nat} (y : α) (ks : List Nat) (hl : lab y = l) (hm : ∀ j, n = some j → m y < j) (hR : R.only ks = Rl y) (hS : ∀ w, S w → Sl y w) : G N R S (Exit.jumps (At N Rl Sl lab m) n Q (.goto l)) :=
  fun _ w hr hs => ⟨m y, hm, y, rfl, hl, hR ▸ hr.only ks, hS w hs⟩
theorem g_jumps_normal {J : Nat → Nat → Act → World → Prop} {n : Option Nat} (h : G N R S (Q .normal)) : G N R S (Exit.jumps J n Q .normal) := h
theorem g_jumps_ret {J : Nat → Nat → Act → World → Prop} {n : Option Nat} (h : G N R S (Q .ret)) : G N R S (Exit.jumps J n Q .ret) := h
theorem g_jumps_exit {J : Nat → Nat → Act → World → Prop} {n : Option Nat} {id : Nat} (h : G N R S (Q (.exit id))) : G N R S (Exit.jumps J n Q (.exit id)) := h

/-! ### A function -/
/-- A call: its registers begin as its arguments. -/
def regsFrom (i : Nat) : List Value → Regs
  | [] => []
  | v :: vs => (i, v) :: regsFrom (i + 1) vs
theorem lookup_regsFrom (vs : List Value) : ∀ (i j : Nat) (v : Value), (regsFrom i vs).lookup j = some v → i ≤ j ∧ vs[j - i]? = some v := by
  induction vs with
  | nil => intro i j v h; simp [regsFrom] at h
  | cons u vs ih =>
    intro i j v h
    simp only [regsFrom, List.lookup_cons] at h
    by_cases e : j = i
    · subst e; simp at h; subst h; simp
    · have e' : (j == i) = false := by simpa using e
      rw [e'] at h
      obtain ⟨h1, h2⟩ := ih (i + 1) j v h
      refine ⟨by omega, ?_⟩
      have : j - i = (j - (i + 1)) + 1 := by omega
      rw [this, List.getElem?_cons_succ]; exact h2
theorem fn_intro {f : FuncId} {fn : Func} {c : Code} {vs : List Value} {w : World} {Rr : Ending → World → Prop} {N : Nat} {R : Regs} (hf : P.funcs[f]? = some fn) (hb : fn.body = some c) (hN : fn.ntmps = N) (hn : Nat.ble vs.length N = true)
    (hR : regsFrom 0 vs = R) (h : G N R (St w [] []) (c.wp P (bodyPost P fn Rr))) : Calls P f vs.toArray w Rr := by
  subst hR
  have hn' : vs.length ≤ N := Nat.le_of_ble_eq_true hn
  refine calls_of_wp hf hb (h _ w ⟨?_, rfl, fun i v hi => ?_⟩ (St.refl w))
  · simp [hN]; omega
  · obtain ⟨_, h2⟩ := lookup_regsFrom vs 0 i v hi
    simp only [Nat.sub_zero] at h2
    have hlt : i < vs.length := (List.getElem?_eq_some_iff.1 h2).1
    simp [Array.getElem?_append, hlt]
    exact (List.getElem?_eq_some_iff.1 h2).2
/-- .. that is handed some blocks to own. -/
theorem St.start {w : World} (L : List Ent) (ok : ∀ e ∈ L, e.holds w) (ap : L.Pairwise fun x y => ∀ k, k ∈ x.fp → k ∉ y.fp) : St w (L.flatMap Ent.fp) L w :=
  ⟨rfl, rfl, rfl, Nat.le_refl _, fun _ _ _ => rfl, ok, fun e he _ hk => .inr (List.mem_flatMap.2 ⟨e, he, hk⟩), ap⟩
theorem fn_intro_own {f : FuncId} {fn : Func} {c : Code} {vs : List Value} {w : World} {Rr : Ending → World → Prop} {N : Nat} {R : Regs} {F : List Nat} {L : List Ent} (hf : P.funcs[f]? = some fn) (hb : fn.body = some c) (hN : fn.ntmps = N) (hn : Nat.ble vs.length N = true)
    (hR : regsFrom 0 vs = R) (hS : St w F L w) (h : G N R (St w F L) (c.wp P (bodyPost P fn Rr))) : Calls P f vs.toArray w Rr := by
  subst hR
  have hn' : vs.length ≤ N := Nat.le_of_ble_eq_true hn
  refine calls_of_wp hf hb (h _ w ⟨?_, rfl, fun i v hi => ?_⟩ hS)
  · simp [hN]; omega
  · obtain ⟨_, h2⟩ := lookup_regsFrom vs 0 i v hi
    simp only [Nat.sub_zero] at h2
    have hlt : i < vs.length := (List.getElem?_eq_some_iff.1 h2).1
    simp [Array.getElem?_append, hlt]
    exact (List.getElem?_eq_some_iff.1 h2).2

theorem g_end {fn : Func} {Rr : Ending → World → Prop} {v : Value} (hv : ∀ a w, Rf N R a → S w → (results fn a.tmps).run P w = .ok v w) (h : ∀ w, S w → Rr (.returned v) w) : G N R S (bodyPost P fn Rr .ret) :=
  fun a w hr hS => ⟨hr.defers, v, hv a w hr hS, h w hS⟩
theorem g_end_normal {fn : Func} {Rr : Ending → World → Prop} (h : G N R S (bodyPost P fn Rr .ret)) : G N R S (bodyPost P fn Rr .normal) := h
theorem Rf.getD {a : Act} (h : Rf N R a) {t : Nat} {v : Value} (ht : R.lookup t = some v) : a.tmps[t]?.getD undef = v := by rw [h.get t v ht]; rfl
theorem g_end0 {fn : Func} {Rr : Ending → World → Prop} (hr : fn.results = #[]) (h : ∀ w, S w → Rr (.returned (.tuple #[])) w) : G N R S (bodyPost P fn Rr .ret) :=
  g_end (fun a w _ _ => by simp [results, hr]) h
theorem g_end1 {fn : Func} {Rr : Ending → World → Prop} {t : Nat} {v : Value} (hr : fn.results = #[.tmp t]) (ht : R.lookup t = some v) (h : ∀ w, S w → Rr (.returned v) w) : G N R S (bodyPost P fn Rr .ret) :=
  g_end (fun a w hR _ => by simp [results, hr, hR.getD ht]) h
theorem g_end2 {fn : Func} {Rr : Ending → World → Prop} {t u : Nat} {v v' : Value} (hr : fn.results = #[.tmp t, .tmp u]) (ht : R.lookup t = some v) (hu : R.lookup u = some v') (h : ∀ w, S w → Rr (.returned (.tuple #[v, v'])) w) : G N R S (bodyPost P fn Rr .ret) :=
  g_end (fun a w hR _ => by simp [results, hr, hR.getD ht, hR.getD hu]) h
theorem g_end3 {fn : Func} {Rr : Ending → World → Prop} {t u s : Nat} {v v' v'' : Value} (hr : fn.results = #[.tmp t, .tmp u, .tmp s]) (ht : R.lookup t = some v) (hu : R.lookup u = some v') (hs : R.lookup s = some v'') (h : ∀ w, S w → Rr (.returned (.tuple #[v, v', v''])) w) : G N R S (bodyPost P fn Rr .ret) :=
  g_end (fun a w hR _ => by simp [results, hr, hR.getD ht, hR.getD hu, hR.getD hs]) h
theorem run_row {w : World} {b off n : Nat} {t ty : TypeId} {cs vs : List Value} (hb : w.heap[b]? = some (.cells cs.toArray t (0, 0))) (ha : ∀ w, (isAgg ty).run P w = .ok true w) (hz : ∀ w, (sizeOf ty).run P w = .ok n w)
    (hv : (cs.drop off).take n = vs) (hn : vs.length = n) : (loadVar ty ⟨b, off, none⟩).run P w = .ok (.agg vs.toArray) w := by
  have hl : (loadCells ⟨b, off, none⟩ vs.length).run P w = .ok vs.toArray w :=
    run_loadCells_list (P := P) w ⟨b, off, none⟩ vs (fun j v hj => by
      rw [Addr.add_mid, cell_of_row w b (off + j) _ t (0, 0) hb]
      have hlt : j < vs.length := (List.getElem?_eq_some_iff.1 hj).1
      rw [← hv] at hj
      rw [List.getElem?_take] at hj
      rw [if_pos (by omega), List.getElem?_drop] at hj
      simpa using hj)
  rw [hn] at hl
  simp [loadVar, Sem.run_bind, ha, hz, hl]
/-- The result lies in memory. -/
theorem g_end_cell {fn : Func} {Rr : Ending → World → Prop} {W0 : World} {F : List Nat} {L : List Ent} {t b n : Nat} {ty t' : TypeId} {cs : List Value} (i : Nat) (hr : fn.results = #[.cell t ty]) (ht : R.lookup t = some (.pointer (some ⟨b, 0, none⟩))) (hi : L[i]? = some (.cells b t' cs))
    (ha : ∀ w, (isAgg ty).run P w = .ok true w) (hz : ∀ w, (sizeOf ty).run P w = .ok n w) (hn : cs.length = n) (h : ∀ w, St W0 F L w → Rr (.returned (.agg cs.toArray)) w) : G N R (St W0 F L) (bodyPost P fn Rr .ret) :=
  g_end (fun a w hR hS => by
    have e := run_row (P := P) (off := 0) (vs := cs) (hS.cells hi) ha hz (by rw [List.drop_zero, List.take_of_length_le (by omega)]) hn
    simp [results, hr, hR.getD ht, asAddr, e]) h
end
end Go.Proofs.YtkjhjgokaeiopaaGreatDoor
