/-
  The engine (20): it is right; frames.
-/
import Derived.Test.YtkjhjgokaeiopaaGreatDoorES
import Derived.Test.YtkjhjgokaeiopaaGreatDoorER
namespace Go.Proofs.YtkjhjgokaeiopaaGreatDoor.E
open Go Go.RowKit
def It.den (ρ : Nm) : It → Item
  | .code c => .code c
  | .blk id => .inBlock id
  | .lp c => .inLoop c
  | .sc c => .inScope c
  | .reg ops i rest => .inRegion ops (List.range' i rest.length)
  | .inr l => .inRangeFunc (ρ l).b
  | .endr l => .endRangeFunc (ρ l).b
  | .beg => .beginRound
def It.ok : It → Prop
  | .reg ops i rest => rest = ops.toList.drop i
  | _ => True
def Df.den (σ : Nat → Value) (ρ : Nm) : Df → Deferred
  | .coll id => ⟨.collected (ρ id).b, #[]⟩
  | .fn f caps args => ⟨.fn (.func f) (denL σ ρ caps).toArray, (denL σ ρ args).toArray⟩
structure FrAt (σ : Nat → Value) (ρ : Nm) (f : Fr) (fr : Frame) : Prop where
  fn : fr.fn = f.fn
  mode : fr.mode = .run
  regs : RegsOk σ ρ f.n f.rs fr.tmps
  todo : fr.todo = f.todo.map (It.den ρ)
  ok : ∀ x ∈ f.todo, x.ok
  df : fr.defers = f.df.map (Df.den σ ρ)
  kind : fr.kind = bif f.dfd then .deferred else .normal
  rof : fr.roundOf = f.rof.map fun l => (ρ l).b
theorem exitV_den (ρ : Nm) (id : Nat) : ∀ t, exitTo id (t.map (It.den ρ)) = (exitV id t).map (List.map (It.den ρ))
  | [] => rfl
  | x :: t => by
    have := exitV_den ρ id t
    cases x <;> simp only [List.map_cons, It.den, exitTo, exitV, this]
    rename_i id'
    cases hb : Nat.beq id' id with
    | true => have := Nat.eq_of_beq_eq_true hb; simp [this]
    | false => have := Nat.ne_of_beq_eq_false hb; simp [this]
theorem gotoV_den (ρ : Nm) (l : Nat) : ∀ t, gotoIn l (t.map (It.den ρ)) = (gotoV l t).map (List.map (It.den ρ))
  | [] => rfl
  | x :: t => by
    have := gotoV_den ρ l t
    cases x <;> simp only [List.map_cons, It.den, gotoIn, gotoV, this]
    rename_i c
    cases findLabel c l <;> simp [It.den]
theorem exitV_ok (id : Nat) : ∀ {t t' : List It}, exitV id t = some t' → (∀ x ∈ t, x.ok) → ∀ x ∈ t', x.ok
  | [], _, h, _ => by simp [exitV] at h
  | x :: t, t', h, hk => by
    have hk' : ∀ y ∈ t, y.ok := fun y hy => hk y (List.mem_cons_of_mem _ hy)
    cases x <;> simp only [exitV] at h
    case blk id' =>
      cases hb : Nat.beq id' id with
      | true => rw [hb] at h; cases h; exact hk'
      | false => rw [hb] at h; exact exitV_ok id h hk'
    all_goals exact exitV_ok id h hk'
theorem gotoV_ok (l : Nat) : ∀ {t t' : List It}, gotoV l t = some t' → (∀ x ∈ t, x.ok) → ∀ x ∈ t', x.ok
  | [], _, h, _ => by simp [gotoV] at h
  | x :: t, t', h, hk => by
    have hk' : ∀ y ∈ t, y.ok := fun y hy => hk y (List.mem_cons_of_mem _ hy)
    cases x <;> simp only [gotoV] at h
    case sc c =>
      split at h
      · cases h
        intro y hy
        rcases List.mem_cons.1 hy with rfl | hy
        · trivial
        · exact hk y hy
      · exact gotoV_ok l h hk'
    all_goals exact gotoV_ok l h hk'
/-- Where a frame is left. -/
def Leaves (j : Option Code) (t : List It) : Prop := (j = none ∧ t = []) ∨ (j = some .ret ∧ ∃ k, t = .code .ret :: k) ∨ (∃ id k, j = some (.exit id) ∧ t = .code (.exit id) :: k ∧ exitV id k = none) ∨ (∃ id k, j = some (.goto id) ∧ t = .code (.goto id) :: k ∧ gotoV id k = none)
section
variable {P : Program} {σ : Nat → Value} {n c c' : Nat} {rs : T V} {h h' : T O} {a : Act} {w w' : World} {tb : Tb} {D D' : Nat → Prop} {C C' : Nm} {ρ : Nm} {k : List Item} {fr : Frame} {cs : List Frame}
/-- An object turns. -/
theorem turn_at {i : Nat} {oi o : O} {ob : Obj} (hD : ∀ i, D i → i < c) (hm : At D C fun ρ => Mem σ ρ h w) (hi : h.get i = some oi) (hh : ∀ j, h'.get j = if j = i then some o else h.get j)
    (ho : At D C fun ρ => o.holds σ ρ (ρ i) { w with heap := w.heap.setIfInBounds (C i).b ob }) :
    Ext D D C C c c h h' w { w with heap := w.heap.setIfInBounds (C i).b ob } ∧ At D C fun ρ => Mem σ ρ h' { w with heap := w.heap.setIfInBounds (C i).b ob } := by
  refine ⟨⟨Nat.le_refl _, fun _ q => q, hD, fun _ q => .inl q, fun _ _ => rfl, ⟨rfl, rfl, rfl, by simp, fun k hk hn => ?_⟩, fun k hk => ?_⟩, fun ρ hρ => ?_⟩
  · have : k ≠ (C i).b := fun e => hn ⟨i, oi, hi, e.symm⟩
    simp [this.symm]
  · obtain ⟨j, oj, q1, q2⟩ := hk
    rw [hh] at q1
    by_cases e : j = i
    · exact .inl ⟨i, oi, hi, by rw [← e]; exact q2⟩
    · rw [if_neg e] at q1; exact .inl ⟨j, oj, q1, q2⟩
  · have hb : (ρ i).b = (C i).b := by rw [hρ i (dom hm hi)]
    refine Mem.turn (i := i) (p := i) (hm ρ hρ) hi (fun j => ?_) (fun k hk hne => ?_) (ho ρ hρ) (.inl rfl)
    · rw [hh]; by_cases e : j = i <;> simp [e]
    · rw [hb] at hne; simp [hne.symm]
/-- A thing is laid. -/
theorem alloc_at {o : O} {ob : Obj} (hD : ∀ i, D i → i < c) (hm : At D C fun ρ => Mem σ ρ h w) (hh : ∀ j, h'.get j = if j = c then some o else h.get j)
    (ho : At (fun i => D i ∨ i = c) (giveN C c ⟨w.heap.size, 0, 0⟩) fun ρ => o.holds σ ρ (ρ c) (w.alloc ob)) :
    Ext D (fun i => D i ∨ i = c) C (giveN C c ⟨w.heap.size, 0, 0⟩) c (c + 1) h h' w (w.alloc ob) ∧ At (fun i => D i ∨ i = c) (giveN C c ⟨w.heap.size, 0, 0⟩) fun ρ => Mem σ ρ h' (w.alloc ob) := by
  have hg : ∀ i, D i → giveN C c ⟨w.heap.size, 0, 0⟩ i = C i := fun i hi => by unfold giveN; rw [if_neg (by have := hD i hi; omega)]
  refine ⟨⟨by omega, fun _ q => .inl q, fun i hi => hi.elim (fun q => by have := hD i q; omega) (fun q => by omega), fun i hi => hi.elim .inl (fun q => .inr (by omega)), hg, Keeps.alloc _ _ _, fun k hk => ?_⟩, fun ρ hρ => ?_⟩
  · obtain ⟨j, oj, q1, q2⟩ := hk
    rw [hh] at q1
    by_cases e : j = c
    · subst e; right; rw [← q2]; simp [giveN]
    · rw [if_neg e] at q1
      left
      refine ⟨j, oj, q1, ?_⟩
      rw [← q2, hg j (dom hm q1)]
  · have hρ' : ∀ i, D i → ρ i = C i := fun i hi => (hρ i (.inl hi)).trans (hg i hi)
    refine Mem.new (hm ρ hρ') hh (fun k hk => Below.heap_alloc _ _ _ hk) (ho ρ hρ) ?_
    rw [hρ c (.inr rfl)]
    simp [giveN]
theorem putK_same {d : Nat} {v : V} {k : T V → Bool} (hk : putK n rs (some d) v k = true) : ∃ rs', k rs' = true ∧ ∀ σ ρ tmps, RegsOk σ ρ n rs tmps → tmps[d]? = some (v.den σ ρ) → RegsOk σ ρ n rs' tmps := by
  obtain ⟨rs', h1, h2⟩ := putK_ok hk
  refine ⟨rs', h1, fun σ ρ tmps hr hv => ?_⟩
  have := h2 σ ρ tmps _ hr rfl
  simp only [putT] at this
  have e : tmps.setIfInBounds d (v.den σ ρ) = tmps := by
    obtain ⟨hl, hv⟩ := Array.getElem?_eq_some_iff.1 hv
    rw [← hv]
    simp [Array.setIfInBounds, hl]
  rwa [e] at this
theorem argsK_ok : ∀ {l : List V} {i : Nat} {rs : T V} {k : T V → Bool}, argsK n i l rs k = true → ∃ rs', k rs' = true ∧ ∀ σ ρ tmps, RegsOk σ ρ n rs tmps → (∀ j v, l[j]? = some v → tmps[i + j]? = some (v.den σ ρ)) → RegsOk σ ρ n rs' tmps
  | [], i, rs, k, hk => ⟨rs, hk, fun _ _ _ h _ => h⟩
  | v :: l, i, rs, k, hk => by
    obtain ⟨rs1, h1, h2⟩ := putK_same hk
    obtain ⟨rs2, h3, h4⟩ := argsK_ok h1
    exact ⟨rs2, h3, fun σ ρ tmps hr hv => h4 σ ρ tmps (h2 σ ρ tmps hr (hv 0 v rfl)) fun j u hj => by have := hv (j + 1) u hj; rwa [show i + (j + 1) = i + 1 + j by omega] at this⟩
def setAllA (ts : List Tmp) (us : List Value) (tmps : Array Value) : Array Value := (ts.zip us).foldl (fun tmps (t, a) => tmps.setIfInBounds t a) tmps
theorem setAllK_ok : ∀ {ts : List Tmp} {vs : List V} {rs : T V} {k : T V → Bool}, setAllK n ts vs rs k = true → ts.length = vs.length ∧ ∃ rs', k rs' = true ∧ ∀ σ ρ tmps, RegsOk σ ρ n rs tmps → RegsOk σ ρ n rs' (setAllA ts (denL σ ρ vs) tmps)
  | [], [], rs, k, hk => ⟨rfl, rs, hk, fun _ _ _ h => h⟩
  | t :: ts, v :: vs, rs, k, hk => by
    obtain ⟨rs1, h1, h2⟩ := putK_ok hk
    obtain ⟨h3, rs2, h4, h5⟩ := setAllK_ok h1
    exact ⟨by simp [h3], rs2, h4, fun σ ρ tmps hr => h5 σ ρ _ (h2 σ ρ tmps _ hr rfl)⟩
  | [], _ :: _, _, _, hk => by simp [setAllK] at hk
  | _ :: _, [], _, _, hk => by simp [setAllK] at hk
/-- What a function hands back. -/
def res1 (tmps : Array Value) : ResultVar → Sem Value
  | .tmp t => pure (tmps.getD t undef)
  | .cell a t => do loadVar t (← asAddr (tmps.getD a undef))
theorem resL_ok (hT : tb.ok P) (hr : RegsOk σ ρ n rs a.tmps) (hm : Mem σ ρ h w) : ∀ {l : List ResultVar} {vs : List V}, resL tb rs h l = some vs → (l.mapM (res1 a.tmps)).run P w = .ok (denL σ ρ vs) w
  | [], vs, hv => by cases hv; rfl
  | .tmp t :: l, vs, hv => by
    unfold resL at hv
    split at hv
    · rename_i v us h1 h2
      cases hv
      have := hr.get _ _ h1
      simp [List.mapM_cons, resL_ok hT hr hm h2, res1, this, denL]
    · cases hv
  | .cell x t :: l, vs, hv => by
    unfold resL at hv
    split at hv
    · rename_i id off i us h1 h2 h3
      split at hv
      · rename_i v h4
        cases hv
        have q1 := hr.get _ _ h1
        have q2 := run_ldV (hT _ _ h2) hm h4
        simp only [V.den] at q1
        simp [List.mapM_cons, Sem.run_bind, resL_ok hT hr hm h3, res1, q1, q2, denL, asAddr]
      · cases hv
    · cases hv
theorem resV_ok {fn : Func} {v : V} (hT : tb.ok P) (hr : RegsOk σ ρ n rs a.tmps) (hm : Mem σ ρ h w) (hv : resV tb fn rs h = some v) : (results fn a.tmps).run P w = .ok (v.den σ ρ) w := by
  have e : results fn a.tmps = (do
    let vs ← fn.results.mapM (res1 a.tmps)
    pure (if h : vs.size = 1 then vs[0] else .tuple vs)) := by
    unfold results
    congr 1
  have key : ∀ vs, resL tb rs h fn.results.toList = some vs → (results fn a.tmps).run P w = .ok (if h : (denL σ ρ vs).toArray.size = 1 then (denL σ ρ vs).toArray[0] else .tuple (denL σ ρ vs).toArray) w := by
    intro vs hvs
    have := resL_ok (a := a) hT hr hm hvs
    rw [e]
    obtain ⟨L, hL⟩ : ∃ L, fn.results = List.toArray L := ⟨fn.results.toList, by simp⟩
    rw [hL] at this ⊢
    rw [List.mapM_toArray, Sem.run_bind]
    simp [Sem.run_map, this]
  unfold resV at hv
  split at hv
  · rename_i u hu
    cases hv
    rw [key _ hu]
    simp [denL]
  · rename_i vs hne hvs
    cases hv
    rw [key _ hvs]
    have : (denL σ ρ vs).toArray.size ≠ 1 := by
      intro q
      simp only [List.size_toArray, denL_len] at q
      match vs, q with
      | [x], _ => exact hne x rfl
    rw [dif_neg this]
    simp [V.den]
  · cases hv
/-- One operation, from a frame on. -/
theorem steps_op {ops : Array Oper} {i : Nat} {r : List Nat} {o : Oper} {nxt : Next} {w1 : World} {u : Value} (hm : fr.mode = .run) (ht : fr.todo = .inRegion ops (i :: r) :: k) (ho : ops[i]? = some o) (hw : Region.wanted o (yielded ops fr.tmps) = true) (hd : fr.roundOf = none ∨ notDefer o.op = true)
    (hr : (execOp fr.eval o).run P w = .ok nxt w1) (hf : Fin P w1 nxt u w') : Steps P (lone fr cs w) (lone (fr.finish u) cs w') := by
  cases hf with
  | value => exact .one (s_value hm ht ho hw hd hr)
  | skip => exact .one (s_none hm ht ho hw hd hr)
  | enter h => exact .head (s_enter hm ht ho hw hd hr) (h _ _)
  | round h => exact .head (s_round hm ht ho hw hd hr) (h _ _)
theorem finish_reg {ops : Array Oper} {i : Nat} {r : List Nat} {o : Oper} {u : Value} (ht : fr.todo = .inRegion ops (i :: r) :: k) (ho : ops[i]? = some o) :
    fr.finish u = { fr with tmps := putT o.dst u fr.tmps, todo := .inRegion ops r :: k } := by
  unfold Frame.finish
  rw [ht]
  simp only [ho, Option.bind_some, putT]
  cases o.dst <;> rfl
/-- A loop over a function begins. -/
theorem steps_range {f : Operand} {ps : Array Tmp} {x y : Code} {g : FuncId} {caps : Array Value} {l : Nat} {mark : List Deferred} {w1 w2 : World} {nxt : Next} {u : Value} (hm : fr.mode = .run) (ht : fr.todo = .code (.rangeFunc f ps x y) :: k)
    (he : (Instr.enterLoop fr.fn fr.tmps ps x y fr.roundOf).run P w = .ok (l, mark) w1) (hv : fr.eval f = .func (.func g) #[] caps) (hc : (callFunc g (#[.func (.yield l) #[] #[]] ++ caps)).run P w1 = .ok nxt w2) (hf : Fin P w2 nxt u w') :
    Steps P (lone fr cs w) (lone { fr with todo := .endRangeFunc l :: k, defers := mark ++ fr.defers } cs w') := by
  have hev : ({ fr with todo := .inRangeFunc l :: k, defers := mark ++ fr.defers } : Frame).eval = fr.eval := by funext x; cases x <;> rfl
  have hres : (do let d ← resolve fr.eval { callee := .value f, args := #[.const (.func (.yield l) #[] #[])], argTypes := #[] } 0; invoke d.target d.args : Sem Next).run P w1 = .ok nxt w2 := by
    rw [← hc]
    have hk : ∀ v, fr.eval (.const v) = v := fun _ => rfl
    simp [resolve, hv, Deferred.ofValue, invoke, hk]
  obtain ⟨fn, tmps, todo, defers, mode, kind, rof⟩ := fr
  dsimp only at hm ht he hv hev hres
  subst hm ht
  cases hf with
  | value => exact .one (step_lone_go (by simp only [stepG, stepG.exec, Sem.runT_eq, he, GStep.bare_after, stepG.apply, hev, hres, Frame.finish]; simp))
  | skip => exact .one (step_lone_go (by simp only [stepG, stepG.exec, Sem.runT_eq, he, GStep.bare_after, stepG.apply, hev, hres, Frame.finish]; simp))
  | enter h =>
    have := h { fn := fn, tmps := tmps, todo := .inRangeFunc l :: k, defers := mark ++ defers, mode := .run, kind := kind, roundOf := rof } cs
    refine .head ?_ this
    exact step_lone_go (by simp only [stepG, stepG.exec, Sem.runT_eq, he, GStep.bare_after, stepG.apply, hev, hres]; simp)
  | round h =>
    have := h { fn := fn, tmps := tmps, todo := .inRangeFunc l :: k, defers := mark ++ defers, mode := .run, kind := kind, roundOf := rof } cs
    refine .head ?_ this
    exact step_lone_go (by simp only [stepG, stepG.exec, Sem.runT_eq, he, GStep.bare_after, stepG.apply, hev, hres]; simp)
end
end Go.Proofs.YtkjhjgokaeiopaaGreatDoor.E
