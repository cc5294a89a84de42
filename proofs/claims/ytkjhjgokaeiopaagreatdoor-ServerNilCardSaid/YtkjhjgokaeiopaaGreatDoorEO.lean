/-
  The engine (15): the machine's steps, of any frame.
-/
import Derived.Test.YtkjhjgokaeiopaaGreatDoorEN
import Derived.Calls
namespace Go.Proofs.YtkjhjgokaeiopaaGreatDoor.E
open Go Go.RowKit
section
variable {P : Program} {fr : Frame} {cs : List Frame} {w w' : World} {k : List Item}

theorem s_skip (hm : fr.mode = .run) (ht : fr.todo = .code .skip :: k) : step P (lone fr cs w) = .next (lone { fr with todo := k } cs w) := by
  obtain ⟨fn, tmps, todo, defers, mode, kind, rof⟩ := fr; subst hm ht
  exact step_lone_go (by simp [stepG, stepG.exec])
theorem s_label {l : Nat} (hm : fr.mode = .run) (ht : fr.todo = .code (.label l) :: k) : step P (lone fr cs w) = .next (lone { fr with todo := k } cs w) := by
  obtain ⟨fn, tmps, todo, defers, mode, kind, rof⟩ := fr; subst hm ht
  exact step_lone_go (by simp [stepG, stepG.exec])
theorem s_inBlock {l : Nat} (hm : fr.mode = .run) (ht : fr.todo = .inBlock l :: k) : step P (lone fr cs w) = .next (lone { fr with todo := k } cs w) := by
  obtain ⟨fn, tmps, todo, defers, mode, kind, rof⟩ := fr; subst hm ht
  exact step_lone_go (by simp [stepG, stepG.exec])
theorem s_inScope {c : Code} (hm : fr.mode = .run) (ht : fr.todo = .inScope c :: k) : step P (lone fr cs w) = .next (lone { fr with todo := k } cs w) := by
  obtain ⟨fn, tmps, todo, defers, mode, kind, rof⟩ := fr; subst hm ht
  exact step_lone_go (by simp [stepG, stepG.exec])
theorem s_seq {x y : Code} (hm : fr.mode = .run) (ht : fr.todo = .code (.seq x y) :: k) : step P (lone fr cs w) = .next (lone { fr with todo := .code x :: .code y :: k } cs w) := by
  obtain ⟨fn, tmps, todo, defers, mode, kind, rof⟩ := fr; subst hm ht
  exact step_lone_go (by simp [stepG, stepG.exec])
theorem s_cond {c : Operand} {x y : Code} {b : Bool} (hm : fr.mode = .run) (ht : fr.todo = .code (.cond c x y) :: k) (hc : fr.eval c = .bool b) : step P (lone fr cs w) = .next (lone { fr with todo := .code (if b then x else y) :: k } cs w) := by
  obtain ⟨fn, tmps, todo, defers, mode, kind, rof⟩ := fr; subst hm ht
  exact step_lone_go (by simp [stepG, stepG.exec, hc])
theorem s_block {l : Nat} {c : Code} (hm : fr.mode = .run) (ht : fr.todo = .code (.block l c) :: k) : step P (lone fr cs w) = .next (lone { fr with todo := .code c :: .inBlock l :: k } cs w) := by
  obtain ⟨fn, tmps, todo, defers, mode, kind, rof⟩ := fr; subst hm ht
  exact step_lone_go (by simp [stepG, stepG.exec])
theorem s_loop {c : Code} (hm : fr.mode = .run) (ht : fr.todo = .code (.loop c) :: k) : step P (lone fr cs w) = .next (lone { fr with todo := .code c :: .inLoop c :: k } cs w) := by
  obtain ⟨fn, tmps, todo, defers, mode, kind, rof⟩ := fr; subst hm ht
  exact step_lone_go (by simp [stepG, stepG.exec])
theorem s_inLoop {c : Code} (hm : fr.mode = .run) (ht : fr.todo = .inLoop c :: k) : step P (lone fr cs w) = .next (lone { fr with todo := .code c :: .inLoop c :: k } cs w) := by
  obtain ⟨fn, tmps, todo, defers, mode, kind, rof⟩ := fr; subst hm ht
  exact step_lone_go (by simp [stepG, stepG.exec])
theorem s_scope {c : Code} (hm : fr.mode = .run) (ht : fr.todo = .code (.scope c) :: k) : step P (lone fr cs w) = .next (lone { fr with todo := .code c :: .inScope c :: k } cs w) := by
  obtain ⟨fn, tmps, todo, defers, mode, kind, rof⟩ := fr; subst hm ht
  exact step_lone_go (by simp [stepG, stepG.exec])
theorem s_exit {l : Nat} {k' : List Item} (hm : fr.mode = .run) (ht : fr.todo = .code (.exit l) :: k) (he : exitTo l k = some k') : step P (lone fr cs w) = .next (lone { fr with todo := k' } cs w) := by
  obtain ⟨fn, tmps, todo, defers, mode, kind, rof⟩ := fr; subst hm ht
  exact step_lone_go (by simp [stepG, stepG.exec, he])
theorem s_goto {l : Nat} {k' : List Item} (hm : fr.mode = .run) (ht : fr.todo = .code (.goto l) :: k) (he : gotoIn l k = some k') : step P (lone fr cs w) = .next (lone { fr with todo := k' } cs w) := by
  obtain ⟨fn, tmps, todo, defers, mode, kind, rof⟩ := fr; subst hm ht
  exact step_lone_go (by simp [stepG, stepG.exec, he])
theorem s_region {id : Nat} {ops : Array Oper} (hm : fr.mode = .run) (ht : fr.todo = .code (.region id ops false) :: k) : step P (lone fr cs w) = .next (lone { fr with todo := .inRegion ops (List.range ops.size) :: k } cs w) := by
  obtain ⟨fn, tmps, todo, defers, mode, kind, rof⟩ := fr; subst hm ht
  exact step_lone_go (by simp [stepG, stepG.exec])
theorem s_draw {id : Nat} {ops : Array Oper} (hx : P.follows .mixedOrders = true) (hm : fr.mode = .run) (ht : fr.todo = .code (.region id ops true) :: k) :
    ∃ t, step P (lone fr cs w) = .next (lone { fr with todo := .inRegion ops (Region.linearise .any ops t) :: k } cs w.drew) := by
  obtain ⟨fn, tmps, todo, defers, mode, kind, rof⟩ := fr; subst hm ht
  refine ⟨w.tape w.drawn (.order fn id), step_lone_go ?_⟩
  simp [stepG, stepG.exec, choose, Sem.run, Question.forced, Question.cut, Region.schedule, hx]
theorem s_done {ops : Array Oper} (hm : fr.mode = .run) (ht : fr.todo = .inRegion ops [] :: k) : step P (lone fr cs w) = .next (lone { fr with todo := k } cs w) := by
  obtain ⟨fn, tmps, todo, defers, mode, kind, rof⟩ := fr; subst hm ht
  exact step_lone_go (by simp [stepG, stepG.exec])
/-- An operation that is not wanted. -/
theorem s_not {ops : Array Oper} {i : Nat} {r : List Nat} (hm : fr.mode = .run) (ht : fr.todo = .inRegion ops (i :: r) :: k) (hw : ((ops[i]?).map (Region.wanted · (yielded ops fr.tmps))).getD false = false) :
    step P (lone fr cs w) = .next (lone (fr.finish undef) cs w) := by
  obtain ⟨fn, tmps, todo, defers, mode, kind, rof⟩ := fr; subst hm ht
  exact step_lone_go (by dsimp only at hw; simp [stepG, stepG.exec, hw])
def notDefer : Op → Bool
  | .defer _ => false
  | _ => true
theorem stepG_any {ops : Array Oper} {i : Nat} {r : List Nat} {o : Oper} (hm : fr.mode = .run) (ht : fr.todo = .inRegion ops (i :: r) :: k) (ho : ops[i]? = some o) (hw : Region.wanted o (yielded ops fr.tmps) = true) (hd : fr.roundOf = none ∨ notDefer o.op = true) :
    stepG P true { frame := fr, callers := cs, status := .running, dying := none } w = stepG.apply P true fr cs none (execOp fr.eval o) w := by
  obtain ⟨fn, tmps, todo, defers, mode, kind, rof⟩ := fr; subst hm ht
  dsimp only at hw hd
  have : ∀ (l : Nat) c, rof = some l → o.op = .defer c → False := by
    intro l c h1 h2
    rcases hd with hd | hd
    · rw [hd] at h1; cases h1
    · rw [h2] at hd; cases hd
  simp only [stepG, stepG.exec, ho, Option.map_some, Option.getD_some, hw, if_true, stepG.oper, Frame.oper?]
section
variable {ops : Array Oper} {i : Nat} {r : List Nat} {o : Oper}
theorem s_value {v : Value} (hm : fr.mode = .run) (ht : fr.todo = .inRegion ops (i :: r) :: k) (ho : ops[i]? = some o) (hw : Region.wanted o (yielded ops fr.tmps) = true) (hd : fr.roundOf = none ∨ notDefer o.op = true)
    (hr : (execOp fr.eval o).run P w = .ok (.value v) w') : step P (lone fr cs w) = .next (lone (fr.finish v) cs w') :=
  step_lone_go (by rw [stepG_any hm ht ho hw hd]; simp [stepG.apply, hr])
theorem s_none (hm : fr.mode = .run) (ht : fr.todo = .inRegion ops (i :: r) :: k) (ho : ops[i]? = some o) (hw : Region.wanted o (yielded ops fr.tmps) = true) (hd : fr.roundOf = none ∨ notDefer o.op = true)
    (hr : (execOp fr.eval o).run P w = .ok .skip w') : step P (lone fr cs w) = .next (lone (fr.finish undef) cs w') :=
  step_lone_go (by rw [stepG_any hm ht ho hw hd]; simp [stepG.apply, hr])
theorem s_enter {f : FuncId} {args : Array Value} (hm : fr.mode = .run) (ht : fr.todo = .inRegion ops (i :: r) :: k) (ho : ops[i]? = some o) (hw : Region.wanted o (yielded ops fr.tmps) = true) (hd : fr.roundOf = none ∨ notDefer o.op = true)
    (hr : (execOp fr.eval o).run P w = .ok (.enter f args) w') : step P (lone fr cs w) = .next (lone (Frame.enter P f args .normal) (fr :: cs) w') :=
  step_lone_go (by rw [stepG_any hm ht ho hw hd]; simp [stepG.apply, hr, ht])
theorem s_round {l f : Nat} {tmps : Array Value} {assign body : Code} (hm : fr.mode = .run) (ht : fr.todo = .inRegion ops (i :: r) :: k) (ho : ops[i]? = some o) (hw : Region.wanted o (yielded ops fr.tmps) = true) (hd : fr.roundOf = none ∨ notDefer o.op = true)
    (hr : (execOp fr.eval o).run P w = .ok (.round l f tmps assign body) w') : step P (lone fr cs w) = .next (lone (Frame.round l f tmps assign body .normal) (fr :: cs) w') :=
  step_lone_go (by rw [stepG_any hm ht ho hw hd]; simp [stepG.apply, hr])
theorem s_defer {d : Deferred} (hm : fr.mode = .run) (ht : fr.todo = .inRegion ops (i :: r) :: k) (ho : ops[i]? = some o) (hw : Region.wanted o (yielded ops fr.tmps) = true) (hd : fr.roundOf = none)
    (hr : (execOp fr.eval o).run P w = .ok (.defer d) w') : step P (lone fr cs w) = .next (lone ({ fr with defers := d :: fr.defers }.finish undef) cs w') :=
  step_lone_go (by rw [stepG_any hm ht ho hw (.inl hd)]; simp [stepG.apply, hr])
theorem s_recover (hm : fr.mode = .run) (ht : fr.todo = .inRegion ops (i :: r) :: k) (ho : ops[i]? = some o) (hw : Region.wanted o (yielded ops fr.tmps) = true) (hd : fr.roundOf = none)
    (hr : (execOp fr.eval o).run P w = .ok .recover w') (hc : fr.kind = .normal ∨ fr.kind = .deferred ∧ ∃ c cs', cs = c :: cs' ∧ c.mode = .returning) : step P (lone fr cs w) = .next (lone (fr.finish .nilIface) cs w') := by
  refine step_lone_go ?_
  rw [stepG_any hm ht ho hw (.inl hd)]
  have ht' : tryRecover fr cs = none := by
    rcases hc with hc | ⟨hc, c, cs', rfl, h2⟩
    · unfold tryRecover; rw [hc]
    · unfold tryRecover; rw [hc]; simp [h2]
  simp [stepG.apply, hr, hd, ht']
end
/-! ### Rounds over a function -/
theorem s_begin {l : Nat} (hm : fr.mode = .run) (ht : fr.todo = .beginRound :: k) (hl : fr.roundOf = some l) {L : Loop} (h : w.heap[l]? = some (.loop L)) (hs : L.state = .ready) :
    step P (lone fr cs w) = .next (lone { fr with todo := k } cs { w with heap := w.heap.setIfInBounds l (.loop { L with state := .busy }) }) := by
  obtain ⟨fn, tmps, todo, defers, mode, kind, rof⟩ := fr; subst hm ht hl
  refine step_lone_go ?_
  simp [stepG, stepG.exec, stepG.apply, Instr.beginRound, Instr.getLoop, getObj, setObj, Sem.run_bind, Sem.run, h, hs, Frame.finish]
theorem s_endRange {l : Nat} (hm : fr.mode = .run) (ht : fr.todo = .endRangeFunc l :: k) {L : Loop} (h : w.heap[l]? = some (.loop L)) (hs : L.state ≠ .busy) :
    step P (lone fr cs w) = .next (lone { fr with todo := (L.pending.map Item.code).toList ++ k } cs { w with heap := w.heap.setIfInBounds l (.loop { L with state := .exhausted }) }) := by
  obtain ⟨fn, tmps, todo, defers, mode, kind, rof⟩ := fr; subst hm ht
  refine step_lone_go ?_
  simp [stepG, stepG.exec, Instr.endLoop, Instr.getLoop, getObj, setObj, Sem.run_bind, Sem.run, h, hs]
/-- A round ends. -/
theorem s_leaveRound {c : Frame} {l : Nat} {j : Option Code} {L : Loop} (hm : fr.mode = .run) (hk : fr.kind = .normal) (hl : fr.roundOf = some l) (h : w.heap[l]? = some (.loop L))
    (hj : (j = none ∧ fr.todo = []) ∨ (j = some .ret ∧ ∃ k, fr.todo = .code .ret :: k) ∨ (∃ id k, j = some (.exit id) ∧ fr.todo = .code (.exit id) :: k ∧ exitTo id k = none) ∨ (∃ id k, j = some (.goto id) ∧ fr.todo = .code (.goto id) :: k ∧ gotoIn id k = none)) :
    step P (lone fr (c :: cs) w) = .next (lone (c.finish (.bool j.isNone)) cs { w with heap := w.heap.setIfInBounds l (.loop { L with state := if j.isNone then .ready else .done, pending := j }) }) := by
  obtain ⟨fn, tmps, todo, defers, mode, kind, rof⟩ := fr
  dsimp only at hm hk hl hj
  subst hm hk hl
  refine step_lone_go ?_
  rcases hj with ⟨rfl, rfl⟩ | ⟨rfl, k, rfl⟩ | ⟨id, k, rfl, rfl, he⟩ | ⟨id, k, rfl, rfl, he⟩
  · simp [stepG, stepG.exec, Instr.endRound, Instr.getLoop, getObj, setObj, Sem.run_bind, Sem.run, h, doReturn]
  · simp [stepG, stepG.exec, Instr.endRound, Instr.getLoop, getObj, setObj, Sem.run_bind, Sem.run, h, doReturn]
  · simp [stepG, stepG.exec, he, Instr.endRound, Instr.getLoop, getObj, setObj, Sem.run_bind, Sem.run, h, doReturn]
  · simp [stepG, stepG.exec, he, Instr.endRound, Instr.getLoop, getObj, setObj, Sem.run_bind, Sem.run, h, doReturn]
/-- A frame that is no round's ends. -/
theorem s_leave (hm : fr.mode = .run) (hl : fr.roundOf = none) (hj : fr.todo = [] ∨ ∃ k, fr.todo = .code .ret :: k) :
    step P (lone fr cs w) = .next (lone { fr with mode := .returning } cs w) := by
  obtain ⟨fn, tmps, todo, defers, mode, kind, rof⟩ := fr
  dsimp only at hm hl hj
  subst hm hl
  refine step_lone_go ?_
  rcases hj with rfl | ⟨k, rfl⟩ <;> simp [stepG, stepG.exec]
/-- What is deferred, of loops: nothing. -/
theorem s_taken {b : Nat} {ds : List Deferred} {xs : Array Value} (hm : fr.mode = .returning) (hd : fr.defers = ⟨.collected b, xs⟩ :: ds) (h : w.heap[b]? = some (.deferred (some []))) :
    step P (lone fr cs w) = .next (lone { fr with defers := ds } cs { w with heap := w.heap.setIfInBounds b (.deferred none) }) := by
  obtain ⟨fn, tmps, todo, defers, mode, kind, rof⟩ := fr
  dsimp only at hm hd
  subst hm hd
  refine step_lone_go ?_
  simp [stepG, unwind, Instr.takeDeferred, getObj, setObj, Sem.run_bind, Sem.run, h]
theorem s_ret {c : Frame} {fn : Func} {v : Value} (hm : fr.mode = .returning) (hd : fr.defers = []) (hk : fr.kind = .normal) (hf : P.funcs[fr.fn]? = some fn) (hr : (results fn fr.tmps).run P w = .ok v w) :
    step P (lone fr (c :: cs) w) = .next (lone (c.finish v) cs w) := step_leave_returned ⟨hm, hd, hk, fn, hf, hr⟩
theorem s_retD {c : Frame} {fn : Func} {v : Value} (hm : fr.mode = .returning) (hd : fr.defers = []) (hk : fr.kind = .deferred) (hc : c.mode = .returning) (hf : P.funcs[fr.fn]? = some fn) (hr : (results fn fr.tmps).run P w = .ok v w) :
    step P (lone fr (c :: cs) w) = .next (lone c cs w) := by
  refine step_lone_go ?_
  obtain ⟨fn, tmps, todo, defers, mode, kind, rof⟩ := fr
  dsimp only at hm hd hk hf hr
  subst hm hd hk
  simp [stepG, unwind, doReturn, hf, hr, hc]
theorem s_callD {f : FuncId} {caps _args : Array Value} {xs : Array Value} {ds : List Deferred} (hm : fr.mode = .returning) (hd : fr.defers = ⟨.fn (.func f) caps, xs⟩ :: ds) (hc : ∀ args w, (callFunc f args).run P w = .ok (.enter f args) w) :
    step P (lone fr cs w) = .next (lone (Frame.enter P f (xs ++ caps) .deferred) ({ fr with defers := ds } :: cs) w) := by
  refine step_lone_go ?_
  obtain ⟨fn, tmps, todo, defers, mode, kind, rof⟩ := fr
  dsimp only at hm hd
  subst hm hd
  simp [stepG, unwind, callDeferred, invoke, hc]
end
end Go.Proofs.YtkjhjgokaeiopaaGreatDoor.E
