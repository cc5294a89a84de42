/-
  The logic's laws: the operations one by one.
-/
import Derived.Test.YtkjhjgokaeiopaaGreatDoorY
namespace Go.Proofs.YtkjhjgokaeiopaaGreatDoor
open Go Go.RowKit

section
variable {P : Program} {N : Nat} {R R' : Regs} {S S' : World → Prop} {Q : Exit → Act → World → Prop} {X : Act → World → Prop}
variable {W0 : World} {F : List Nat} {L : List Ent}
variable {ops : Array Oper} {rest : List Oper} {o : Oper} {dst : Option Tmp} {op : Op} {ty : TypeId} {pos : String} {af : Array Edge} {gd : Option (Nat × Bool)}

/-- The operation yields v, and leaves the world alone. -/
def Yv (P : Program) (N : Nat) (R : Regs) (S : World → Prop) (o : Oper) (v : Value) : Prop :=
  ∀ a w, Rf N R a → S w → (execOp a.eval o).run P w = .ok (.value v) w

/-- Is it wanted? -/
def want (ops : Array Oper) (R : Regs) (o : Oper) : Option Bool :=
  match o.guard with
  | none => some true
  | some (j, b) => match (ops[j]?).bind (·.dst) with
    | none => none
    | some t => match R.lookup t with
      | some (.bool c) => some (c == b)
      | some (.tuple _) => some false
      | _ => none
theorem wanted_of {a : Act} {b : Bool} (h : want ops R o = some b) (hR : Rf N R a) : Region.wanted o (yielded ops a.tmps) = b := by
  unfold want at h
  unfold Region.wanted
  split at h
  · rename_i hg
    simp only [hg]; simpa using h
  · rename_i j b' hg
    simp only [hg]
    split at h
    · cases h
    · rename_i t ht
      unfold yielded
      simp only [ht, Option.bind_some]
      split at h
      · rename_i c hc
        rw [hR.get t _ hc]
        simp at h ⊢
        cases b <;> cases c <;> cases b' <;> simp_all
      · rename_i u hc
        rw [hR.get t _ hc]
        simp at h ⊢
        subst h
        rfl
      · cases h

theorem g_ops {id : Nat} {l : List Oper} (h : G N R S (wpList P l.toArray Q l)) : G N R S ((Code.region id l.toArray false).wp P Q) := fun a w hR hS => wp_region_lit (h a w hR hS)
theorem g_nil (h : G N R S (Q .normal)) : G N R S (wpList P ops Q []) := h
theorem g_one (hw : want ops R o = some true) (h : ∀ K : Act → World → Prop, G N R S (fun a w => (∀ a w, wpList P ops Q rest a w → K a w) → o.wp P a w K Q)) : G N R S (wpList P ops Q (o :: rest)) := fun a w hR hS =>
  wpList_step fun K hK => by
    rw [wanted_of hw hR, if_pos rfl]
    exact h K a w hR hS hK
theorem Oper.wp_ok {a : Act} {w w' : World} {K : Act → World → Prop} {v : Value} (h : (execOp a.eval o).run P w = .ok (.value v) w') (hK : K (a.put o.dst v) w') : o.wp P a w K Q := by
  unfold Oper.wp; rw [h]; exact hK
theorem Oper.wp_skip {a : Act} {w w' : World} {K : Act → World → Prop} (h : (execOp a.eval o).run P w = .ok .skip w') (hK : K (a.put o.dst undef) w') : o.wp P a w K Q := by
  unfold Oper.wp; rw [h]; exact hK
theorem g_val {d : Nat} {v : Value} (hw : want ops R o = some true) (hd : o.dst = some d) (hN : Nat.blt d N = true) (hv : Yv P N R S o v) (h : G N ((d, v) :: R) S (wpList P ops Q rest)) : G N R S (wpList P ops Q (o :: rest)) :=
  g_one hw fun _ a w hR hS hK => Oper.wp_ok (hv a w hR hS) (hK _ _ (h _ _ (by rw [hd]; exact hR.put hN) hS))
theorem g_not {d : Nat} (hw : want ops R o = some false) (hd : o.dst = some d) (hN : Nat.blt d N = true) (h : G N ((d, undef) :: R) S (wpList P ops Q rest)) : G N R S (wpList P ops Q (o :: rest)) := fun a w hR hS =>
  wpList_step fun K hK => by
    rw [wanted_of hw hR, if_neg (by simp)]
    exact hK _ _ (h _ _ (by rw [hd]; exact hR.put hN) hS)
/-- In the end. -/
theorem G.exists {α : Type} {X : Act → World → Prop} {Sx : α → World → Prop} (h : ∀ x, G N R (Sx x) X) : G N R (fun w => ∃ x, Sx x w) X := fun a w hR ⟨x, hx⟩ => h x a w hR hx

/-! ### A region that draws its order, and whose operations leave what is owned alone -/
def GQ (N : Nat) (R : Regs) (X : Act → Prop) : Prop := ∀ a, Rf N R a → X a
theorem g_quiet {id : Nat} {l : List Oper} (hm : P.follows .mixedOrders = true) (hB : Region.lexB .any l.toArray = true)
    (h : GQ N R (wpQuiet P l.toArray (St W0 F L) (fun a => ∀ w, St W0 F L w → Q .normal a w) l)) : G N R (St W0 F L) ((Code.region id l.toArray true).wp P Q) :=
  fun a w hR hS => wp_region_quiet (C := St W0 F L) hm hB hS.drew (by simpa using h a hR)
theorem q_nil (h : G N R S (Q .normal)) : GQ N R (wpQuiet P ops S (fun a => ∀ w, S w → Q .normal a w) []) := fun a hR w hS => h a w hR hS
theorem q_val {Qq : Act → Prop} {d : Nat} {v : Value} (hw : want ops R o = some true) (hd : o.dst = some d) (hN : Nat.blt d N = true) (hv : Yv P N R S o v) (h : GQ N ((d, v) :: R) (wpQuiet P ops S Qq rest)) : GQ N R (wpQuiet P ops S Qq (o :: rest)) := fun a hR => by
  simp only [wpQuiet]
  rw [wanted_of hw hR, if_pos rfl]
  refine ⟨v, fun w hS => ?_, h _ (by rw [hd]; exact hR.put hN)⟩
  unfold Oper.quietAt
  rw [hv a w hR hS]
  exact ⟨rfl, rfl⟩
theorem q_not {Qq : Act → Prop} {d : Nat} (hw : want ops R o = some false) (hd : o.dst = some d) (hN : Nat.blt d N = true) (h : GQ N ((d, undef) :: R) (wpQuiet P ops S Qq rest)) : GQ N R (wpQuiet P ops S Qq (o :: rest)) := fun a hR => by
  simp only [wpQuiet]
  rw [wanted_of hw hR, if_neg (by simp)]
  exact h _ (by rw [hd]; exact hR.put hN)

/-! ### A register that holds a truth -/
theorem lookup_over {i : Nat} {v : Value} (R : Regs) (h : R.lookup i = some v) : ∀ j u, ((i, v) :: R).lookup j = some u → R.lookup j = some u := fun j u hu => by
  rw [List.lookup_cons] at hu
  by_cases e : j = i
  · subst e; simp at hu; subst hu; exact h
  · have e' : (j == i) = false := by simpa using e
    rw [e'] at hu; exact hu
theorem g_caseb (i : Nat) {t : Bool} (hi : R.lookup i = some (.bool t)) (h1 : t = true → G N ((i, .bool true) :: R) S X) (h2 : t = false → G N ((i, .bool false) :: R) S X) : G N R S X := fun a w hR hS => by
  cases t with
  | true => exact h1 rfl a w (hR.sub (lookup_over R hi)) hS
  | false => exact h2 rfl a w (hR.sub (lookup_over R hi)) hS
theorem g_casep (i : Nat) {p : Prop} {inst : Decidable p} (hi : R.lookup i = some (.bool (@decide p inst))) (h1 : p → G N ((i, .bool true) :: R) S X) (h2 : ¬ p → G N ((i, .bool false) :: R) S X) : G N R S X :=
  g_caseb i hi (fun h => h1 (of_decide_eq_true h)) (fun h => h2 (of_decide_eq_false h))
theorem q_caseb {X : Act → Prop} (i : Nat) {t : Bool} (hi : R.lookup i = some (.bool t)) (h1 : t = true → GQ N ((i, .bool true) :: R) X) (h2 : t = false → GQ N ((i, .bool false) :: R) X) : GQ N R X := fun a hR => by
  cases t with
  | true => exact h1 rfl a (hR.sub (lookup_over R hi))
  | false => exact h2 rfl a (hR.sub (lookup_over R hi))
theorem q_casep {X : Act → Prop} (i : Nat) {p : Prop} {inst : Decidable p} (hi : R.lookup i = some (.bool (@decide p inst))) (h1 : p → GQ N ((i, .bool true) :: R) X) (h2 : ¬ p → GQ N ((i, .bool false) :: R) X) : GQ N R X :=
  q_caseb i hi (fun h => h1 (of_decide_eq_true h)) (fun h => h2 (of_decide_eq_false h))

/-! ### Calls -/
theorem evs_map {a : Act} (hR : Rf N R a) : ∀ (xs : List Operand) (vs : List Value), xs.mapM (ev R) = some vs → xs.map a.eval = vs := by
  intro xs
  induction xs with
  | nil => intro vs h; simp at h; simp [h]
  | cons x xs ih =>
    intro vs h
    simp only [List.mapM_cons] at h
    cases hx : ev R x with
    | none => simp [hx] at h
    | some v =>
      cases hr : xs.mapM (ev R) with
      | none => simp [hx, hr] at h
      | some us =>
        simp [hx, hr] at h
        subst h
        simp [hR.eval hx, ih us hr]
theorem run_call {f : FuncId} {xs : List Operand} {ats : Array TypeId} {vs : List Value} {a : Act} {w : World} (hR : Rf N R a) (hx : xs.mapM (ev R) = some vs) (hf : ∀ args w, (callFunc f args).run P w = .ok (.enter f args) w) :
    (execOp a.eval ⟨dst, .call { callee := .value (.func f), args := xs.toArray, argTypes := ats }, ty, pos, af, gd⟩).run P w = .ok (.enter f vs.toArray) w := by
  have e := evs_map hR xs vs hx
  simp [execOp, resolve, Deferred.ofValue, invoke, Act.eval, hf, ← e]
/-- A call in a plain region. -/
theorem g_call {α : Type} {d : Nat} {f : FuncId} {xs : List Operand} {ats : Array TypeId} {vs : List Value} (r : α → Value) (Sx : α → World → Prop)
    (hw : want ops R ⟨some d, .call { callee := .value (.func f), args := xs.toArray, argTypes := ats }, ty, pos, af, gd⟩ = some true) (hN : Nat.blt d N = true)
    (hx : xs.mapM (ev R) = some vs) (hf : ∀ args w, (callFunc f args).run P w = .ok (.enter f args) w) (hc : ∀ w, S w → Calls P f vs.toArray w (fun e w' => ∃ x, e = .returned (r x) ∧ Sx x w'))
    (h : ∀ x, G N ((d, r x) :: R) (Sx x) (wpList P ops Q rest)) : G N R S (wpList P ops Q (⟨some d, .call { callee := .value (.func f), args := xs.toArray, argTypes := ats }, ty, pos, af, gd⟩ :: rest)) :=
  g_one hw fun K a w hR hS hK => by
    unfold Oper.wp
    rw [run_call hR hx hf]
    refine (hc w hS).mono fun e w' ⟨x, he, hS'⟩ => ?_
    subst he
    exact hK _ _ (h x _ _ (hR.put hN) hS')
/-- .. with one result that is known ahead, and that leaves what is owned alone. -/
theorem g_call1 {d : Nat} {f : FuncId} {xs : List Operand} {ats : Array TypeId} {vs : List Value} {v : Value}
    (hw : want ops R ⟨some d, .call { callee := .value (.func f), args := xs.toArray, argTypes := ats }, ty, pos, af, gd⟩ = some true) (hN : Nat.blt d N = true)
    (hx : xs.mapM (ev R) = some vs) (hf : ∀ args w, (callFunc f args).run P w = .ok (.enter f args) w) (hc : ∀ w, St W0 F L w → Calls P f vs.toArray w (fun e w' => e = .returned v ∧ Below w.heap.size w w'))
    (h : G N ((d, v) :: R) (St W0 F L) (wpList P ops Q rest)) : G N R (St W0 F L) (wpList P ops Q (⟨some d, .call { callee := .value (.func f), args := xs.toArray, argTypes := ats }, ty, pos, af, gd⟩ :: rest)) :=
  g_call (α := Unit) (fun _ => v) (fun _ => St W0 F L) hw hN hx hf (fun w hS => (hc w hS).mono fun _ _ ⟨he, hb⟩ => ⟨(), he, by simpa using hS.then (St.of_below hb)⟩) fun _ => h
theorem q_call1 {Qq : Act → Prop} {d : Nat} {f : FuncId} {xs : List Operand} {ats : Array TypeId} {vs : List Value} {v : Value}
    (hw : want ops R ⟨some d, .call { callee := .value (.func f), args := xs.toArray, argTypes := ats }, ty, pos, af, gd⟩ = some true) (hN : Nat.blt d N = true)
    (hx : xs.mapM (ev R) = some vs) (hf : ∀ args w, (callFunc f args).run P w = .ok (.enter f args) w) (hc : ∀ w, St W0 F L w → Calls P f vs.toArray w (fun e w' => e = .returned v ∧ Below w.heap.size w w'))
    (h : GQ N ((d, v) :: R) (wpQuiet P ops (St W0 F L) Qq rest)) : GQ N R (wpQuiet P ops (St W0 F L) Qq (⟨some d, .call { callee := .value (.func f), args := xs.toArray, argTypes := ats }, ty, pos, af, gd⟩ :: rest)) := fun a hR => by
  simp only [wpQuiet]
  rw [wanted_of hw hR, if_pos rfl]
  refine ⟨v, fun w hS => ?_, h _ (hR.put hN)⟩
  unfold Oper.quietAt
  rw [run_call hR hx hf]
  exact ⟨rfl, (hc w hS).mono fun _ _ ⟨he, hb⟩ => ⟨he, by simpa using hS.then (St.of_below hb)⟩⟩

/-! ### What yields -/
theorem y_move {x : Operand} {v : Value} (hx : ev R x = some v) : Yv P N R S ⟨dst, .move x, ty, pos, af, gd⟩ v := fun a w hR _ => by simp [execOp, hR.eval hx]
theorem y_assign {x : Operand} {v : Value} (hx : ev R x = some v) : Yv P N R S ⟨dst, .assign x, ty, pos, af, gd⟩ v := fun a w hR _ => by simp [execOp, hR.eval hx]
theorem y_pick {c x y : Operand} {b : Bool} {v u : Value} (hc : ev R c = some (.bool b)) (hx : ev R x = some v) (hy : ev R y = some u) : Yv P N R S ⟨dst, .pick c x y, ty, pos, af, gd⟩ (if b then v else u) := fun a w hR _ => by
  cases b <;> simp [execOp, hR.eval hx, hR.eval hy, hR.eval hc, asBool]
theorem y_pick_t {c x y : Operand} {v : Value} (hc : ev R c = some (.bool true)) (hx : ev R x = some v) : Yv P N R S ⟨dst, .pick c x y, ty, pos, af, gd⟩ v := fun a w hR _ => by
  simp [execOp, hR.eval hx, hR.eval hc, asBool]
theorem y_pick_f {c x y : Operand} {v : Value} (hc : ev R c = some (.bool false)) (hy : ev R y = some v) : Yv P N R S ⟨dst, .pick c x y, ty, pos, af, gd⟩ v := fun a w hR _ => by
  simp [execOp, hR.eval hy, hR.eval hc, asBool]
theorem y_nilCheck {x : Operand} {p : Addr} (hx : ev R x = some (.pointer (some p))) : Yv P N R S ⟨dst, .nilCheck x, ty, pos, af, gd⟩ (.pointer (some p)) := fun a w hR _ => by
  simp [execOp, hR.eval hx]
/-- The address of a field. -/
def fieldOff (P : Program) (t : TypeId) (i : Nat) : Option Nat :=
  match P.underlying t with
  | some (.struct fs) => match fs[i]? with
    | some f => if ((P.info? f.type).map (·.size)) == some 0 then none else if (P.info? f.type).isNone then none else some f.offset
    | none => none
  | _ => none
theorem run_fieldAt {t : TypeId} {i k : Nat} (hk : fieldOff P t i = some k) (p : Addr) (w : World) : (Instr.fieldAt t (.pointer (some p)) i).run P w = .ok (.pointer (some (p.add k))) w := by
  unfold fieldOff at hk
  cases hu : P.underlying t with
  | none => simp [hu] at hk
  | some d =>
    cases d with
    | struct fs =>
      cases hf : fs[i]? with
      | none => simp [hu, hf] at hk
      | some f =>
        simp only [hu, hf] at hk
        split at hk
        · cases hk
        · rename_i h0
          split at hk
          · cases hk
          · rename_i h1
            simp at hk; subst hk
            cases hi : P.info? f.type with
            | none => simp [hi] at h1
            | some inf =>
              simp [hi] at h0
              simp [Instr.fieldAt, Sem.run_bind, run_underlying hu w, hf, Instr.sureAddr, fieldPlace, sizeOf, typeInfo, hi, h0]
    | _ => simp [hu] at hk
theorem y_fieldAddr {x : Operand} {t : TypeId} {i k b off : Nat} {m : Nat} (hx : ev R x = some (.pointer (some ⟨b, off, none⟩))) (hk : fieldOff P t i = some k) (hm : off + k = m) : Yv P N R S ⟨dst, .fieldAddr t x i, ty, pos, af, gd⟩ (.pointer (some ⟨b, m, none⟩)) := fun a w hR _ => by
  subst hm
  simp [execOp, hR.eval hx, run_fieldAt hk, Addr.add_mid]

/-- Parts, laid into cells. -/
def spliceL (zs : List Value) (off : Nat) (cs : List Value) : List Value := zs.take off ++ (cs ++ zs.drop (off + cs.length))
def fillL (zs : List Value) : List Nat → List (Nat × Value) → List Value
  | o :: os, v :: vs => fillL (spliceL zs o v.2.cells.toList) os vs
  | _, _ => zs
def evParts (R : Regs) : List (Nat × Operand) → Option (List (Nat × Value))
  | [] => some []
  | (i, x) :: r => match ev R x, evParts R r with
    | some v, some vs => some ((i, v) :: vs)
    | _, _ => none
theorem evParts_map {a : Act} (hR : Rf N R a) : ∀ (ps : List (Nat × Operand)) (vs : List (Nat × Value)), evParts R ps = some vs → ps.map (fun (i, x) => (i, a.eval x)) = vs := by
  intro ps
  induction ps with
  | nil => intro vs h; simp [evParts] at h; simp [h]
  | cons p ps ih =>
    obtain ⟨i, x⟩ := p
    intro vs h
    unfold evParts at h
    split at h
    · rename_i v us hv hu
      simp at h; subst h
      simp [hR.eval hv, ih us hu]
    · cases h
theorem y_build {t : TypeId} {ps : List (Nat × Operand)} {vs : List (Nat × Value)} {zs : List Value} {offs : List Nat} (hv : evParts R ps = some vs) (_hz : ∀ w, (zeroValue t).run P w = .ok (.agg zs.toArray) w) (hb : P.built t vs = some (fillL zs offs vs).toArray) :
    Yv P N R S ⟨dst, .build t ps.toArray, ty, pos, af, gd⟩ (.agg (fillL zs offs vs).toArray) := fun a w hR _ => by
  have e := evParts_map hR ps vs hv
  have e2 : (ps.toArray.map fun (i, x) => (i, a.eval x)).toList = vs := by simpa using e
  have := run_build w t (ps.toArray.map fun (i, x) => (i, a.eval x)) _ (by rw [e2]; exact hb)
  simp only [execOp, Sem.run_bind, this, Result.andThen_ok]
  rfl
/-- One cell, loaded. -/
theorem y_load1 {x : Operand} {t : TypeId} {p : Addr} {v : Value} (hx : ev R x = some (.pointer (some p))) (ha : ∀ w, (isAgg t).run P w = .ok false w) (hc : ∀ w, S w → w.cell? p = some v) : Yv P N R S ⟨dst, .load t x, ty, pos, af, gd⟩ v := fun a w hR hS => by
  simp [execOp, hR.eval hx, Sem.run_bind, Instr.loadAt, Instr.sureAddr, loadVar, ha, load, Sem.run, hc w hS]
theorem cell_ent {i b off : Nat} {t' : TypeId} {cs : List Value} {v : Value} (hi : L[i]? = some (.cells b t' cs)) (hv : cs[off]? = some v) : ∀ w, St W0 F L w → w.cell? ⟨b, off, none⟩ = some v := fun w hS => by
  rw [cell_of_row w b off _ t' (0, 0) (hS.cells hi)]
  simpa using hv
theorem y_ld {x : Operand} {t t' : TypeId} {b off : Nat} {cs : List Value} {v : Value} (i : Nat) (hx : ev R x = some (.pointer (some ⟨b, off, none⟩))) (ha : ∀ w, (isAgg t).run P w = .ok false w) (hi : L[i]? = some (.cells b t' cs)) (hv : cs[off]? = some v) : Yv P N R (St W0 F L) ⟨dst, .load t x, ty, pos, af, gd⟩ v :=
  y_load1 hx ha (cell_ent hi hv)
theorem y_old {x : Operand} {t : TypeId} {b off : Nat} {v : Value} (hx : ev R x = some (.pointer (some ⟨b, off, none⟩))) (ha : ∀ w, (isAgg t).run P w = .ok false w) (hc : W0.cell? ⟨b, off, none⟩ = some v) (hb : b < W0.heap.size) (hF : b ∉ F) : Yv P N R (St W0 F L) ⟨dst, .load t x, ty, pos, af, gd⟩ v :=
  y_load1 hx ha fun w hS => by rw [← hc]; exact World.cell?_of_block (w := W0) (hS.keep b hb hF)
/-- A row of cells, loaded. -/
theorem y_ldN {x : Operand} {t t' : TypeId} {b off n : Nat} {cs vs : List Value} (i : Nat) (hx : ev R x = some (.pointer (some ⟨b, off, none⟩))) (ha : ∀ w, (isAgg t).run P w = .ok true w) (hz : ∀ w, (sizeOf t).run P w = .ok n w) (hi : L[i]? = some (.cells b t' cs)) (hv : (cs.drop off).take n = vs) (hn : vs.length = n) : Yv P N R (St W0 F L) ⟨dst, .load t x, ty, pos, af, gd⟩ (.agg vs.toArray) := fun a w hR hS => by
  simp [execOp, hR.eval hx, Instr.loadAt, Instr.sureAddr, run_row (hS.cells hi) ha hz hv hn]

/-! ### What turns memory -/
theorem run_box (t : TypeId) (v : Value) (w : World) : (Instr.box t v).run P w = .ok (.pointer (some ⟨w.heap.size, 0, none⟩)) (w.alloc (.cells v.cells t)) := rfl
theorem run_newVar (t : TypeId) (v : Value) (w : World) : (newVar t v).run P w = .ok ⟨w.heap.size, 0, none⟩ (w.alloc (.cells v.cells t)) := rfl
theorem g_box {d : Nat} {x : Operand} {t : TypeId} {v : Value} {cs : List Value} (hw : want ops R ⟨some d, .box t x, ty, pos, af, gd⟩ = some true) (hN : Nat.blt d N = true) (hx : ev R x = some v) (hcs : v.cells = cs.toArray)
    (h : ∀ b, G N ((d, .pointer (some ⟨b, 0, none⟩)) :: R) (St W0 F (.cells b t cs :: L)) (wpList P ops Q rest)) : G N R (St W0 F L) (wpList P ops Q (⟨some d, .box t x, ty, pos, af, gd⟩ :: rest)) :=
  g_one hw fun _ a w hR hS hK => by
    refine Oper.wp_ok (w' := w.alloc (.cells cs.toArray t)) (v := .pointer (some ⟨w.heap.size, 0, none⟩)) (by simp [execOp, hR.eval hx, run_box, hcs]) (hK _ _ (h w.heap.size _ _ (hR.put hN) (hS.new t cs)))
theorem g_alloc {d : Nat} {t : TypeId} {v : Value} {cs : List Value} (hw : want ops R ⟨some d, .alloc t, ty, pos, af, gd⟩ = some true) (hN : Nat.blt d N = true) (hz : ∀ w, (zeroValue t).run P w = .ok v w) (hcs : v.cells = cs.toArray)
    (h : ∀ b, G N ((d, .pointer (some ⟨b, 0, none⟩)) :: R) (St W0 F (.cells b t cs :: L)) (wpList P ops Q rest)) : G N R (St W0 F L) (wpList P ops Q (⟨some d, .alloc t, ty, pos, af, gd⟩ :: rest)) :=
  g_one hw fun _ a w hR hS hK => by
    refine Oper.wp_ok (w' := w.alloc (.cells cs.toArray t)) (v := .pointer (some ⟨w.heap.size, 0, none⟩)) ?_ (hK _ _ (h w.heap.size _ _ (hR.put hN) (hS.new t cs)))
    simp [execOp, Instr.alloc, hz, Sem.run_bind, run_newVar, hcs]
theorem g_st {x y : Operand} {t t' : TypeId} {b off : Nat} {cs : List Value} {v : Value} (i : Nat) (hw : want ops R ⟨none, .store t x y, ty, pos, af, gd⟩ = some true) (hx : ev R x = some (.pointer (some ⟨b, off, none⟩))) (hy : ev R y = some v) (hz : ∀ w, (sizeOf t).run P w = .ok 1 w) (h1 : v.oneCell' = true)
    (hi : L[i]? = some (.cells b t' cs)) (hl : Nat.blt off cs.length = true) (h : G N R (St W0 F (L.set i (.cells b t' (cs.set off v)))) (wpList P ops Q rest)) : G N R (St W0 F L) (wpList P ops Q (⟨none, .store t x y, ty, pos, af, gd⟩ :: rest)) :=
  g_one hw fun _ a w hR hS hK => by
    refine Oper.wp_skip (w' := w.setCell ⟨b, off, none⟩ v) ?_ (hK _ _ (h _ _ hR (hS.setCell hi v)))
    have hc : v.cells = #[v] := by cases v <;> simp_all [Value.cells, Value.oneCell']
    have hcell : ∃ u, w.cell? ⟨b, off, none⟩ = some u := by
      rw [cell_of_row w b off _ t' (0, 0) (hS.cells hi)]
      exact ⟨cs[off]'(Nat.le_of_ble_eq_true hl), by rw [List.getElem?_toArray]; exact List.getElem?_eq_getElem (Nat.le_of_ble_eq_true hl)⟩
    obtain ⟨u, hu⟩ := hcell
    have hfz : w.frozen? ⟨b, off, none⟩ = false := frozen_of_row w b off _ t' (hS.cells hi)
    have e0 : (⟨b, off, none⟩ : Addr).add 0 = ⟨b, off, none⟩ := by simp [Addr.add]
    simp [execOp, hR.eval hx, hR.eval hy, Sem.run_bind, Instr.storeAt, Instr.sureAddr, storeVar, hz, hc, storeCells, e0, run_store P w _ v .plain h1, hu, hfz]
theorem g_stN {x y : Operand} {t t' : TypeId} {b n : Nat} {cs vs : List Value} (i : Nat) (hw : want ops R ⟨none, .store t x y, ty, pos, af, gd⟩ = some true) (hx : ev R x = some (.pointer (some ⟨b, 0, none⟩))) (hy : ev R y = some (.agg vs.toArray)) (hz : (P.info? t).map (·.size) = some n) (h1 : vs.all (·.oneCell') = true)
    (hi : L[i]? = some (.cells b t' cs)) (hl : cs.length = n) (hn : vs.length = n) (h : G N R (St W0 F (L.set i (.cells b t' vs))) (wpList P ops Q rest)) : G N R (St W0 F L) (wpList P ops Q (⟨none, .store t x y, ty, pos, af, gd⟩ :: rest)) :=
  g_one hw fun _ a w hR hS hK => by
    refine wp_store_row t x y rfl b vs.toArray (hR.eval hx) (hR.eval hy) t' cs.toArray (hS.cells hi) (by simpa [hn] using hz) (by simp [hl, hn]) (by simpa using h1) (hK _ _ (h _ _ hR ?_))
    have hset := setRow_heap w b cs.toArray vs.toArray t' (0, 0) (hS.cells hi)
    exact hS.write hi rfl rfl rfl (by simp) (fun k _ hk => setRow_other w b k _ (by simpa [Ent.fp] using hk)) hset (fun k hk => .inl hk)
end
end Go.Proofs.YtkjhjgokaeiopaaGreatDoor
