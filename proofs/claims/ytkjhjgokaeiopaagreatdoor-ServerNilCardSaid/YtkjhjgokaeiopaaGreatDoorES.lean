/-
  The engine (19): it is right; one operation.
-/
import Derived.Test.YtkjhjgokaeiopaaGreatDoorEQ
namespace Go.Proofs.YtkjhjgokaeiopaaGreatDoor.E
open Go Go.RowKit
open Classical in
/-- For whatever the names stand for that are not told. -/
def At (D : Nat → Prop) (C : Nm) (Q : Nm → Prop) : Prop := ∀ ρ, (∀ i, D i → ρ i = C i) → Q ρ
section
variable {D D' D1 D2 : Nat → Prop} {C C' C1 C2 : Nm} {Q R : Nm → Prop}
theorem At.self (h : At D C Q) : Q C := h C fun _ _ => rfl
theorem At.imp (h : At D C Q) (hi : ∀ ρ, Q ρ → R ρ) : At D C R := fun ρ hρ => hi ρ (h ρ hρ)
theorem At.and (h : At D C Q) (h' : At D C R) : At D C (fun ρ => Q ρ ∧ R ρ) := fun ρ hρ => ⟨h ρ hρ, h' ρ hρ⟩
theorem At.sub (h : At D C Q) (hs : ∀ i, D i → D' i) (ha : ∀ i, D i → C' i = C i) : At D' C' Q := fun ρ hρ => h ρ fun i hi => (hρ i (hs i hi)).trans (ha i hi)
end
/-- From one state on to another. -/
structure Ext (D D' : Nat → Prop) (C C' : Nm) (c c' : Nat) (h h' : T O) (w w' : World) : Prop where
  le : c ≤ c'
  sub : ∀ i, D i → D' i
  lt : ∀ i, D' i → i < c'
  new : ∀ i, D' i → D i ∨ c ≤ i
  agree : ∀ i, D i → C' i = C i
  keeps : Keeps w w' (Ours C h)
  ours : ∀ k, Ours C' h' k → Ours C h k ∨ w.heap.size ≤ k
section
variable {D D' D1 D2 : Nat → Prop} {C C' C1 C2 : Nm} {c c' c1 c2 : Nat} {h h' h1 h2 : T O} {w w' w1 w2 : World} {Q : Nm → Prop}
theorem Ext.refl (hd : ∀ i, D i → i < c) : Ext D D C C c c h h w w := ⟨Nat.le_refl _, fun _ h => h, hd, fun _ h => .inl h, fun _ _ => rfl, Keeps.refl _ _, fun _ h => .inl h⟩
theorem Ext.trans (a : Ext D D1 C C1 c c1 h h1 w w1) (b : Ext D1 D2 C1 C2 c1 c2 h1 h2 w1 w2) : Ext D D2 C C2 c c2 h h2 w w2 :=
  ⟨Nat.le_trans a.le b.le, fun i hi => b.sub i (a.sub i hi), b.lt, fun i hi => (b.new i hi).elim (a.new i) (fun q => .inr (Nat.le_trans a.le q)), fun i hi => (b.agree i (a.sub i hi)).trans (a.agree i hi),
    a.keeps.trans b.keeps fun k hk hF => (a.ours k hF).elim id fun q => absurd hk (by omega),
    fun k hk => (b.ours k hk).elim (a.ours k) fun q => .inr (Nat.le_trans a.keeps.size q)⟩
theorem At.ext (hQ : At D C Q) (e : Ext D D' C C' c c' h h' w w') : At D' C' Q := hQ.sub e.sub e.agree
end
section
variable {P : Program} {σ : Nat → Value} {n c c' : Nat} {rs : T V} {h h' : T O} {a : Act} {w w' : World} {tb : Tb} {D D' : Nat → Prop} {C C' : Nm}
/-- What is laid has a name that is told. -/
theorem dom (hm : At D C fun ρ => Mem σ ρ h w) {i : Nat} {o : O} (hi : h.get i = some o) : D i := by
  refine Classical.byContradiction fun hn => ?_
  have := O.holds_lt ((hm (fun j => if j = i then ⟨w.heap.size, 0, 0⟩ else C j) fun j hj => by
    show (if j = i then _ else _) = _
    have hne : j ≠ i := fun e => hn (e ▸ hj)
    simp [hne]).ok i o hi)
  simp at this
theorem none_of (hm : At D C fun ρ => Mem σ ρ h w) {i : Nat} (hn : ¬ D i) : h.get i = none := by
  cases hg : h.get i with
  | none => rfl
  | some o => exact absurd (dom hm hg) hn
def putT (d : Option Tmp) (u : Value) (tmps : Array Value) : Array Value := match d with
  | some d => tmps.setIfInBounds d u
  | none => tmps
theorem putK_ok {d : Option Tmp} {v : V} {k : T V → Bool} (hk : putK n rs d v k = true) : ∃ rs', k rs' = true ∧ ∀ σ ρ tmps u, RegsOk σ ρ n rs tmps → u = v.den σ ρ → RegsOk σ ρ n rs' (putT d u tmps) := by
  cases d with
  | none => exact ⟨rs, hk, fun _ _ _ _ h _ => h⟩
  | some d =>
    unfold putK at hk
    dsimp only at hk
    cases hb : Nat.blt d n with
    | false => rw [hb] at hk; cases hk
    | true =>
      rw [hb] at hk
      rw [Nat.blt_eq] at hb
      obtain ⟨rs', h1, h2⟩ := T.set_ok hk
      refine ⟨rs', h2, fun σ ρ tmps u hr hu => ⟨by simp [putT, hr.size], fun i v' hi => ?_⟩⟩
      show (tmps.setIfInBounds d u)[i]? = _
      rw [h1] at hi
      by_cases e : i = d
      · rw [if_pos e] at hi
        cases hi
        subst e hu
        simp [hr.size, hb]
      · rw [if_neg e] at hi
        rw [Array.getElem?_setIfInBounds_ne (by omega)]
        exact hr.get _ _ hi
theorem fxK_ok {f : Fx} {k : V → T O → Bool} (hk : fxK f h k = true) : ∃ h', (∀ j, h'.get j = f.to h j) ∧ k f.v h' = true := by
  obtain ⟨v, rm, put⟩ := f
  unfold fxK at hk
  dsimp only at hk
  cases rm with
  | none =>
    cases put with
    | none => dsimp only at hk; rw [V.frc_eq] at hk; exact ⟨h, fun j => by simp [Fx.to], hk⟩
    | some po =>
      obtain ⟨p, o⟩ := po
      dsimp only at hk
      rw [V.frc_eq, O.frc_eq] at hk
      obtain ⟨h', h1, h2⟩ := T.set_ok hk
      exact ⟨h', fun j => by rw [h1]; simp [Fx.to], h2⟩
  | some q =>
    cases put with
    | none =>
      dsimp only at hk
      rw [V.frc_eq] at hk
      obtain ⟨h', h1, h2⟩ := T.set_ok hk
      exact ⟨h', fun j => by rw [h1]; simp [Fx.to, eq_comm], h2⟩
    | some po =>
      obtain ⟨p, o⟩ := po
      dsimp only at hk
      rw [V.frc_eq, O.frc_eq] at hk
      obtain ⟨h', h1, h2⟩ := T.set_ok hk
      obtain ⟨h'', h3, h4⟩ := T.set_ok h2
      exact ⟨h'', fun j => by rw [h3, h1]; simp [Fx.to, eq_comm], h4⟩
/-- A name is given. -/
def giveN (C : Nm) (c : Nat) (x : A) : Nm := fun i => if i = c then x else C i
/-- An operation that turns memory, on known values. -/
theorem fx_at {f : Fx} {o : Oper} (hT : tb.ok P) (hD : ∀ i, D i → i < c) (hr : At D C fun ρ => RegsOk σ ρ n rs a.tmps) (hm : At D C fun ρ => Mem σ ρ h w) (hf : fx P tb rs h c o = some f) (hh : ∀ j, h'.get j = f.to h j) :
    ∃ u w', ((execOp a.eval o).run P w = .ok (.value u) w' ∨ (execOp a.eval o).run P w = .ok .skip w' ∧ u = undef) ∧
      Ext D (fun i => D i ∨ i = c) C (giveN C c (nmOf u)) c (c + 1) h h' w w' ∧ At (fun i => D i ∨ i = c) (giveN C c (nmOf u)) (fun ρ => u = f.v.den σ ρ ∧ Mem σ ρ h' w') := by
  have hnc : ¬ D c := fun q => absurd (hD c q) (Nat.lt_irrefl _)
  obtain ⟨u, w', d0⟩ := fx_ok hT hr.self hm.self hf
  have hgc : h.get c = none := none_of hm hnc
  have hg : ∀ i, D i → giveN C c (nmOf u) i = C i := fun i hi => by unfold giveN; rw [if_neg (by have := hD i hi; omega)]
  refine ⟨u, w', d0.run, ⟨by omega, fun _ q => .inl q, fun i hi => hi.elim (fun q => by have := hD i q; omega) (fun q => by omega), fun i hi => hi.elim .inl (fun q => .inr (by omega)), hg, d0.keeps, fun k hk => ?_⟩, fun ρ hρ => ?_⟩
  · obtain ⟨i, oi, h1, h2⟩ := hk
    rw [hh] at h1
    unfold Fx.to at h1
    have old : ∀ i oi, h.get i = some oi → (giveN C c (nmOf u) i).b = k → Ours C h k := fun i oi q1 q2 => ⟨i, oi, q1, by rw [hg i (dom hm q1)] at q2; exact q2⟩
    cases hp : f.put with
    | none =>
      rw [hp] at h1
      dsimp only at h1
      by_cases e2 : f.rm = some i
      · rw [if_pos e2] at h1; cases h1
      · rw [if_neg e2] at h1; exact .inl (old _ _ h1 h2)
    | some po =>
      obtain ⟨p, o'⟩ := po
      rw [hp] at h1
      dsimp only at h1
      by_cases e : i = p
      · subst e
        rcases d0.names _ _ hp with rfl | ⟨o2, q⟩
        · have := d0.fresh ⟨o', hp⟩ hgc
          have hb : (nmOf u).b = k := by rw [← h2]; simp [giveN]
          rw [hb] at this
          exact this.symm
        · exact .inl (old _ _ q h2)
      · rw [if_neg e] at h1
        by_cases e2 : f.rm = some i
        · rw [if_pos e2] at h1; cases h1
        · rw [if_neg e2] at h1; exact .inl (old _ _ h1 h2)
  · have hρ' : ∀ i, D i → ρ i = C i := fun i hi => (hρ i (.inl hi)).trans (hg i hi)
    obtain ⟨u1, w1, d1⟩ := fx_ok hT (hr ρ hρ') (hm ρ hρ') hf
    obtain ⟨rfl, rfl⟩ : u = u1 ∧ w' = w1 := by
      rcases d0.run with q0 | ⟨q0, rfl⟩ <;> rcases d1.run with q1 | ⟨q1, rfl⟩ <;> rw [q0] at q1 <;> injection q1 with q2 q3
      · injection q2 with q2; exact ⟨q2, q3⟩
      · cases q2
      · cases q2
      · exact ⟨rfl, q3⟩
    have hc : ρ c = nmOf u := by rw [hρ c (.inr rfl)]; simp [giveN]
    obtain ⟨m1, m2⟩ := d1.mem hc
    exact ⟨m1, m2 h' hh⟩
/-- What is handed back, in the end. -/
inductive Fin (P : Program) (w1 : World) : Next → Value → World → Prop where
  | value {u : Value} : Fin P w1 (.value u) u w1
  | skip : Fin P w1 .skip undef w1
  | enter {f : FuncId} {args : Array Value} {u : Value} {w' : World} (h : ∀ fr cs, Steps P (lone (Frame.enter P f args .normal) (fr :: cs) w1) (lone (fr.finish u) cs w')) : Fin P w1 (.enter f args) u w'
  | round {l f : Nat} {t : Array Value} {x y : Code} {u : Value} {w' : World} (h : ∀ fr cs, Steps P (lone (Frame.round l f t x y .normal) (fr :: cs) w1) (lone (fr.finish u) cs w')) : Fin P w1 (.round l f t x y) u w'
/-- What is called, for the machine. -/
def Tg.sem (σ : Nat → Value) (ρ : Nm) : Tg → Sem Next
  | .fn f args => callFunc f (denL σ ρ args).toArray
  | .yield l args => Instr.yield (ρ l).b (denL σ ρ args).toArray
def Tg.args : Tg → List V
  | .fn _ l => l
  | .yield _ l => l
structure Goes (P : Program) (σ : Nat → Value) (D : Nat → Prop) (C : Nm) (c : Nat) (h : T O) (w : World) (s : Sem Next) (k : V → T O → Nat → Prop) : Prop where
  ex : ∃ nxt w1 u w' D' C' c' h' v, s.run P w = .ok nxt w1 ∧ Fin P w1 nxt u w' ∧ Ext D D' C C' c c' h h' w w' ∧ At D' C' (fun ρ => u = v.den σ ρ ∧ Mem σ ρ h' w') ∧ k v h' c'
def CallsOk (P : Program) (σ : Nat → Value) (cl : CK) : Prop := ∀ t h c k, cl t h c k = true → ∀ D C w, (∀ i, D i → i < c) → At D C (fun ρ => Mem σ ρ h w) → At D C (fun ρ => denL σ ρ t.args = denL σ C t.args) →
  Goes P σ D C c h w (t.sem σ C) fun v h' c' => k v h' c' = true
theorem tgt_ok {o : Oper} {t : Tg} (hr : At D C fun ρ => RegsOk σ ρ n rs a.tmps) (ht : tgt rs o = some t) : ((execOp a.eval o).run P w = (t.sem σ C).run P w) ∧ At D C (fun ρ => denL σ ρ t.args = denL σ C t.args) := by
  obtain ⟨dst, op, ty, pos, af, gd⟩ := o
  unfold tgt at ht
  dsimp only at ht
  split at ht
  · rename_i x xs ts
    split at ht
    · rename_i f caps vs hx hv
      cases ht
      have hx0 := ov_ev hr.self hx
      have hv0 := ovL_ok hr.self hv
      refine ⟨?_, fun ρ hρ => ?_⟩
      · simp only [V.den] at hx0
        have e : xs.map a.eval = (denL σ C vs).toArray := Array.toList_inj.1 (by simpa using hv0)
        simp [execOp, resolve, hx0, Deferred.ofValue, e, invoke, Tg.sem, denL_map]
      · have hx1 := ov_ev (hr ρ hρ) hx
        have hv1 := ovL_ok (hr ρ hρ) hv
        rw [hx0] at hx1; rw [hv0] at hv1
        simp only [V.den, Value.func.injEq, true_and] at hx1
        have hx2 : denL σ C caps = denL σ ρ caps := by
          have := congrArg Array.toList hx1
          simpa using this
        simp only [Tg.args]
        simp only [denL_map, List.map_append] at hx2 hv1 ⊢
        rw [hx2, hv1]
    · rename_i l vs hx hv
      cases ht
      have hx0 := ov_ev hr.self hx
      have hv0 := ovL_ok hr.self hv
      refine ⟨?_, fun ρ hρ => ?_⟩
      · simp only [V.den] at hx0
        have e : xs.map a.eval = (denL σ C vs).toArray := Array.toList_inj.1 (by simpa using hv0)
        simp [execOp, resolve, hx0, Deferred.ofValue, e, invoke, Tg.sem]
      · have hv1 := ovL_ok (hr ρ hρ) hv
        rw [hv0] at hv1
        exact hv1.symm
    · cases ht
  · cases ht
/-- An operation, whatever it is. -/
theorem opK_ok {cl : CK} {o : Oper} {k : K1} (hT : tb.ok P) (hc : CallsOk P σ cl) (hD : ∀ i, D i → i < c) (hr : At D C fun ρ => RegsOk σ ρ n rs a.tmps) (hm : At D C fun ρ => Mem σ ρ h w) (hk : opK P tb cl rs h c o k = true) :
    Goes P σ D C c h w (execOp a.eval o) fun v h' c' => k v h' c' = true := by
  unfold opK at hk
  split at hk
  · rename_i v hv
    rw [V.frc_eq] at hk
    have h0 := pv_ok hT hr.self hm.self hv
    refine ⟨_, _, _, _, D, C, c, h, v, h0, .value, Ext.refl hD, fun ρ hρ => ⟨?_, hm ρ hρ⟩, hk⟩
    have h1 := pv_ok hT (hr ρ hρ) (hm ρ hρ) hv
    rw [h0] at h1
    injection h1 with h1
    injection h1
  · split at hk
    · rename_i f hf
      obtain ⟨h', h1, h2⟩ := fxK_ok hk
      obtain ⟨u, w', q1, q2, q3⟩ := fx_at hT hD hr hm hf h1
      rcases q1 with q1 | ⟨q1, rfl⟩
      · exact ⟨_, _, _, _, _, _, _, h', f.v, q1, .value, q2, q3, h2⟩
      · exact ⟨_, _, _, _, _, _, _, h', f.v, q1, .skip, q2, q3, h2⟩
    · split at hk
      · rename_i t ht
        obtain ⟨q1, q2⟩ := tgt_ok (P := P) (w := w) hr ht
        obtain ⟨nxt, w1, u, w', D', C', c', h', v, g1, g2⟩ := (hc _ _ _ _ hk D C w hD hm q2).ex
        exact ⟨nxt, w1, u, w', D', C', c', h', v, q1.trans g1, g2⟩
      · cases hk
theorem wantV_ok {ops : Array Oper} {o : Oper} {b : Bool} {ρ : Nm} {tmps : Array Value} (hr : RegsOk σ ρ n rs tmps) (hw : wantV ops rs o = some b) : Region.wanted o (yielded ops tmps) = b := by
  unfold wantV at hw
  unfold Region.wanted
  cases hg : o.guard with
  | none => rw [hg] at hw; cases hw; rfl
  | some g =>
    obtain ⟨j, want⟩ := g
    rw [hg] at hw
    dsimp only at hw ⊢
    split at hw
    · cases hw
    · rename_i t ht
      unfold yielded
      rw [ht]
      split at hw
      · rename_i d hd
        cases hw
        have := hr.get _ _ hd
        simp [this, V.den]
      · rename_i l hd
        cases hw
        have := hr.get _ _ hd
        simp [this, V.den]
      · cases hw
end
end Go.Proofs.YtkjhjgokaeiopaaGreatDoor.E
