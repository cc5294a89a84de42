/-
  The engine (21): it is right; calls, bodies.
-/
import Derived.Test.YtkjhjgokaeiopaaGreatDoorEU
namespace Go.Proofs.YtkjhjgokaeiopaaGreatDoor.E
open Go Go.RowKit
section
variable {P : Program} {σ : Nat → Value} {n c c' : Nat} {rs : T V} {h h' : T O} {a : Act} {w w' : World} {tb : Tb} {D D' : Nat → Prop} {C C' : Nm} {ρ : Nm} {k : List Item} {fr : Frame} {cs : List Frame} {ft : T Func} {xt : T Xt}
def BodyRes (P : Program) (σ : Nat → Value) (D : Nat → Prop) (C : Nm) (c : Nat) (h : T O) (fr : Frame) (w : World) (f : Fr) (k : KB) : Prop :=
  ∃ j f' h' c' D' C' fr' w', (∀ cs, (f.dfd = true → ∃ c0 cs0, cs = c0 :: cs0 ∧ c0.mode = .returning) → Steps P (lone fr cs w) (lone fr' cs w')) ∧ Ext D D' C C' c c' h h' w w' ∧
    At D' C' (fun ρ => FrAt σ ρ f' fr' ∧ Mem σ ρ h' w') ∧ Leaves j f'.todo ∧ f'.dfd = f.dfd ∧ f'.rof = f.rof ∧ f'.fn = f.fn ∧ k j f' h' c' = true
theorem BodyRes.step {D1 : Nat → Prop} {C1 : Nm} {c1 : Nat} {h1 : T O} {fr1 : Frame} {w1 : World} {f f1 : Fr} {k : KB} (hs : ∀ cs, (f.dfd = true → ∃ c0 cs0, cs = c0 :: cs0 ∧ c0.mode = .returning) → Steps P (lone fr cs w) (lone fr1 cs w1))
    (e : Ext D D1 C C1 c c1 h h1 w w1) (hd : f1.dfd = f.dfd) (hr : f1.rof = f.rof) (hf : f1.fn = f.fn) (hB : BodyRes P σ D1 C1 c1 h1 fr1 w1 f1 k) : BodyRes P σ D C c h fr w f k := by
  obtain ⟨j, f', h', c', D', C', fr', w', q1, q2, q3, q4, q5, q6, q7, q8⟩ := hB
  exact ⟨j, f', h', c', D', C', fr', w', fun cs hc => Steps.trans (hs cs hc) (q1 cs (by rw [hd]; exact hc)), e.trans q2, q3, q4, q5.trans hd, q6.trans hr, q7.trans hf, q8⟩
def BodyOk (P : Program) (σ : Nat → Value) (body : BK) : Prop := ∀ f h c k, body f h c k = true → ∀ D C fr w, (∀ i, D i → i < c) → At D C (fun ρ => FrAt σ ρ f fr ∧ Mem σ ρ h w) → BodyRes P σ D C c h fr w f k
def FtOk (P : Program) (ft : T Func) : Prop := ∀ f fn, ft.get f = some fn → fnOk P f fn
def XtOk (P : Program) (xt : T Xt) : Prop := ∀ f x args v, xt.get f = some x → x.run args = some v → ∀ σ ρ w, (callFunc f (denL σ ρ args).toArray).run P w = .ok (.value (v.den σ ρ)) w
/-- A function's frame, new. -/
theorem enter_at {f : FuncId} {g : Func} {args : List V} {kk : T V → Bool} {kind : CallKind} (hg : P.funcs[f]? = some g) (ha : At D C fun ρ => denL σ ρ args = denL σ C args) (hl : args.length ≤ g.ntmps) (hk : argsK g.ntmps 0 args .leaf kk = true) :
    ∃ rs', kk rs' = true ∧ At D C fun ρ => RegsOk σ ρ g.ntmps rs' (Frame.enter P f (denL σ C args).toArray kind).tmps := by
  obtain ⟨rs', h1, h2⟩ := argsK_ok hk
  refine ⟨rs', h1, fun ρ hρ => h2 σ ρ _ ⟨?_, fun i v hi => by rw [T.get_leaf] at hi; cases hi⟩ fun j v hj => ?_⟩
  · simp [Frame.enter, hg, denL_len]; omega
  · have hj' : j < args.length := (List.getElem?_eq_some_iff.1 hj).1
    have := ha ρ hρ
    simp only [Frame.enter, Nat.zero_add]
    rw [Array.getElem?_append_left (by simp [denL_len, hj']), List.getElem?_toArray, ← this, denL_map, List.getElem?_map, hj]
    rfl
theorem unwK_ok {body : BK} (hT : tb.ok P) (hF : FtOk P ft) (hB : BodyOk P σ body) {fn : Func} {K : K1} : ∀ {ds : List Df} {h : T O} {c : Nat}, unwK tb ft body fn rs ds h c K = true → ∀ {D : Nat → Prop} {C : Nm} {fr : Frame} {w : World}, (∀ i, D i → i < c) → fr.mode = .returning → fr.kind = .normal →
    P.funcs[fr.fn]? = some fn → At D C (fun ρ => RegsOk σ ρ n rs fr.tmps ∧ fr.defers = ds.map (Df.den σ ρ) ∧ Mem σ ρ h w) →
    ∃ u v D' C' c' h' w' fl, (∀ cs, Steps P (lone fr cs w) (lone fl cs w')) ∧ Ext D D' C C' c c' h h' w w' ∧ At D' C' (fun ρ => u = v.den σ ρ ∧ Mem σ ρ h' w') ∧ K v h' c' = true ∧ fl.leaving P w' (.returned u) ∧ fl.fn = fr.fn
  | [], h, c, hk, D, C, fr, w, hD, hm, hn, hf, ha => by
    unfold unwK at hk
    split at hk
    · rename_i v hv
      rw [V.frc_eq] at hk
      obtain ⟨a1, a2, a3⟩ := ha.self
      have r0 := resV_ok (a := ⟨fr.tmps, []⟩) hT a1 a3 hv
      refine ⟨_, v, D, C, c, h, w, fr, fun cs => .refl _ _, Ext.refl hD, fun ρ hρ => ⟨?_, (ha ρ hρ).2.2⟩, hk, ⟨hm, a2, hn, fn, hf, r0⟩, rfl⟩
      have r1 := resV_ok (a := ⟨fr.tmps, []⟩) hT (ha ρ hρ).1 (ha ρ hρ).2.2 hv
      rw [r0] at r1
      injection r1
    · cases hk
  | .coll id :: ds, h, c, hk, D, C, fr, w, hD, hm, hn, hf, ha => by
    unfold unwK at hk
    split at hk
    · rename_i u hg
      obtain ⟨h', h1, h2⟩ := T.set_ok hk
      obtain ⟨a1, a2, a3⟩ := ha.self
      have hh := a3.ok _ _ hg
      have hid : D id := dom (ha.imp fun _ q => q.2.2) hg
      obtain ⟨e, m⟩ := turn_at (ob := .deferred none) hD (ha.imp fun _ q => q.2.2) hg h1 (fun ρ hρ => by
        show O.holds σ ρ (ρ id) _ _
        rw [hρ id hid]
        have := lt_of_some hh
        simp [O.holds, this])
      have hs : ∀ cs, Steps P (lone fr cs w) (lone { fr with defers := ds.map (Df.den σ C) } cs { w with heap := w.heap.setIfInBounds (C id).b (.deferred none) }) := fun cs => .one (s_taken hm a2 hh)
      obtain ⟨u', v, D', C', c', h'', w', fl, q1, q2, q3, q4, q5, q6⟩ := unwK_ok hT hF hB h2 (fr := { fr with defers := ds.map (Df.den σ C) }) hD hm hn hf (fun ρ hρ => ⟨(ha ρ hρ).1, by
          have := (ha ρ hρ).2.1
          rw [a2] at this
          simp only [List.map_cons, List.cons.injEq] at this
          exact this.2, m ρ hρ⟩)
      exact ⟨u', v, D', C', c', h'', w', fl, fun cs => Steps.trans (hs _) (q1 cs), e.trans q2, q3, q4, q5, q6⟩
    · cases hk
  | .fn f caps args :: ds, h, c, hk, D, C, fr, w, hD, hm, hn, hf, ha => by
    unfold unwK at hk
    split at hk
    · rename_i g hg
      obtain ⟨g1, g2⟩ := hF _ _ hg
      split at hk
      · rename_i code hb
        cases hl : Nat.ble (args ++ caps).length g.ntmps with
        | false => rw [hl] at hk; cases hk
        | true =>
          rw [hl] at hk
          simp only [cond_true, nK_eq] at hk
          have hl := Nat.le_of_ble_eq_true hl
          obtain ⟨a1, a2, a3⟩ := ha.self
          have hdf : ∀ ρ, (∀ i, D i → ρ i = C i) → Df.den σ ρ (.fn f caps args) = Df.den σ C (.fn f caps args) ∧ ds.map (Df.den σ ρ) = ds.map (Df.den σ C) := fun ρ hρ => by
            have := (ha ρ hρ).2.1
            rw [a2] at this
            simp only [List.map_cons, List.cons.injEq] at this
            exact ⟨this.1.symm, this.2.symm⟩
          have hargs : At D C fun ρ => denL σ ρ (args ++ caps) = denL σ C (args ++ caps) := fun ρ hρ => by
            have := (hdf ρ hρ).1
            simp only [Df.den, Deferred.mk.injEq, Target.fn.injEq, true_and] at this
            obtain ⟨q1, q2⟩ := this
            have q1 : denL σ ρ caps = denL σ C caps := by simpa using congrArg Array.toList q1
            have q2 : denL σ ρ args = denL σ C args := by simpa using congrArg Array.toList q2
            simp only [denL_map, List.map_append] at *
            rw [q1, q2]
          obtain ⟨rs', k1, k2⟩ := enter_at (kind := .deferred) g1 hargs hl hk
          obtain ⟨j, f', h', c', D', C', fr', w', q1, q2, q3, q4, q5, q6, q7, q8⟩ := hB _ _ _ _ k1 D C (Frame.enter P f (denL σ C (args ++ caps)).toArray .deferred) w hD (fun ρ hρ =>
            ⟨⟨rfl, rfl, k2 ρ hρ, by simp [Frame.enter, g1, hb, It.den], by simp [It.ok], rfl, rfl, rfl⟩, (ha ρ hρ).2.2⟩)
          dsimp only at q5 q6 q7 q8
          split at q8
          · rename_i v hdf' hv hj
            obtain ⟨f1, f2⟩ := q3.self
            have r0 := resV_ok (a := ⟨fr'.tmps, []⟩) hT f1.regs f2 hv
            have hd' : fr'.defers = [] := by rw [f1.df, hdf']; rfl
            have hro : fr'.roundOf = none := by rw [f1.rof, q6]; rfl
            have hki : fr'.kind = .deferred := by rw [f1.kind, q5]; rfl
            have hfn : P.funcs[fr'.fn]? = some g := by rw [f1.fn, q7]; exact g1
            have hlv : fr'.todo = [] ∨ ∃ k, fr'.todo = .code .ret :: k := by
              rw [f1.todo]
              rcases q4 with ⟨_, q⟩ | ⟨_, k', q⟩ | ⟨id, k', q, _⟩ | ⟨id, k', q, _⟩
              · left; rw [q]; rfl
              · right; rw [q]; exact ⟨_, rfl⟩
              · rw [q] at hj; cases hj
              · rw [q] at hj; cases hj
            obtain ⟨u', v', D'', C'', c'', h'', w'', fl, p1, p2, p3, p4, p5, p6⟩ := unwK_ok hT hF hB q8 (fr := { fr with defers := ds.map (Df.den σ C) }) (w := w') q2.lt hm hn hf (fun ρ hρ => by
              have hρ' : ∀ i, D i → ρ i = C i := fun i hi => (hρ i (q2.sub i hi)).trans (q2.agree i hi)
              exact ⟨(ha ρ hρ').1, (hdf ρ hρ').2.symm, (q3 ρ hρ).2⟩)
            refine ⟨u', v', D'', C'', c'', h'', w'', fl, fun cs => ?_, q2.trans p2, p3, p4, p5, p6⟩
            have e1 : (denL σ C args).toArray ++ (denL σ C caps).toArray = (denL σ C (args ++ caps)).toArray := by simp [denL_map]
            have s1 := s_callD (P := P) (_args := #[]) (cs := cs) (w := w) hm (by rw [a2]; rfl) g2
            rw [e1] at s1
            refine .head s1 (Steps.trans (q1 _ fun _ => ⟨_, _, rfl, hm⟩) ?_)
            refine .head (s_leave f1.mode hro hlv) (.head (s_retD (fr := { fr' with mode := .returning }) rfl hd' hki hm hfn r0) (p1 cs))
          · cases q8
      · cases hk
    · cases hk
/-- A function that is called. -/
theorem fn_ok {body : BK} (hT : tb.ok P) (hF : FtOk P ft) (hB : BodyOk P σ body) {f : FuncId} {args : List V} {fn : Func} {code : Code} {K : K1} (hfn : ft.get f = some fn) (hb : fn.body = some code) (hl : args.length ≤ fn.ntmps) (hD : ∀ i, D i → i < c) (hm : At D C fun ρ => Mem σ ρ h w) (hargs : At D C fun ρ => denL σ ρ args = denL σ C args)
    (hk : (argsK fn.ntmps 0 args .leaf fun rs => body ⟨f, fn.ntmps, rs, [.code code], [], false, none⟩ h c fun j fr h c => bif retq j then unwK tb ft body fn fr.rs fr.df h c K else false) = true) :
    ∃ u v D' C' c' h' w' fl, (∀ cs, Steps P (lone (Frame.enter P f (denL σ C args).toArray .normal) cs w) (lone fl cs w')) ∧ Ext D D' C C' c c' h h' w w' ∧ At D' C' (fun ρ => u = v.den σ ρ ∧ Mem σ ρ h' w') ∧ K v h' c' = true ∧ fl.leaving P w' (.returned u) ∧ fl.fn = f := by
  obtain ⟨g1, g2⟩ := hF _ _ hfn
  obtain ⟨rs', k1, k2⟩ := enter_at (kind := .normal) g1 hargs hl hk
  obtain ⟨j, f', h', c', D', C', fr', w', q1, q2, q3, q4, q5, q6, q7, q8⟩ := hB _ _ _ _ k1 D C (Frame.enter P f (denL σ C args).toArray .normal) w hD (fun ρ hρ =>
    ⟨⟨rfl, rfl, k2 ρ hρ, by simp [Frame.enter, g1, hb, It.den], by simp [It.ok], rfl, rfl, rfl⟩, hm ρ hρ⟩)
  dsimp only at q5 q6 q7 q8
  cases hj : retq j with
  | false => rw [hj] at q8; cases q8
  | true =>
    rw [hj] at q8
    simp only [cond_true] at q8
    obtain ⟨f1, f2⟩ := q3.self
    have hro : fr'.roundOf = none := by rw [f1.rof, q6]; rfl
    have hki : fr'.kind = .normal := by rw [f1.kind, q5]; rfl
    have hfn : P.funcs[fr'.fn]? = some fn := by rw [f1.fn, q7]; exact g1
    have hlv : fr'.todo = [] ∨ ∃ k, fr'.todo = .code .ret :: k := by
      rw [f1.todo]
      rcases q4 with ⟨_, q⟩ | ⟨_, k', q⟩ | ⟨id, k', q, _⟩ | ⟨id, k', q, _⟩
      · left; rw [q]; rfl
      · right; rw [q]; exact ⟨_, rfl⟩
      · rw [q] at hj; cases hj
      · rw [q] at hj; cases hj
    obtain ⟨u', v', D'', C'', c'', h'', w'', fl, p1, p2, p3, p4, p5, p6⟩ := unwK_ok hT hF hB q8 (fr := { fr' with mode := .returning }) (w := w') q2.lt rfl hki hfn (fun ρ hρ => ⟨(q3 ρ hρ).1.regs, (q3 ρ hρ).1.df, (q3 ρ hρ).2⟩)
    exact ⟨u', v', D'', C'', c'', h'', w'', fl, fun cs => Steps.trans (q1 _ (by simp)) (.head (s_leave f1.mode hro hlv) (p1 cs)), q2.trans p2, p3, p4, p5, by rw [p6]; exact f1.fn.trans q7⟩
theorem callK_ok {body : BK} (hT : tb.ok P) (hF : FtOk P ft) (hX : XtOk P xt) (hB : BodyOk P σ body) : CallsOk P σ (callK tb ft xt body) := by
  intro t h c k hk D C w hD hm hargs
  cases t with
  | fn f args =>
    simp only [callK] at hk
    simp only [Tg.args] at hargs
    split at hk
    · rename_i x hx
      split at hk
      · rename_i v hv
        rw [V.frc_eq] at hk
        have h0 := hX f x args v hx hv σ C w
        refine ⟨_, _, _, _, D, C, c, h, v, h0, .value, Ext.refl hD, fun ρ hρ => ⟨?_, hm ρ hρ⟩, hk⟩
        have h1 := hX f x args v hx hv σ ρ w
        rw [hargs ρ hρ, h0] at h1
        injection h1 with h1
        injection h1
      · cases hk
    · split at hk
      · rename_i fn hfn
        obtain ⟨g1, g2⟩ := hF _ _ hfn
        split at hk
        · rename_i code hb
          cases hl : Nat.ble args.length fn.ntmps with
          | false => rw [hl] at hk; cases hk
          | true =>
            rw [hl] at hk
            simp only [cond_true, nK_eq] at hk
            have hl := Nat.le_of_ble_eq_true hl
            obtain ⟨u', v', D'', C'', c'', h'', w'', fl, p1, p2, p3, p4, p5, p6⟩ := fn_ok hT hF hB hfn hb hl hD hm hargs hk
            exact ⟨_, _, u', w'', D'', C'', c'', h'', v', g2 _ _, .enter fun fr cs => Steps.trans (p1 _) (.one (step_leave_returned p5)), p2, p3, p4⟩
        · cases hk
      · cases hk
  | yield l args =>
    simp only [callK] at hk
    simp only [Tg.args] at hargs
    split at hk
    · rename_i st pd fn rs n params assign bd d hg
      obtain ⟨hl, rs', k1, k2⟩ := setAllK_ok hk
      obtain ⟨tmps, m1, m2⟩ := hm.self.ok _ _ hg
      have hlD : D l := dom hm hg
      have hregs : At D C fun ρ => RegsOk σ ρ n rs' (setAllA params (denL σ C args) tmps) := fun ρ hρ => by
        obtain ⟨tmps', m1', m2'⟩ := (hm ρ hρ).ok _ _ hg
        rw [hρ l hlD, m1] at m1'
        simp only [Option.some.injEq, Obj.loop.injEq, Loop.mk.injEq, true_and] at m1'
        obtain ⟨rfl, _⟩ := m1'
        rw [← hargs ρ hρ]
        exact k2 σ ρ _ m2'
      obtain ⟨j, f', h', c', D', C', fr', w', q1, q2, q3, q4, q5, q6, q7, q8⟩ := hB _ _ _ _ k1 D C (Frame.round (C l).b fn (setAllA params (denL σ C args) tmps) assign bd .normal) w hD (fun ρ hρ =>
        ⟨⟨rfl, rfl, hregs ρ hρ, rfl, by simp [It.ok], rfl, rfl, by simp [Frame.round, hρ l hlD]⟩, hm ρ hρ⟩)
      dsimp only at q5 q6 q7 q8
      split at q8
      · rename_i st' pd' fn' rs'' n' params' assign' bd' d' hdf hg'
        obtain ⟨f1, f2⟩ := q3.self
        obtain ⟨tmps', m1', m2'⟩ := f2.ok _ _ hg'
        have hlD' : D' l := q2.sub l hlD
        have hCl : C' l = C l := q2.agree l hlD
        have hro : fr'.roundOf = some (C' l).b := by rw [f1.rof, q6]; rfl
        have hki : fr'.kind = .normal := by rw [f1.kind, q5]; rfl
        have hnil : fr'.defers = [] := by rw [f1.df, hdf]; rfl
        have hj : (j = none ∧ fr'.todo = []) ∨ (j = some .ret ∧ ∃ k, fr'.todo = .code .ret :: k) ∨ (∃ id k, j = some (.exit id) ∧ fr'.todo = .code (.exit id) :: k ∧ exitTo id k = none) ∨ (∃ id k, j = some (.goto id) ∧ fr'.todo = .code (.goto id) :: k ∧ gotoIn id k = none) := by
          rw [f1.todo]
          rcases q4 with ⟨q, p⟩ | ⟨q, k', p⟩ | ⟨id, k', q, p, r⟩ | ⟨id, k', q, p, r⟩
          · exact .inl ⟨q, by rw [p]; rfl⟩
          · exact .inr (.inl ⟨q, _, by rw [p]; rfl⟩)
          · exact .inr (.inr (.inl ⟨id, _, q, by rw [p]; rfl, by rw [exitV_den, r]; rfl⟩))
          · exact .inr (.inr (.inr ⟨id, _, q, by rw [p]; rfl, by rw [gotoV_den, r]; rfl⟩))
        have hsem : (Tg.sem σ C (.yield l args)).run P w = .ok (.round (C l).b fn (setAllA params (denL σ C args) tmps) assign bd) w := by
          have hlen : (denL σ C args).toArray.size = params.toArray.size := by simp [denL_len, hl]
          simp [Tg.sem, Instr.yield, Instr.getLoop, getObj, Sem.run_bind, Sem.run, m1, denL_len, hl, setAllA]
        have go : ∀ (st1 : LoopState), (if j.isNone then LoopState.ready else .done) = st1 → ∀ (kk : T O → Bool), T.set (some (.loop st1 j fn' rs'' n' params' assign' bd' d')) 60 h' l kk = true →
            ∃ h'' w'', (∀ fr cs, Steps P (lone (Frame.round (C l).b fn (setAllA params (denL σ C args) tmps) assign bd .normal) (fr :: cs) w) (lone (fr.finish (.bool j.isNone)) cs w'')) ∧ Ext D D' C C' c c' h h'' w w'' ∧ At D' C' (fun ρ => Mem σ ρ h'' w'') ∧ kk h'' = true := by
          intro st1 hst kk hkk
          obtain ⟨h'', t1, t2⟩ := T.set_ok hkk
          obtain ⟨e, m⟩ := turn_at (ob := .loop { state := st1, pending := j, fn := fn', tmps := tmps', params := params'.toArray, assign := assign', body := bd', defers := (C' d').b }) q2.lt (q3.imp fun _ q => q.2) hg' t1 (fun ρ hρ => by
            obtain ⟨tm, z1, z2⟩ := (q3 ρ hρ).2.ok _ _ hg'
            rw [hρ l hlD', m1'] at z1
            simp only [Option.some.injEq, Obj.loop.injEq, Loop.mk.injEq, true_and] at z1
            obtain ⟨rfl, zd⟩ := z1
            have := lt_of_some m1'
            refine ⟨tmps', ?_, z2⟩
            rw [hρ l hlD', ← zd]
            simp [this])
          refine ⟨h'', _, fun fr cs => ?_, q2.trans e, m, t2⟩
          refine Steps.trans (q1 _ (by simp)) (.one ?_)
          have := s_leaveRound (P := P) (c := fr) (cs := cs) f1.mode hki hro m1' hj
          rw [hst] at this
          exact this
        cases hjn : j with
        | none =>
          rw [hjn] at q8 go
          obtain ⟨h'', w'', z1, z2, z3, z4⟩ := go .ready rfl _ q8
          exact ⟨_, _, _, w'', D', C', c', h'', .bool true, hsem, .round z1, z2, fun ρ hρ => ⟨rfl, z3 ρ hρ⟩, z4⟩
        | some jc =>
          rw [hjn] at q8 go
          obtain ⟨h'', w'', z1, z2, z3, z4⟩ := go .done rfl _ q8
          exact ⟨_, _, _, w'', D', C', c', h'', .bool false, hsem, .round z1, z2, fun ρ hρ => ⟨rfl, z3 ρ hρ⟩, z4⟩
      · cases q8
    · cases hk
end
end Go.Proofs.YtkjhjgokaeiopaaGreatDoor.E
