/-
  The engine (22): it is right; bodies.
-/
import Derived.Test.YtkjhjgokaeiopaaGreatDoorEV
namespace Go.Proofs.YtkjhjgokaeiopaaGreatDoor.E
open Go Go.RowKit
section
variable {P : Program} {σ : Nat → Value} {n c c' : Nat} {rs : T V} {h h' : T O} {a : Act} {w w' : World} {tb : Tb} {D D' : Nat → Prop} {C C' : Nm} {ρ : Nm} {k : List Item} {fr : Frame} {cs : List Frame} {ft : T Func} {xt : T Xt}
def RegOk (P : Program) (σ : Nat → Value) (tb : Tb) (cl : CK) : Prop := ∀ (id : Nat) (ops : Array Oper) (n : Nat) (rs : T V) (h : T O) (c : Nat) (k : T V → T O → Nat → Bool) (am : List Nat) (L : List RO), am = masks ops.toList [] → L = zip3 ops ops.toList am 0 ops.toList am → chkR ops L L = true → regK P tb cl ops n L 400 0 rs h c [] k = true →
  ∀ (D : Nat → Prop) (C : Nm) (fr : Frame) (w : World) (k0 : List Item), (∀ i, D i → i < c) → fr.mode = .run → fr.todo = .code (.region id ops true) :: k0 → At D C (fun ρ => RegsOk σ ρ n rs fr.tmps ∧ Mem σ ρ h w) →
  ∃ rs' h' c' D' C' tmps' w', (∀ cs, Steps P (lone fr cs w) (lone { fr with tmps := tmps', todo := k0 } cs w')) ∧ Ext D D' C C' c c' h h' w w' ∧ At D' C' (fun ρ => RegsOk σ ρ n rs' tmps' ∧ Mem σ ρ h' w') ∧ k rs' h' c' = true
theorem notDefer_of {o : Oper} {ev : Operand → Value} {nxt : Next} {w1 : World} {u : Value} (hr : (execOp ev o).run P w = .ok nxt w1) (hf : Fin P w1 nxt u w') : notDefer o.op = true := by
  cases hop : o.op <;> first | rfl | skip
  rename_i d
  simp only [execOp, hop, Sem.run_bind] at hr
  cases hs : (resolve ev d o.type).run P w with
  | ok d w2 =>
    simp [hs] at hr
    obtain ⟨rfl, _⟩ := hr
    cases hf
  | halt e w2 => simp [hs, Result.andThen] at hr
theorem FrAt.ev {f : Fr} (_hf : FrAt σ ρ f fr) : fr.eval = (⟨fr.tmps, []⟩ : Act).eval := by funext x; cases x <;> rfl
theorem ctl {body : BK} {fn : FuncId} {todo t1 : List It} {df : List Df} {dfd : Bool} {rof : Option Nat} {k : KB} (ih : BodyOk P σ body) (hD : ∀ i, D i → i < c) (ha : At D C fun ρ => FrAt σ ρ ⟨fn, n, rs, todo, df, dfd, rof⟩ fr ∧ Mem σ ρ h w)
    (hs : ∀ cs, step P (lone fr cs w) = .next (lone { fr with todo := t1.map (It.den C) } cs w)) (hc : At D C fun ρ => t1.map (It.den ρ) = t1.map (It.den C)) (hok : ∀ x ∈ t1, x.ok) (hk : body ⟨fn, n, rs, t1, df, dfd, rof⟩ h c k = true) :
    BodyRes P σ D C c h fr w ⟨fn, n, rs, todo, df, dfd, rof⟩ k :=
  .step (fun cs _ => .one (hs cs)) (Ext.refl hD) rfl rfl rfl (ih _ _ _ _ hk D C { fr with todo := t1.map (It.den C) } w hD fun ρ hρ =>
    let ⟨q, m⟩ := ha ρ hρ
    ⟨⟨q.fn, q.mode, q.regs, (hc ρ hρ).symm, hok, q.df, q.kind, q.rof⟩, m⟩)
/-- An operation is done: on from there. -/
theorem done {body : BK} {fn : FuncId} {t : List It} {df df1 : List Df} {dfd : Bool} {rof : Option Nat} {k : KB} {ops : Array Oper} {i : Nat} {o : Oper} {r : List Oper} {v : V} {u : Value} {ds : List Deferred} (ih : BodyOk P σ body)
    (ha : At D C fun ρ => FrAt σ ρ ⟨fn, n, rs, .reg ops i (o :: r) :: t, df, dfd, rof⟩ fr ∧ Mem σ ρ h w) (e : Ext D D' C C' c c' h h' w w') (hu : At D' C' fun ρ => u = v.den σ ρ ∧ Mem σ ρ h' w')
    (hs : ∀ cs, (dfd = true → ∃ c0 cs0, cs = c0 :: cs0 ∧ c0.mode = .returning) → Steps P (lone fr cs w) (lone ({ fr with defers := ds }.finish u) cs w')) (hd : At D' C' fun ρ => ds = df1.map (Df.den σ ρ))
    (hk : (putK n rs o.dst v fun rs => body ⟨fn, n, rs, .reg ops (i + 1) r :: t, df1, dfd, rof⟩ h' c' k) = true) : BodyRes P σ D C c h fr w ⟨fn, n, rs, .reg ops i (o :: r) :: t, df, dfd, rof⟩ k := by
  obtain ⟨rs', k1, k2⟩ := putK_ok hk
  have q0 := ha.self.1
  have hok := q0.ok _ (List.mem_cons_self ..)
  simp only [It.ok] at hok
  have hlen : i < ops.toList.length := by
    have := congrArg List.length hok
    simp only [List.length_cons, List.length_drop] at this
    omega
  have hdr := List.drop_eq_getElem_cons hlen
  rw [← hok] at hdr
  simp only [List.cons.injEq] at hdr
  obtain ⟨ho, hr⟩ := hdr
  have ho' : ops[i]? = some o := by rw [ho]; simp at hlen; simp [hlen]
  have htodo : fr.todo = .inRegion ops (i :: List.range' (i + 1) r.length) :: t.map (It.den C) := by rw [q0.todo]; simp [It.den, List.range'_succ]
  have hfin := finish_reg (fr := { fr with defers := ds }) (u := u) htodo ho'
  refine .step hs e rfl rfl rfl (ih _ _ _ _ k1 D' C' _ w' e.lt fun ρ hρ => ?_)
  have hρ' : ∀ i, D i → ρ i = C i := fun i hi => (hρ i (e.sub i hi)).trans (e.agree i hi)
  obtain ⟨q, m⟩ := ha ρ hρ'
  obtain ⟨u1, m1⟩ := hu ρ hρ
  rw [hfin]
  refine ⟨⟨q.fn, q.mode, k2 σ ρ fr.tmps u q.regs u1, ?_, fun x hx => ?_, hd ρ hρ, q.kind, q.rof⟩, m1⟩
  · have h1 := q.todo
    rw [htodo] at h1
    simp only [List.map_cons, List.cons.injEq] at h1
    simp only [List.map_cons, It.den, h1.2]
  · rcases List.mem_cons.1 hx with rfl | hx
    · exact hr
    · exact q.ok x (List.mem_cons_of_mem _ hx)
theorem bodyK_ok (hT : tb.ok P) (hF : FtOk P ft) (hX : XtOk P xt) (hR : ∀ cl, CallsOk P σ cl → RegOk P σ tb cl) : ∀ fu, BodyOk P σ (bodyK P tb ft xt fu)
  | 0 => fun f h c k hk => by simp [bodyK] at hk
  | fu + 1 => fun ⟨fn, n, rs, todo, df, dfd, rof⟩ h c k hk D C fr w hD ha => by
    have ih := bodyK_ok hT hF hX hR fu
    have hcl := callK_ok hT hF hX ih
    have q0 := ha.self.1
    have m0 := ha.self.2
    have hm : At D C fun ρ => Mem σ ρ h w := ha.imp fun _ q => q.2
    cases todo with
    | nil =>
      simp only [bodyK] at hk
      exact ⟨none, _, h, c, D, C, fr, w, fun cs _ => .refl _ _, Ext.refl hD, ha, .inl ⟨rfl, rfl⟩, rfl, rfl, rfl, hk⟩
    | cons x t =>
      have htail : At D C fun ρ => t.map (It.den ρ) = t.map (It.den C) := fun ρ hρ => by
        have h1 := (ha ρ hρ).1.todo
        rw [q0.todo] at h1
        simp only [List.map_cons, List.cons.injEq] at h1
        exact h1.2.symm
      have htok : ∀ y ∈ t, y.ok := fun y hy => q0.ok y (List.mem_cons_of_mem _ hy)
      have hto := q0.todo
      simp only [List.map_cons] at hto
      cases x with
      | blk id => simp only [bodyK] at hk; exact ctl ih hD ha (fun cs => s_inBlock q0.mode hto) htail htok hk
      | sc cd => simp only [bodyK] at hk; exact ctl ih hD ha (fun cs => s_inScope q0.mode hto) htail htok hk
      | lp b => simp only [bodyK] at hk; exact ctl ih hD ha (fun cs => s_inLoop q0.mode hto) (fun ρ hρ => by simp [It.den, htail ρ hρ]) (by simpa [It.ok] using htok) hk
      | inr l => simp [bodyK] at hk
      | endr l =>
        simp only [bodyK] at hk
        split at hk
        · rename_i st pd fn' rs' n' ps asg bd d hg
          split at hk
          · cases hk
          · rename_i hst
            obtain ⟨tmps, m1, m2⟩ := m0.ok _ _ hg
            have hlD : D l := dom hm hg
            obtain ⟨h', t1, t2⟩ := T.set_ok hk
            obtain ⟨e, m⟩ := turn_at (ob := .loop { state := .exhausted, pending := pd, fn := fn', tmps := tmps, params := ps.toArray, assign := asg, body := bd, defers := (C d).b }) hD hm hg t1 (fun ρ hρ => by
              obtain ⟨tm, z1, z2⟩ := (ha ρ hρ).2.ok _ _ hg
              rw [hρ l hlD, m1] at z1
              simp only [Option.some.injEq, Obj.loop.injEq, Loop.mk.injEq, true_and] at z1
              obtain ⟨rfl, zd⟩ := z1
              have := lt_of_some m1
              refine ⟨tmps, ?_, z2⟩
              rw [hρ l hlD, ← zd]
              simp [this])
            have hs : ∀ cs, step P (lone fr cs w) = _ := fun cs => s_endRange q0.mode hto m1 (fun q => hst q)
            cases hpd : pd with
            | none =>
              subst hpd
              refine .step (fun cs _ => .one (hs cs)) e rfl rfl rfl (ih _ _ _ _ t2 D C _ _ hD fun ρ hρ => ?_)
              have q := (ha ρ hρ).1
              exact ⟨⟨q.fn, q.mode, q.regs, by simp [htail ρ hρ], htok, q.df, q.kind, q.rof⟩, m ρ hρ⟩
            | some j =>
              subst hpd
              refine .step (fun cs _ => .one (hs cs)) e rfl rfl rfl (ih _ _ _ _ t2 D C _ _ hD fun ρ hρ => ?_)
              have q := (ha ρ hρ).1
              exact ⟨⟨q.fn, q.mode, q.regs, by simp [htail ρ hρ, It.den], by simpa [It.ok] using htok, q.df, q.kind, q.rof⟩, m ρ hρ⟩
        · cases hk
      | beg =>
        simp only [bodyK] at hk
        cases rof with
        | none => cases hk
        | some l =>
          dsimp only at hk
          split at hk
          · rename_i pd fn' rs' n' ps asg bd d hg
            obtain ⟨tmps, m1, m2⟩ := m0.ok _ _ hg
            have hlD : D l := dom hm hg
            obtain ⟨h', t1, t2⟩ := T.set_ok hk
            obtain ⟨e, m⟩ := turn_at (ob := .loop { state := .busy, pending := pd, fn := fn', tmps := tmps, params := ps.toArray, assign := asg, body := bd, defers := (C d).b }) hD hm hg t1 (fun ρ hρ => by
              obtain ⟨tm, z1, z2⟩ := (ha ρ hρ).2.ok _ _ hg
              rw [hρ l hlD, m1] at z1
              simp only [Option.some.injEq, Obj.loop.injEq, Loop.mk.injEq, true_and] at z1
              obtain ⟨rfl, zd⟩ := z1
              have := lt_of_some m1
              refine ⟨tmps, ?_, z2⟩
              rw [hρ l hlD, ← zd]
              simp [this])
            have hs : ∀ cs, step P (lone fr cs w) = _ := fun cs => s_begin q0.mode hto q0.rof m1 rfl
            refine .step (fun cs _ => .one (hs cs)) e rfl rfl rfl (ih _ _ _ _ t2 D C _ _ hD fun ρ hρ => ?_)
            have q := (ha ρ hρ).1
            exact ⟨⟨q.fn, q.mode, q.regs, by simp [htail ρ hρ], htok, q.df, q.kind, q.rof⟩, m ρ hρ⟩
          · cases hk
      | reg ops i rest =>
        cases rest with
        | nil => simp only [bodyK] at hk; exact ctl ih hD ha (fun cs => s_done (ops := ops) q0.mode (by rw [hto]; rfl)) htail htok hk
        | cons o r =>
          have hok := q0.ok _ (List.mem_cons_self ..)
          simp only [It.ok] at hok
          have hlen : i < ops.toList.length := by
            have := congrArg List.length hok
            simp only [List.length_cons, List.length_drop] at this
            omega
          have hdr := List.drop_eq_getElem_cons hlen
          rw [← hok] at hdr
          simp only [List.cons.injEq] at hdr
          have ho : ops[i]? = some o := by rw [hdr.1]; simp at hlen; simp [hlen]
          have hto : fr.todo = .inRegion ops (i :: List.range' (i + 1) r.length) :: t.map (It.den C) := by rw [hto]; simp [It.den, List.range'_succ]
          have hfe : ({ fr with defers := fr.defers } : Frame) = fr := rfl
          simp only [bodyK] at hk
          split at hk
          · cases hk
          · rename_i hw
            have hw' := wantV_ok q0.regs hw
            exact done ih ha (Ext.refl hD) (u := undef) (v := .tuple []) (fun ρ hρ => ⟨by simp [V.den, denL, undef], (ha ρ hρ).2⟩) (fun cs _ => .one (s_not q0.mode hto (by rw [ho]; simpa using hw'))) (fun ρ hρ => (ha ρ hρ).1.df) hk
          · rename_i hw
            have hw' := wantV_ok q0.regs hw
            split at hk
            · rename_i d hdo
              split at hk
              · have hr : fr.roundOf = none := q0.rof
                have hd' : ∀ ρ, RegsOk σ ρ n rs fr.tmps → (execOp fr.eval o).run P w = .ok (.defer (d.den σ ρ)) w := by
                  intro ρ hreg
                  have ev : fr.eval = (⟨fr.tmps, []⟩ : Act).eval := q0.ev
                  unfold deferOf at hdo
                  split at hdo
                  · rename_i x xs ts hop
                    split at hdo
                    · rename_i f caps vs hx hv
                      cases hdo
                      have hx0 := ov_ev (a := ⟨fr.tmps, []⟩) hreg hx
                      have hv0 := ovL_ok (a := ⟨fr.tmps, []⟩) hreg hv
                      simp only [V.den] at hx0
                      have e : xs.map (Act.eval ⟨fr.tmps, []⟩) = (denL σ ρ vs).toArray := Array.toList_inj.1 (by simpa using hv0)
                      simp [execOp, hop, ev, resolve, hx0, e, Deferred.ofValue, Df.den]
                    · cases hdo
                  · cases hdo
                refine done (ds := d.den σ C :: fr.defers) ih ha (Ext.refl hD) (u := undef) (v := .tuple []) (fun ρ hρ => ⟨by simp [V.den, denL, undef], (ha ρ hρ).2⟩) (fun cs _ => .one (s_defer q0.mode hto ho hw' hr (hd' C q0.regs))) (fun ρ hρ => ?_) hk
                have e1 := hd' C q0.regs
                rw [hd' ρ (ha ρ hρ).1.regs] at e1
                simp only [Result.ok.injEq, Next.defer.injEq, and_true] at e1
                show d.den σ C :: fr.defers = (d :: df).map (Df.den σ ρ)
                rw [List.map_cons, ← e1, (ha ρ hρ).1.df]
              · cases hk
            · cases hrc : isRecover o.op with
              | true =>
                rw [hrc] at hk
                simp only [cond_true] at hk
                split at hk
                · have hr : fr.roundOf = none := q0.rof
                  have hrun : (execOp fr.eval o).run P w = .ok .recover w := by
                    unfold isRecover at hrc
                    split at hrc
                    · rename_i xs ts hop
                      simp [execOp, hop, resolve, invoke, builtin]
                    · cases hrc
                  refine done ih ha (Ext.refl hD) (u := .nilIface) (v := .c .nilIface) (fun ρ hρ => ⟨by simp [V.den], (ha ρ hρ).2⟩) (fun cs hcs => .one (s_recover q0.mode hto ho hw' hr hrun ?_)) (fun ρ hρ => (ha ρ hρ).1.df) hk
                  cases dfd with
                  | false => exact .inl q0.kind
                  | true => obtain ⟨c0, cs0, e1, e2⟩ := hcs rfl; exact .inr ⟨q0.kind, c0, cs0, e1, e2⟩
                · cases hk
              | false =>
                rw [hrc] at hk
                simp only [cond_false] at hk
                obtain ⟨nxt, w1, u, w', D', C', c', h', v, g1, g2, g3, g4, g5⟩ := (opK_ok (a := ⟨fr.tmps, []⟩) hT hcl hD (fun ρ hρ => (ha ρ hρ).1.regs) hm hk).ex
                have g1' : (execOp fr.eval o).run P w = .ok nxt w1 := by rw [q0.ev]; exact g1
                exact done ih ha g3 g4 (fun cs _ => steps_op q0.mode hto ho hw' (.inr (notDefer_of g1' g2)) g1' g2) (fun ρ hρ => (ha ρ fun i hi => (hρ i (g3.sub i hi)).trans (g3.agree i hi)).1.df) g5
      | code x =>
        cases x with
        | skip => simp only [bodyK] at hk; exact ctl ih hD ha (fun cs => s_skip q0.mode hto) htail htok hk
        | label l => simp only [bodyK] at hk; exact ctl ih hD ha (fun cs => s_label q0.mode hto) htail htok hk
        | seq x y => simp only [bodyK] at hk; exact ctl (t1 := .code x :: .code y :: t) ih hD ha (fun cs => s_seq q0.mode hto) (fun ρ hρ => by simp [It.den, htail ρ hρ]) (by simpa [It.ok] using htok) hk
        | cond x y z =>
          simp only [bodyK] at hk
          split at hk
          · rename_i hx
            have hx0 := ov_ev (a := ⟨fr.tmps, []⟩) q0.regs hx
            rw [← q0.ev] at hx0
            exact ctl (t1 := .code y :: t) ih hD ha (fun cs => s_cond q0.mode hto hx0) (fun ρ hρ => by simp [It.den, htail ρ hρ]) (by simpa [It.ok] using htok) hk
          · rename_i hx
            have hx0 := ov_ev (a := ⟨fr.tmps, []⟩) q0.regs hx
            rw [← q0.ev] at hx0
            exact ctl (t1 := .code z :: t) ih hD ha (fun cs => s_cond q0.mode hto hx0) (fun ρ hρ => by simp [It.den, htail ρ hρ]) (by simpa [It.ok] using htok) hk
          · cases hk
        | block id b => simp only [bodyK] at hk; exact ctl (t1 := .code b :: .blk id :: t) ih hD ha (fun cs => s_block q0.mode hto) (fun ρ hρ => by simp [It.den, htail ρ hρ]) (by simpa [It.ok] using htok) hk
        | loop b => simp only [bodyK] at hk; exact ctl (t1 := .code b :: .lp b :: t) ih hD ha (fun cs => s_loop q0.mode hto) (fun ρ hρ => by simp [It.den, htail ρ hρ]) (by simpa [It.ok] using htok) hk
        | scope b => simp only [bodyK] at hk; exact ctl (t1 := .code b :: .sc b :: t) ih hD ha (fun cs => s_scope q0.mode hto) (fun ρ hρ => by simp [It.den, htail ρ hρ]) (by simpa [It.ok] using htok) hk
        | exit id =>
          simp only [bodyK] at hk
          split at hk
          · rename_i t' he
            have e1 : ∀ ρ, exitTo id (t.map (It.den ρ)) = some (t'.map (It.den ρ)) := fun ρ => by rw [exitV_den, he]; rfl
            exact ctl ih hD ha (fun cs => s_exit q0.mode hto (e1 C)) (fun ρ hρ => by
              have := e1 ρ
              rw [htail ρ hρ, e1 C] at this
              simpa using this.symm) (exitV_ok id he htok) hk
          · rename_i he
            exact ⟨_, _, h, c, D, C, fr, w, fun cs _ => .refl _ _, Ext.refl hD, ha, .inr (.inr (.inl ⟨id, t, rfl, rfl, he⟩)), rfl, rfl, rfl, hk⟩
        | goto l =>
          simp only [bodyK] at hk
          split at hk
          · rename_i t' he
            have e1 : ∀ ρ, gotoIn l (t.map (It.den ρ)) = some (t'.map (It.den ρ)) := fun ρ => by rw [gotoV_den, he]; rfl
            exact ctl ih hD ha (fun cs => s_goto q0.mode hto (e1 C)) (fun ρ hρ => by
              have := e1 ρ
              rw [htail ρ hρ, e1 C] at this
              simpa using this.symm) (gotoV_ok l he htok) hk
          · rename_i he
            exact ⟨_, _, h, c, D, C, fr, w, fun cs _ => .refl _ _, Ext.refl hD, ha, .inr (.inr (.inr ⟨l, t, rfl, rfl, he⟩)), rfl, rfl, rfl, hk⟩
        | ret =>
          simp only [bodyK] at hk
          exact ⟨_, _, h, c, D, C, fr, w, fun cs _ => .refl _ _, Ext.refl hD, ha, .inr (.inl ⟨rfl, t, rfl⟩), rfl, rfl, rfl, hk⟩
        | region id ops draw =>
          simp only [bodyK] at hk
          cases draw with
          | false =>
            simp only [cond_false] at hk
            exact ctl (t1 := .reg ops 0 ops.toList :: t) ih hD ha (fun cs => by
              have := s_region (P := P) (cs := cs) (w := w) q0.mode hto
              rw [this]
              simp [It.den, List.range_eq_range']) (fun ρ hρ => by simp [It.den, htail ρ hρ]) (by simpa [It.ok] using htok) hk
          | true =>
            simp only [cond_true] at hk
            cases hc : chkR ops (zip3 ops ops.toList (masks ops.toList []) 0 ops.toList (masks ops.toList [])) (zip3 ops ops.toList (masks ops.toList []) 0 ops.toList (masks ops.toList [])) with
            | false => rw [hc] at hk; cases hk
            | true =>
              rw [hc] at hk
              simp only [cond_true] at hk
              obtain ⟨rs', h', c', D', C', tmps', w', g1, g2, g3, g4⟩ := hR _ hcl id ops n rs h c _ _ _ rfl rfl hc hk D C fr w (t.map (It.den C)) hD q0.mode hto (ha.imp fun _ q => ⟨q.1.regs, q.2⟩)
              refine .step (fun cs _ => g1 cs) g2 rfl rfl rfl (ih _ _ _ _ g4 D' C' _ w' g2.lt fun ρ hρ => ?_)
              have hρ' : ∀ i, D i → ρ i = C i := fun i hi => (hρ i (g2.sub i hi)).trans (g2.agree i hi)
              have q := (ha ρ hρ').1
              exact ⟨⟨q.fn, q.mode, (g3 ρ hρ).1, (htail ρ hρ').symm, htok, q.df, q.kind, q.rof⟩, (g3 ρ hρ).2⟩
        | rangeFunc f ps asg bd =>
          simp only [bodyK] at hk
          split at hk
          · rename_i g caps hx
            have hx0 : fr.eval f = .func (.func g) #[] (denL σ C caps).toArray := by
              have := ov_ev (a := ⟨fr.tmps, []⟩) q0.regs hx
              rw [← q0.ev] at this
              simpa [V.den] using this
            have hcaps : At D C fun ρ => denL σ ρ caps = denL σ C caps := fun ρ hρ => by
              have := ov_ev (a := ⟨fr.tmps, []⟩) (ha ρ hρ).1.regs hx
              rw [← q0.ev, hx0] at this
              simp only [V.den, Value.func.injEq, true_and] at this
              exact (by simpa using congrArg Array.toList this : denL σ C caps = denL σ ρ caps).symm
            cases rof with
            | none =>
              simp only at hk
              obtain ⟨h1, t1, t2⟩ := T.set_ok hk
              obtain ⟨e1, m1⟩ := alloc_at (o := .defd (some ())) (ob := .deferred (some [])) hD hm t1 (fun ρ hρ => by
                show O.holds σ ρ (ρ c) _ _
                rw [hρ c (.inr rfl)]; simp only [O.holds, giveN, if_true]; exact heap_alloc_new _ _)
              obtain ⟨h2, t3, t4⟩ := T.set_ok t2
              have hl : (fun ρ : Nm => (ρ c).b = w.heap.size) (giveN C c ⟨w.heap.size, 0, 0⟩) := by simp [giveN]
              obtain ⟨e2, m2⟩ := alloc_at (o := .loop .ready none fn rs n ps.toList asg bd c) (ob := .loop { state := .ready, pending := none, fn := fr.fn, tmps := fr.tmps, params := ps, assign := asg, body := bd, defers := w.heap.size }) e1.lt m1 t3 (fun ρ hρ => by
                have hρ1 : ∀ i, (D i ∨ i = c) → ρ i = giveN C c ⟨w.heap.size, 0, 0⟩ i := fun i hi => (hρ i (.inl hi)).trans (by unfold giveN; rw [if_neg (by rcases hi with q | q; have := hD i q; omega; omega)])
                have hρ0 : ∀ i, D i → ρ i = C i := fun i hi => (hρ1 i (.inl hi)).trans (e1.agree i hi)
                have hcb : (ρ c).b = w.heap.size := by rw [hρ1 c (.inr rfl)]; exact hl
                show O.holds σ ρ (ρ (c + 1)) _ _
                rw [hρ (c + 1) (.inr rfl)]
                refine ⟨fr.tmps, ?_, (ha ρ hρ0).1.regs⟩
                simp only [giveN, if_true]
                rw [heap_alloc_new]
                simp [hcb, q0.fn])
              have e12 := e1.trans e2
              have hval : (giveN (giveN C c ⟨w.heap.size, 0, 0⟩) (c + 1) ⟨(w.alloc (.deferred (some []))).heap.size, 0, 0⟩ (c + 1)).b = w.heap.size + 1 := by simp [giveN]
              have hargs : At (fun i => (D i ∨ i = c) ∨ i = c + 1) (giveN (giveN C c ⟨w.heap.size, 0, 0⟩) (c + 1) ⟨(w.alloc (.deferred (some []))).heap.size, 0, 0⟩) fun ρ => denL σ ρ (.yield (c + 1) :: caps) = Value.func (.yield (w.heap.size + 1)) #[] #[] :: denL σ C caps := fun ρ hρ => by
                have hρ0 : ∀ i, D i → ρ i = C i := fun i hi => (hρ i (e12.sub i hi)).trans (e12.agree i hi)
                simp only [denL, V.den, hcaps ρ hρ0, hρ (c + 1) (.inr rfl), hval]
              obtain ⟨nxt, w1, u, w', D', C', c', h', v, g1, g2, g3, g4, g5⟩ := (hcl _ _ _ _ t4 _ _ _ e12.lt m2 (fun ρ hρ => (hargs ρ hρ).trans hargs.self.symm)).ex
              have hen : (Instr.enterLoop fr.fn fr.tmps ps asg bd fr.roundOf).run P w = .ok (w.heap.size + 1, [⟨.collected w.heap.size, #[]⟩]) ((w.alloc (.deferred (some []))).alloc (.loop { state := .ready, pending := none, fn := fr.fn, tmps := fr.tmps, params := ps, assign := asg, body := bd, defers := w.heap.size })) := by
                rw [q0.rof]
                simp [Instr.enterLoop, newObj, Sem.run_bind, Sem.run]
              have g1' : (callFunc g (#[.func (.yield (w.heap.size + 1)) #[] #[]] ++ (denL σ C caps).toArray)).run P ((w.alloc (.deferred (some []))).alloc (.loop { state := .ready, pending := none, fn := fr.fn, tmps := fr.tmps, params := ps, assign := asg, body := bd, defers := w.heap.size })) = .ok nxt w1 := by
                have := hargs.self
                simp only [Tg.sem] at g1
                rw [this] at g1
                simpa using g1
              have hs := fun cs => steps_range (cs := cs) q0.mode hto hen hx0 g1' g2
              have eA := e12.trans g3
              refine .step (fun cs _ => hs cs) eA rfl rfl rfl (ih _ _ _ _ g5 D' C' _ w' eA.lt fun ρ hρ => ?_)
              have hρ' : ∀ i, D i → ρ i = C i := fun i hi => (hρ i (eA.sub i hi)).trans (eA.agree i hi)
              have hρ2 : ∀ i, ((D i ∨ i = c) ∨ i = c + 1) → ρ i = giveN (giveN C c ⟨w.heap.size, 0, 0⟩) (c + 1) ⟨(w.alloc (.deferred (some []))).heap.size, 0, 0⟩ i := fun i hi => (hρ i (g3.sub i hi)).trans (g3.agree i hi)
              have q := (ha ρ hρ').1
              refine ⟨⟨q.fn, q.mode, q.regs, ?_, by simpa [It.ok] using htok, ?_, q.kind, q.rof⟩, (g4 ρ hρ).2⟩
              · simp only [List.map_cons, It.den, htail ρ hρ', hρ2 (c + 1) (.inr rfl), hval]
              · simp only [List.map_cons, Df.den, hρ2 c (.inl (.inr rfl)), q.df]
                simp [giveN]
            | some l0 =>
              simp only at hk
              split at hk
              · rename_i st0 pd0 fn0 rs0 n0 ps0 asg0 bd0 d0 hg
                obtain ⟨tm0, z1, z2⟩ := m0.ok _ _ hg
                have hlD : D l0 := dom hm hg
                have hd0 : At D C fun ρ => (ρ d0).b = (C d0).b := fun ρ hρ => by
                  obtain ⟨tm, y1, _⟩ := (hm ρ hρ).ok _ _ hg
                  rw [hρ l0 hlD, z1] at y1
                  simp only [Option.some.injEq, Obj.loop.injEq, Loop.mk.injEq, true_and] at y1
                  exact y1.2.symm
                obtain ⟨h2, t3, t4⟩ := T.set_ok hk
                obtain ⟨e2, m2⟩ := alloc_at (o := .loop .ready none fn rs n ps.toList asg bd d0) (ob := .loop { state := .ready, pending := none, fn := fr.fn, tmps := fr.tmps, params := ps, assign := asg, body := bd, defers := (C d0).b }) hD hm t3 (fun ρ hρ => by
                  have hρ0 : ∀ i, D i → ρ i = C i := fun i hi => (hρ i (.inl hi)).trans (by unfold giveN; rw [if_neg (by have := hD i hi; omega)])
                  show O.holds σ ρ (ρ c) _ _
                  rw [hρ c (.inr rfl)]
                  refine ⟨fr.tmps, ?_, (ha ρ hρ0).1.regs⟩
                  simp only [giveN, if_true]
                  rw [heap_alloc_new]
                  simp [q0.fn, hd0 ρ hρ0])
                have hval : (giveN C c ⟨w.heap.size, 0, 0⟩ c).b = w.heap.size := by simp [giveN]
                have hargs : At (fun i => D i ∨ i = c) (giveN C c ⟨w.heap.size, 0, 0⟩) fun ρ => denL σ ρ (.yield c :: caps) = Value.func (.yield w.heap.size) #[] #[] :: denL σ C caps := fun ρ hρ => by
                  have hρ0 : ∀ i, D i → ρ i = C i := fun i hi => (hρ i (e2.sub i hi)).trans (e2.agree i hi)
                  simp only [denL, V.den, hcaps ρ hρ0, hρ c (.inr rfl), hval]
                obtain ⟨nxt, w1, u, w', D', C', c', h', v, g1, g2, g3, g4, g5⟩ := (hcl _ _ _ _ t4 _ _ _ e2.lt m2 (fun ρ hρ => (hargs ρ hρ).trans hargs.self.symm)).ex
                have hen : (Instr.enterLoop fr.fn fr.tmps ps asg bd fr.roundOf).run P w = .ok (w.heap.size, []) (w.alloc (.loop { state := .ready, pending := none, fn := fr.fn, tmps := fr.tmps, params := ps, assign := asg, body := bd, defers := (C d0).b })) := by
                  rw [q0.rof]
                  simp [Instr.enterLoop, Instr.getLoop, getObj, newObj, Sem.run_bind, Sem.run, z1]
                have g1' : (callFunc g (#[.func (.yield w.heap.size) #[] #[]] ++ (denL σ C caps).toArray)).run P (w.alloc (.loop { state := .ready, pending := none, fn := fr.fn, tmps := fr.tmps, params := ps, assign := asg, body := bd, defers := (C d0).b })) = .ok nxt w1 := by
                  have := hargs.self
                  simp only [Tg.sem] at g1
                  rw [this] at g1
                  simpa using g1
                have hs := fun cs => steps_range (cs := cs) q0.mode hto hen hx0 g1' g2
                have eA := e2.trans g3
                refine .step (fun cs _ => hs cs) eA rfl rfl rfl (ih _ _ _ _ g5 D' C' _ w' eA.lt fun ρ hρ => ?_)
                have hρ' : ∀ i, D i → ρ i = C i := fun i hi => (hρ i (eA.sub i hi)).trans (eA.agree i hi)
                have hρ2 : ∀ i, (D i ∨ i = c) → ρ i = giveN C c ⟨w.heap.size, 0, 0⟩ i := fun i hi => (hρ i (g3.sub i hi)).trans (g3.agree i hi)
                have q := (ha ρ hρ').1
                refine ⟨⟨q.fn, q.mode, q.regs, ?_, by simpa [It.ok] using htok, q.df, q.kind, q.rof⟩, (g4 ρ hρ).2⟩
                simp only [List.map_cons, It.den, htail ρ hρ', hρ2 c (.inr rfl), hval]
              · cases hk
          · cases hk
        | refuse s => simp [bodyK] at hk
end
end Go.Proofs.YtkjhjgokaeiopaaGreatDoor.E
