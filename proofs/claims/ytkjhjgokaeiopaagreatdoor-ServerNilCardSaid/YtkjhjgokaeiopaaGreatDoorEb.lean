/-
  The engine (27): regions that draw their order: all of it.
-/
import Derived.Test.YtkjhjgokaeiopaaGreatDoorEa
import Derived.Orders
namespace Go.Proofs.YtkjhjgokaeiopaaGreatDoor.E
open Go Go.RowKit
theorem s_drawT {P : Program} {fr : Frame} {cs : List Frame} {w : World} {k : List Item} {id : Nat} {ops : Array Oper} (hx : P.follows .mixedOrders = true) (hm : fr.mode = .run) (ht : fr.todo = .code (.region id ops true) :: k) :
    step P (lone fr cs w) = .next (lone { fr with todo := .inRegion ops (Region.linearise .any ops (w.tape w.drawn (.order fr.fn id))) :: k } cs w.drew) := by
  obtain ⟨fn, tmps, todo, defers, mode, kind, rof⟩ := fr; subst hm ht
  refine step_lone_go ?_
  simp [stepG, stepG.exec, choose, Sem.run, Question.forced, Question.cut, Region.schedule, hx]
section
variable {P : Program} {σ : Nat → Value} {tb : Tb} {ops : Array Oper} {n : Nat} {D0 D : Nat → Prop} {C0 C : Nm} {c0 c : Nat} {h0 h : T O} {w0 w : World} {S : Nat → Bool} {m : Nat} {rs : T V} {G : Gm} {tmps : Array Value} {L : List RO} {cl : CK} {kk : T V → T O → Nat → Bool}
theorem RI.memh {b : Nat → Bool} {h1 : T O} (I : RI P σ tb ops n D0 C0 c0 h0 w0 S m rs h c G D C tmps w) (hb : ∀ i, b i = true → S i = true) (hms : MSpec b G h h1) : At D C fun ρ => Mem σ ρ h1 w := by
  obtain ⟨hS, m1, m2, m3⟩ := I.mem
  refine fun ρ hρ => (m2 ρ hρ).congr fun j o ho => ?_
  rcases hms j with ⟨e', q1, q2, v', ob, q3, q4⟩ | ⟨q1, q2⟩
  · rw [q4] at ho; cases ho
    rcases m1 j with ⟨e2, p1, p2, v2, ob2, p3, p4⟩ | ⟨p1, _⟩
    · obtain rfl := I.uniq e' q1 e2 p1 _ _ _ _ _ q3 p3
      rw [q3] at p3; cases p3; exact p4
    · exact absurd q3 (p1 e' q1 (hb _ q2) _ _)
  · rw [q2] at ho
    rcases m1 j with ⟨e2, p1, p2, v2, ob2, p3, p4⟩ | ⟨p1, p2⟩
    · rw [(I.ids e2 p1 _ _ _ p3).2.2] at ho; cases ho
    · rw [p2]; exact ho
theorem fr_ev {fr : Frame} : fr.eval = (⟨fr.tmps, []⟩ : Act).eval := by funext x; cases x <;> rfl
/-- The machine takes i: so does what is told. -/
theorem catch_ok (hT : tb.ok P) (hcl : CallsOk P σ cl) (hL : L = zip3 ops ops.toList (masks ops.toList []) 0 ops.toList (masks ops.toList [])) (hck : chkR ops L L = true) :
    ∀ (fu m : Nat) (rs : T V) (h : T O) (c : Nat) (G : Gm), RI P σ tb ops n D0 C0 c0 h0 w0 S m rs h c G D C tmps w → regK P tb cl ops n L fu m rs h c G kk = true → ∀ i o, ops[i]? = some o → S i = false → Ahead (fun p => S p = true) o →
    ∃ fu' m' rs' h' c' G' D' C' tmps' w', (∀ cs (fr : Frame) r k0, fr.mode = .run → fr.tmps = tmps → fr.todo = .inRegion ops (i :: r) :: k0 → Steps P (lone fr cs w) (lone { fr with tmps := tmps', todo := .inRegion ops r :: k0 } cs w')) ∧
      RI P σ tb ops n D0 C0 c0 h0 w0 (fun j => S j || Nat.beq j i) m' rs' h' c' G' D' C' tmps' w' ∧ regK P tb cl ops n L fu' m' rs' h' c' G' kk = true := by
  intro fu
  induction fu with
  | zero => intro m rs h c G I hk; simp [regK] at hk
  | succ fu ih =>
    intro m rs h c G I hk i o ho hn ha
    cases hmi : Nat.testBit m i with
    | true =>
      rcases I.out i hmi with z | ⟨e, he, rfl⟩
      · rw [hn] at z; cases z
      · obtain rfl : e.2.1 = o := by have := (I.ent e he).1; rw [ho] at this; exact (Option.some.inj this).symm
        obtain ⟨u, w', D', C', q1, q2⟩ := I.real hL hck hT he hn ha
        refine ⟨fu + 1, m, rs, h, c, G, D', C', _, w', fun cs fr r k0 hm htm hto => ?_, q2, hk⟩
        have hfin := finish_reg (u := u) hto ho
        rw [htm] at hfin
        rcases q1 with ⟨p1, rfl, rfl⟩ | ⟨p1, p2⟩
        · have := s_not (P := P) (cs := cs) (w := w') hm hto (by rw [ho, htm]; simpa using p1)
          rw [hfin] at this
          exact .one this
        · rcases p2 with p2 | ⟨p2, rfl⟩
          · have := s_value (P := P) (cs := cs) (w := w) hm hto ho (by rw [htm]; exact p1) (.inr (notDefer_of p2 (.value (w1 := w')))) (by rw [fr_ev, htm]; exact p2)
            rw [hfin] at this
            exact .one this
          · have := s_none (P := P) (cs := cs) (w := w) hm hto ho (by rw [htm]; exact p1) (.inr (notDefer_of p2 (.skip (w1 := w')))) (by rw [fr_ev, htm]; exact p2)
            rw [hfin] at this
            exact .one this
    | false =>
      obtain ⟨ri, r1, rfl, rfl⟩ := ro_of hL ho
      have hrdy : ri ∈ rdy m L := rdy_ok.2 ⟨r1, hmi, preds_ok.2 fun e he hb => I.sub _ (ha e he hb)⟩
      unfold regK at hk
      split at hk
      · rename_i hx; rw [hx] at hrdy; cases hrdy
      · split at hk
        · rename_i i' o' hp
          obtain ⟨r, p1, rfl, rfl, p4, p5⟩ := pick_ok hp
          rcases p5 with ⟨_, p6⟩ | ⟨v, p6, _⟩ | ⟨v, ob, p6, _⟩
          · obtain ⟨rs', k1, I'⟩ := I.quiet hL hck (x := .un) (c' := c) p1 p4 (Nat.le_refl _) (by simp) p6 hk
            exact ih _ _ _ _ _ I' k1 _ _ ho hn ha
          · cases p6
          · cases p6
        · rename_i i' o' v hp
          rw [V.frc_eq] at hk
          obtain ⟨r, p1, rfl, rfl, p4, p5⟩ := pick_ok hp
          rcases p5 with ⟨p6, _⟩ | ⟨v', p6, p7, p8⟩ | ⟨v', ob, p6, _⟩
          · cases p6
          · cases p6
            obtain ⟨rs', k1, I'⟩ := I.quiet hL hck (x := .q v) (c' := c) p1 p4 (Nat.le_refl _) (by simp) ⟨p7, p8⟩ hk
            exact ih _ _ _ _ _ I' k1 _ _ ho hn ha
          · cases p6
        · rename_i i' o' v id ob hp
          rw [V.frc_eq, O.frc_eq] at hk
          obtain ⟨r, p1, rfl, rfl, p4, p5⟩ := pick_ok hp
          rcases p5 with ⟨p6, _⟩ | ⟨v', p6, _⟩ | ⟨v', ob', p6, p7, p8⟩
          · cases p6
          · cases p6
          · cases p6
            obtain ⟨hS, m1, m2, m3⟩ := I.mem
            obtain ⟨rs', k1, I'⟩ := I.quiet hL hck (x := .a v c ob) (c' := c + 1) p1 p4 (Nat.le_succ _) (fun _ _ _ z => by cases z; exact ⟨rfl, rfl⟩) ⟨p7, p8, fun z => absurd (m3.lt c z) (Nat.lt_irrefl _)⟩ hk
            exact ih _ _ _ _ _ I' k1 _ _ ho hn ha
        · split at hk
          · rename_i q hx
            obtain rfl : ri = q := by rw [hx] at hrdy; simpa using hrdy
            have hseen := I.seen hL hck ho hn ha (rsi := rs) fun _ _ => rfl
            have hsel := (chkR_ok hck ri r1).1
            have hwant : ∀ b, wantV ops rs ri.o = some b → Region.wanted ri.o (yielded ops tmps) = b := fun b hw => by
              obtain ⟨a1, _, a3⟩ := run_plus (ops := ops) (o := ri.o) hsel I.size I.ltn (hseen C fun _ _ => rfl)
              rw [← a3]; exact wantV_ok a1 hw
            split at hk
            · rename_i hw
              obtain ⟨h1, G1, k1, k2, k3⟩ := mergeK_ok hk
              obtain ⟨re, k4, k5⟩ := looksK_ok (rs := rs) k1 (fun t v z => by rw [T.get_leaf] at z; cases z)
              have hbits : ∀ i, Nat.testBit ri.b i = true → S i = true := mask_in (S := fun p => S p = true) (ops := ops) I.dnS ho ha ri.b (ro_ok hL r1).2.1
              have hregs : At D C fun ρ => RegsOk σ ρ n re tmps := fun ρ hρ => ⟨I.size, fun t v z => by
                obtain ⟨y1, y2⟩ := k5 t v z
                rcases y2 with y2 | y2
                · exact hseen ρ hρ t y2 v y1
                · rw [T.get_leaf] at y2; cases y2⟩
              obtain ⟨hS, m1, m2, m3⟩ := I.mem
              obtain ⟨nxt, w1, u, w', D', C', c', h', v, g1, g2, g3, g4, g5⟩ := (opK_ok (a := ⟨tmps, []⟩) hT hcl m3.lt hregs (I.memh hbits k3) k4).ex
              cases hag : again P tb rs h' G1 with
              | false => rw [hag] at g5; cases g5
              | true =>
                rw [hag] at g5
                simp only [cond_true] at g5
                obtain ⟨rs', k6, I'⟩ := I.own hL hck r1 hmi ha (b := Nat.testBit ri.b) hbits k3 g3 g4 (.inl fun e he hb v hv => again_ok hag e (by rw [k2]; exact List.mem_filter.2 ⟨he, by simp [hb]⟩) v hv) g5
                rw [← k2] at I'
                refine ⟨fu, _, rs', h', c', G1, D', C', _, w', fun cs fr r k0 hm htm hto => ?_, I', k6⟩
                have hfin := finish_reg (u := u) hto ho
                rw [htm] at hfin
                have g1' : (execOp fr.eval ri.o).run P w = .ok nxt w1 := by rw [fr_ev, htm]; exact g1
                have := steps_op (cs := cs) hm hto ho (by rw [htm]; exact hwant _ hw) (.inr (notDefer_of g1' g2)) g1' g2
                rw [hfin] at this
                exact this
            · rename_i hw
              have hms : MSpec (fun _ => false) G h h := fun j => .inr ⟨(fun _ _ z => by cases z), rfl⟩
              obtain ⟨hS, m1, m2, m3⟩ := I.mem
              obtain ⟨rs', k6, I'⟩ := I.own hL hck r1 hmi ha (b := fun _ => false) (fun _ z => by cases z) hms (Ext.refl m3.lt) (u := undef) (v := .tuple []) (fun ρ hρ => ⟨by simp [V.den, denL, undef], (I.memh (b := fun _ => false) (fun _ z => by cases z) hms) ρ hρ⟩) (.inr rfl) hk
              have hG : (G.filter fun e => !false) = G := by simp
              rw [hG] at I'
              refine ⟨fu, _, rs', h, c, G, D, C, _, w, fun cs fr r k0 hm htm hto => ?_, I', k6⟩
              have hfin := finish_reg (u := undef) hto ho
              rw [htm] at hfin
              have := s_not (P := P) (cs := cs) (w := w) hm hto (by rw [ho, htm]; simpa using hwant _ hw)
              rw [hfin] at this
              exact .one this
            · cases hk
          · cases hk
/-- All is done. -/
theorem reg_end (hL : L = zip3 ops ops.toList (masks ops.toList []) 0 ops.toList (masks ops.toList [])) (I : RI P σ tb ops n D0 C0 c0 h0 w0 S m rs h c G D C tmps w) (hno : ∀ i o, ops[i]? = some o → S i = false → ¬ Ahead (fun p => S p = true) o) {fu : Nat} (hk : regK P tb cl ops n L fu m rs h c G kk = true) :
    ∃ h', kk rs h' c = true ∧ At D C (fun ρ => RegsOk σ ρ n rs tmps ∧ Mem σ ρ h' w) ∧ Ext D0 D C0 C c0 c h0 h' w0 w := by
  have hall : ∀ e ∈ G, S e.1 = true := fun e he => by
    cases hs : S e.1 with
    | true => rfl
    | false =>
      obtain ⟨e', q1, q2, q3⟩ := I.ord.next ⟨e, he, hs⟩
      exact absurd q3 (hno _ _ (I.ent e' q1).1 q2)
  have hmS : ∀ i, Nat.testBit m i = true → S i = true := fun i hi => (I.out i hi).elim id fun ⟨e, q1, q2⟩ => by rw [← q2]; exact hall e q1
  have hr : rdy m L = [] := by
    refine List.eq_nil_iff_forall_not_mem.2 fun r hr => ?_
    obtain ⟨r1, r2, r3⟩ := rdy_ok.1 hr
    have hs : S r.i = false := by
      cases hs : S r.i with
      | false => rfl
      | true => rw [I.sub _ hs] at r2; cases r2
    exact hno _ _ (ro_ok hL r1).1 hs fun e he hb => hmS _ (preds_ok.1 r3 e he hb)
  cases fu with
  | zero => simp [regK] at hk
  | succ fu =>
    unfold regK at hk
    rw [hr] at hk
    dsimp only at hk
    obtain ⟨h', k1, k2⟩ := allK_ok hk
    obtain ⟨hS, m1, m2, m3⟩ := I.mem
    have hget : ∀ j, h'.get j = hS.get j := by
      intro j
      rcases k2 j with ⟨e, q1, _, v, ob, q3, q4⟩ | ⟨q1, q2⟩ <;> rcases m1 j with ⟨e2, p1, p2, v2, ob2, p3, p4⟩ | ⟨p1, p2⟩
      · obtain rfl := I.uniq e q1 e2 p1 _ _ _ _ _ q3 p3
        rw [q3] at p3; cases p3; rw [q4, p4]
      · exact absurd q3 (p1 e q1 (hall e q1) _ _)
      · exact absurd p3 (q1 e2 p1 rfl _ _)
      · rw [q2, p2]
    refine ⟨h', k1, fun ρ hρ => ⟨⟨I.size, fun t v ht => I.regs ρ hρ t v ht fun e he hs => by rw [hall e he] at hs; cases hs⟩, (m2 ρ hρ).congr fun j o ho => by rw [← hget]; exact ho⟩, m3.le, m3.sub, m3.lt, m3.new, m3.agree, m3.keeps, fun k hk => m3.ours k ?_⟩
    obtain ⟨j, o, x1, x2⟩ := hk
    exact ⟨j, o, by rw [← hget]; exact x1, x2⟩
theorem reg_go (hT : tb.ok P) (hcl : CallsOk P σ cl) (hL : L = zip3 ops ops.toList (masks ops.toList []) 0 ops.toList (masks ops.toList [])) (hck : chkR ops L L = true) :
    ∀ (fuel t : Nat) (listed : Array Bool) (fu m : Nat) (rs : T V) (h : T O) (c : Nat) (G : Gm) (D : Nat → Prop) (C : Nm) (tmps : Array Value) (w : World), listed.size = ops.size → ((List.range ops.size).filter fun i => !listed.getD i false).length ≤ fuel →
    RI P σ tb ops n D0 C0 c0 h0 w0 (fun i => listed.getD i false) m rs h c G D C tmps w → regK P tb cl ops n L fu m rs h c G kk = true →
    ∃ rs' h' c' D' C' tmps' w', (∀ cs (fr : Frame) k0, fr.mode = .run → fr.tmps = tmps → fr.todo = .inRegion ops (Region.linearise.go .any ops fuel t listed []) :: k0 → Steps P (lone fr cs w) (lone { fr with tmps := tmps', todo := k0 } cs w')) ∧
      At D' C' (fun ρ => RegsOk σ ρ n rs' tmps' ∧ Mem σ ρ h' w') ∧ Ext D0 D' C0 C' c0 c' h0 h' w0 w' ∧ kk rs' h' c' = true := by
  intro fuel
  induction fuel with
  | zero =>
    intro t listed fu m rs h c G D C tmps w hsz hlen I hk
    have hall : ∀ i, i < ops.size → listed.getD i false = true := fun i hi => by
      cases hs : listed.getD i false with
      | true => rfl
      | false =>
        have : i ∈ (List.range ops.size).filter fun i => !listed.getD i false := List.mem_filter.2 ⟨List.mem_range.2 hi, by simp [hs]⟩
        rw [List.eq_nil_of_length_eq_zero (Nat.le_zero.1 hlen)] at this
        cases this
    obtain ⟨h', k1, k2, k3⟩ := reg_end hL I (fun i o ho hs => by rw [hall i (Array.getElem?_eq_some_iff.1 ho).1] at hs; cases hs) hk
    refine ⟨rs, h', c, D, C, tmps, w, fun cs fr k0 hm htm hto => ?_, k2, k3, k1⟩
    have := s_done (P := P) (cs := cs) (w := w) hm (by rw [hto]; rfl)
    subst htm
    exact .one this
  | succ fuel ih =>
    intro t listed fu m rs h c G D C tmps w hsz hlen I hk
    have hgd : ∀ i, i < ops.size → listed.getD i true = listed.getD i false := fun i hi => by simp [Array.getD, hsz, hi]
    cases hx : ((List.range ops.size).filter fun i => !listed.getD i true && ((ops[i]?).map (·.after.all fun e => !Region.binds .any e || listed.getD e.on false)).getD false)[t % ((List.range ops.size).filter fun i => !listed.getD i true && ((ops[i]?).map (·.after.all fun e => !Region.binds .any e || listed.getD e.on false)).getD false).length]? with
    | none =>
      have hnil : ((List.range ops.size).filter fun i => !listed.getD i true && ((ops[i]?).map (·.after.all fun e => !Region.binds .any e || listed.getD e.on false)).getD false) = [] := by
        rw [List.getElem?_eq_none_iff] at hx
        refine List.eq_nil_of_length_eq_zero (Nat.eq_zero_of_not_pos fun hp => ?_)
        exact absurd hx (Nat.not_le.2 (Nat.mod_lt _ hp))
      obtain ⟨h', k1, k2, k3⟩ := reg_end hL I (fun i o ho hs ha => by
        have hi := (Array.getElem?_eq_some_iff.1 ho).1
        have : i ∈ ((List.range ops.size).filter fun i => !listed.getD i true && ((ops[i]?).map (·.after.all fun e => !Region.binds .any e || listed.getD e.on false)).getD false) := by
          refine List.mem_filter.2 ⟨List.mem_range.2 hi, ?_⟩
          rw [hgd i hi, hs, ho]
          simp only [Bool.not_false, Option.map_some, Option.getD_some, Bool.true_and, Array.all_eq_true']
          intro e he
          cases hb : Region.binds .any e with
          | false => rfl
          | true => simpa using ha e (Array.mem_toList_iff.2 he) hb
        rw [hnil] at this; cases this) hk
      refine ⟨rs, h', c, D, C, tmps, w, fun cs fr k0 hm htm hto => ?_, k2, k3, k1⟩
      have hgo : Region.linearise.go .any ops (fuel + 1) t listed [] = [] := by
        simp only [Region.linearise.go]
        rw [hx]; rfl
      rw [hgo] at hto
      have := s_done (P := P) (cs := cs) (w := w) hm hto
      subst htm
      exact .one this
    | some i =>
      have hmem := List.mem_of_getElem? hx
      obtain ⟨hi, hrd⟩ := List.mem_filter.1 hmem
      rw [List.mem_range] at hi
      have ho : ops[i]? = some ops[i] := by simp [hi]
      rw [hgd i hi, ho] at hrd
      simp only [Option.map_some, Option.getD_some, Bool.and_eq_true, Bool.not_eq_true', Array.all_eq_true'] at hrd
      obtain ⟨hs, hp⟩ := hrd
      obtain ⟨fu', m', rs', h', c', G', D', C', tmps', w', q1, q2, q3⟩ := catch_ok hT hcl hL hck fu m rs h c G I hk i _ ho hs (fun e he hb => by
        have := hp e (Array.mem_toList_iff.1 he)
        rw [hb] at this
        simpa using this)
      have hS' : (fun j => (fun i => listed.getD i false) j || Nat.beq j i) = fun j => (listed.setIfInBounds i true).getD j false := by
        funext j
        by_cases hj : j = i
        · subst hj; simp [Array.getD, hsz, hi]
        · have hb : Nat.beq j i = false := by
            cases hb : Nat.beq j i with
            | false => rfl
            | true => exact absurd (Nat.eq_of_beq_eq_true hb) hj
          simp only [hb, Bool.or_false, Array.getD_eq_getD_getElem?]
          rw [Array.getElem?_setIfInBounds_ne (fun z => hj z.symm)]
      rw [hS'] at q2
      have hlen' : ((List.range ops.size).filter fun j => !(listed.setIfInBounds i true).getD j false).length ≤ fuel := by
        have hlt : ((List.range ops.size).filter fun j => !(listed.setIfInBounds i true).getD j false).length < ((List.range ops.size).filter fun j => !listed.getD j false).length := by
          have e1 : ((List.range ops.size).filter fun j => !(listed.setIfInBounds i true).getD j false) = ((List.range ops.size).filter fun j => !listed.getD j false).filter fun j => !Nat.beq j i := by
            rw [List.filter_filter]
            congr 1
            funext j
            have := congrFun hS' j
            dsimp only at this
            rw [← this]
            cases listed.getD j false <;> cases Nat.beq j i <;> rfl
          rw [e1]
          refine List.length_filter_lt_length_iff_exists.2 ⟨i, List.mem_filter.2 ⟨List.mem_range.2 hi, by simp [hs]⟩, by simp⟩
        omega
      obtain ⟨rs2, h2, c2, D2, C2, tmps2, w2, p1, p2, p3, p4⟩ := ih (t / _) _ fu' m' rs' h' c' G' D' C' tmps' w' (by simp [hsz]) hlen' q2 q3
      refine ⟨rs2, h2, c2, D2, C2, tmps2, w2, fun cs fr k0 hm htm hto => ?_, p2, p3, p4⟩
      have hgo : Region.linearise.go .any ops (fuel + 1) t listed [] = i :: Region.linearise.go .any ops fuel (t / ((List.range ops.size).filter fun i => !listed.getD i true && ((ops[i]?).map (·.after.all fun e => !Region.binds .any e || listed.getD e.on false)).getD false).length) (listed.setIfInBounds i true) [] := by
        rw [Region.linearise.go]
        rw [hx]
        dsimp only
        rw [linearise_go_acc]; rfl
      rw [hgo] at hto
      exact Steps.trans (q1 cs fr _ k0 hm htm hto) (p1 cs { fr with tmps := tmps', todo := .inRegion ops _ :: k0 } k0 hm rfl rfl)
/-- A region that draws its order. -/
theorem region_ok (hT : tb.ok P) (hx : P.follows .mixedOrders = true) : ∀ cl, CallsOk P σ cl → RegOk P σ tb cl := by
  intro cl hcl id ops n rs h c k am L ham hL hck hk D C fr w k0 hD hm hto ha
  subst ham
  have I : RI P σ tb ops n D C c h w (fun i => (Array.replicate ops.size false).getD i false) 0 rs h c [] D C fr.tmps w.drew := by
    have hf : ∀ i, (Array.replicate ops.size false).getD i false = false := fun i => by
      simp [Array.getD_eq_getD_getElem?, Array.getElem?_replicate]; split <;> rfl
    have h0 : ∀ i, Nat.testBit 0 i = true → False := fun i z => by simp at z
    have hno : ∀ i, (Array.replicate ops.size false).getD i false = true → False := fun i z => by rw [hf] at z; cases z
    refine ⟨fun i z => (hno i z).elim, fun i z => (h0 i z).elim, fun j b z => (hno j z).elim, fun j b z => (h0 j z).elim, (fun e he => by cases he), (fun e he => by cases he), (fun e he => by cases he), (fun e he => by cases he), trivial, (fun e he => by cases he), fun ρ hρ t v ht _ => (ha ρ hρ).1.get t v ht, ha.self.1.size, fun t v ht => ?_, h, fun j => .inr ⟨(fun e he => by cases he), rfl⟩, fun ρ hρ => (ha ρ hρ).2.same fun _ _ => rfl, Nat.le_refl _, fun _ z => z, hD, fun _ z => .inl z, fun _ _ => rfl, Keeps.drew (Keeps.refl _ _), fun _ z => .inl z⟩
    have := ha.self.1.get t v ht
    have hl := (Array.getElem?_eq_some_iff.1 this).1
    rw [ha.self.1.size] at hl
    exact hl
  obtain ⟨rs', h', c', D', C', tmps', w', q1, q2, q3, q4⟩ := reg_go (L := L) (kk := k) hT hcl hL hck ops.size (w.tape w.drawn (.order fr.fn id)) (Array.replicate ops.size false) 400 0 rs h c [] D C fr.tmps w.drew (by simp) (by
    refine Nat.le_trans (List.length_filter_le _ _) ?_
    simp) I hk
  exact ⟨rs', h', c', D', C', tmps', w', fun cs => .head (s_drawT hx hm hto) (q1 cs { fr with todo := .inRegion ops (Region.linearise .any ops (w.tape w.drawn (.order fr.fn id))) :: k0 } k0 hm rfl rfl), q3, q2, q4⟩
end
end Go.Proofs.YtkjhjgokaeiopaaGreatDoor.E
