/-
  The engine (25): regions that draw their order: steps.
-/
import Derived.Test.YtkjhjgokaeiopaaGreatDoorEY
namespace Go.Proofs.YtkjhjgokaeiopaaGreatDoor.E
open Go Go.RowKit
theorem bit_or {m i j : Nat} : Nat.testBit (m ||| 2 ^ i) j = true ↔ Nat.testBit m j = true ∨ j = i := by
  rw [Nat.testBit_or, Bool.or_eq_true]
  by_cases h : j = i
  · simp [h]
  · rw [Nat.testBit_two_pow_of_ne (fun e => h e.symm)]
    simp [h]
section
variable {P : Program} {σ : Nat → Value} {tb : Tb} {ops : Array Oper} {n : Nat} {D0 D : Nat → Prop} {C0 C : Nm} {c0 c : Nat} {h0 h : T O} {w0 w : World} {S : Nat → Bool} {m : Nat} {rs : T V} {G : Gm} {tmps : Array Value} {L : List RO}
theorem ro_of (hL : L = zip3 ops ops.toList (masks ops.toList []) 0 ops.toList (masks ops.toList [])) {i : Nat} {o : Oper} (ho : ops[i]? = some o) : ∃ r ∈ L, r.i = i ∧ r.o = o := by
  have hi : i < ops.toList.length := by
    have := (Array.getElem?_eq_some_iff.1 ho).1
    simpa using this
  have hl : ops.toList.length ≤ (masks ops.toList []).length := by rw [(masks_spec ops.toList []).1]; simp
  obtain ⟨r, h1, h2⟩ := zip3_of (ops := ops) (all := ops.toList) (am := masks ops.toList []) (i := 0) hi hl
  rw [Nat.zero_add] at h2
  refine ⟨r, by rw [hL]; exact h1, h2, ?_⟩
  obtain ⟨j, q1, q2, q3, q4⟩ := zip3_mem h1
  rw [Nat.zero_add] at q1
  rw [← q1, h2] at q2
  rw [Array.getElem?_toList, ho] at q2
  cases q2; rfl
theorem ro_ok (hL : L = zip3 ops ops.toList (masks ops.toList []) 0 ops.toList (masks ops.toList [])) {r : RO} (hr : r ∈ L) : ops[r.i]? = some r.o ∧ (masks ops.toList [])[r.i]? = some r.b ∧ r.bar = (match r.o.dst with
    | some d => barq ops r.i d ops.toList (masks ops.toList [])
    | none => false) := by
  rw [hL] at hr
  obtain ⟨j, q1, q2, q3, q4⟩ := zip3_mem hr
  rw [Nat.zero_add] at q1
  rw [← q1] at q2 q3
  rw [Array.getElem?_toList] at q2
  exact ⟨q2, q3, q4⟩
variable (I : RI P σ tb ops n D0 C0 c0 h0 w0 S m rs h c G D C tmps w) (hL : L = zip3 ops ops.toList (masks ops.toList []) 0 ops.toList (masks ops.toList [])) (hck : chkR ops L L = true)
include I hL hck
theorem RI.dst_ne {r : RO} (hr : r ∈ L) (hn : Nat.testBit m r.i = false) {d : Nat} (hd : r.o.dst = some d) : ∀ e ∈ G, e.2.1.dst ≠ some d := by
  intro e he hed
  obtain ⟨e1, e2, _⟩ := I.ent e he
  obtain ⟨re, q1, q2, q3⟩ := ro_of hL e1
  have := chkR_one hck re q1 r hr (by rw [q3]; exact hed) hd
  rw [← q2, this, hn] at e2
  cases e2
/-- Something quiet is told. -/
theorem RI.quiet {r : RO} {x : W} {c' : Nat} {kk : T V → Bool} (hr : r ∈ rdy m L) (hb : r.bar = false) (hc : c ≤ c') (hxa : ∀ v id ob, x = .a v id ob → id = c ∧ c' = c + 1) (hx : Told P tb ops rs h D (r.i, r.o, x)) (hk : putK n rs r.o.dst x.val kk = true) :
    ∃ rs', kk rs' = true ∧ RI P σ tb ops n D0 C0 c0 h0 w0 S (m ||| 2 ^ r.i) rs' h c' ((r.i, r.o, x) :: G) D C tmps w := by
  obtain ⟨rs', k1, k2, k3⟩ := putK_raw hk
  obtain ⟨r1, r2, r3⟩ := rdy_ok.1 hr
  obtain ⟨z1, z2, z3⟩ := ro_ok hL r1
  obtain ⟨hS, m1, m2, m3⟩ := I.mem
  have hnS : S r.i = false := by
    cases hs : S r.i with
    | false => rfl
    | true => rw [I.sub _ hs] at r2; cases r2
  have hahead : Ahead (fun p => Nat.testBit m p = true) r.o := preds_ok.1 r3
  have hne : ∀ {d : Nat}, r.o.dst = some d → ∀ e ∈ G, e.2.1.dst ≠ some d := fun hd => I.dst_ne hL hck r1 r2 hd
  have hbits := mask_in (S := fun p => Nat.testBit m p = true) (ops := ops) I.dnm z1 hahead r.b z2
  have hbarq : ∀ d, r.o.dst = some d → barq ops r.i d ops.toList (masks ops.toList []) = false := fun d hd => by
    rw [hd] at z3; dsimp only at z3; rw [← z3]; exact hb
  have hread : ∀ j o, ops[j]? = some o → (Nat.testBit m j = true ∨ j = r.i) → ∀ t ∈ looks ops o, r.o.dst ≠ some t := by
    intro j o ho hj t ht hd
    obtain ⟨rj, q1, q2, q3⟩ := ro_of hL ho
    obtain ⟨y1, y2, _⟩ := ro_ok hL q1
    rw [q2] at y2
    have := barq_ok (hbarq t hd) j o rj.b (by rw [Array.getElem?_toList]; exact ho) y2 ht
    have hm : Nat.testBit m r.i = true := by
      rcases hj with hj | rfl
      · exact I.dnm j rj.b hj y2 _ this
      · rw [z2] at y2; rw [← Option.some.inj y2] at this; exact hbits _ this
    rw [hm] at r2; cases r2
  have hcn : h.get c = none := by
    cases hg : h.get c with
    | none => rfl
    | some o =>
      exfalso
      have hd : ∃ o, hS.get c = some o := by
        rcases m1 c with ⟨e, _, _, v, ob, _, q⟩ | ⟨_, q⟩
        · exact ⟨_, q⟩
        · exact ⟨o, by rw [q]; exact hg⟩
      obtain ⟨o', ho'⟩ := hd
      exact absurd (m3.lt c (dom m2 ho')) (Nat.lt_irrefl _)
  refine ⟨rs', k1, ⟨fun i hi => bit_or.2 (.inl (I.sub i hi)), fun i hi => ?_, I.dnS, fun j b hj hjb i hi => ?_, fun e he => ?_, fun e he v id ob hv => ?_, fun e he e' he' hee => ?_, fun e he e' he' v v' id ob ob' hv hv' => ?_, ⟨fun e he heb => ?_, I.ord⟩, fun e he hes => ?_, fun ρ hρ t v ht hp => ?_, I.size, fun t v ht => ?_, hS, ?_, m2, ?_⟩⟩
  · rcases bit_or.1 hi with hi | rfl
    · exact (I.out i hi).imp id fun ⟨e, q1, q2⟩ => ⟨e, List.mem_cons_of_mem _ q1, q2⟩
    · exact .inr ⟨_, List.mem_cons_self .., rfl⟩
  · refine bit_or.2 (.inl ?_)
    rcases bit_or.1 hj with hj | rfl
    · exact I.dnm j b hj hjb i hi
    · rw [z2] at hjb; rw [← Option.some.inj hjb] at hi; exact hbits i hi
  · rcases List.mem_cons.1 he with rfl | he
    · exact ⟨z1, bit_or.2 (.inr rfl), fun d hd => ⟨hbarq d hd, by rw [k3, if_pos hd]⟩⟩
    · obtain ⟨q1, q2, q3⟩ := I.ent e he
      refine ⟨q1, bit_or.2 (.inl q2), fun d hd => ⟨(q3 d hd).1, ?_⟩⟩
      rw [k3, if_neg (fun hd' => hne hd' e he hd)]
      exact (q3 d hd).2
  · rcases List.mem_cons.1 he with rfl | he
    · obtain ⟨rfl, rfl⟩ := hxa v id ob hv
      exact ⟨m3.le, by omega, hcn⟩
    · obtain ⟨q1, q2, q3⟩ := I.ids e he v id ob hv
      exact ⟨q1, by omega, q3⟩
  · rcases List.mem_cons.1 he with rfl | he <;> rcases List.mem_cons.1 he' with rfl | he'
    · rfl
    · have := (I.ent e' he').2.1; rw [← hee, r2] at this; cases this
    · have := (I.ent e he).2.1; rw [hee, r2] at this; cases this
    · exact I.one e he e' he' hee
  · rcases List.mem_cons.1 he with rfl | he <;> rcases List.mem_cons.1 he' with rfl | he'
    · rfl
    · obtain ⟨rfl, _⟩ := hxa _ _ _ hv; have := (I.ids e' he' _ _ _ hv').2.1; omega
    · obtain ⟨rfl, _⟩ := hxa _ _ _ hv'; have := (I.ids e he _ _ _ hv).2.1; omega
    · exact I.uniq e he e' he' v v' id ob ob' hv hv'
  · exact I.out _ (hahead e he heb)
  · rcases List.mem_cons.1 he with rfl | he
    · exact ⟨rs, fun t ht => by rw [k3, if_neg (hread _ _ z1 (.inr rfl) t ht)], I.ltn, hx⟩
    · obtain ⟨rsi, p1, p2, p3⟩ := I.pend e he hes
      obtain ⟨q1, q2, _⟩ := I.ent e he
      exact ⟨rsi, fun t ht => by rw [k3, if_neg (hread _ _ q1 (.inl q2) t ht)]; exact p1 t ht, p2, p3⟩
  · have hd : r.o.dst ≠ some t := hp _ (List.mem_cons_self ..) hnS
    rw [k3, if_neg hd] at ht
    exact I.regs ρ hρ t v ht fun e he => hp e (List.mem_cons_of_mem _ he)
  · rw [k3] at ht
    by_cases hd : r.o.dst = some t
    · exact k2 t hd
    · rw [if_neg hd] at ht; exact I.ltn t v ht
  · exact m1.skip fun q => by dsimp only at q; rw [hnS] at q; cases q
  · exact ⟨Nat.le_trans m3.le hc, m3.sub, fun i hi => Nat.lt_of_lt_of_le (m3.lt i hi) hc, m3.new, m3.agree, m3.keeps, m3.ours⟩
/-- What is looked at is as told. -/
theorem RI.seen {i : Nat} {o : Oper} (ho : ops[i]? = some o) (_hn : S i = false) (ha : Ahead (fun p => S p = true) o) {rsi : T V} (hag : ∀ t ∈ looks ops o, rsi.get t = rs.get t) :
    At D C fun ρ => ∀ t ∈ looks ops o, ∀ v, rsi.get t = some v → tmps[t]? = some (v.den σ ρ) := by
  have _ := hck
  intro ρ hρ t ht v hv
  rw [hag t ht] at hv
  refine I.regs ρ hρ t v hv fun e he hes hd => ?_
  obtain ⟨e1, e2, e3⟩ := I.ent e he
  obtain ⟨r, q1, q2, q3⟩ := ro_of hL ho
  obtain ⟨y1, y2, _⟩ := ro_ok hL q1
  rw [q2] at y2
  have := barq_ok (e3 t hd).1 i o r.b (by rw [Array.getElem?_toList]; exact ho) y2 ht
  have := mask_in (S := fun p => S p = true) (ops := ops) I.dnS ho ha r.b y2 _ this
  rw [hes] at this; cases this
omit I hL hck in
theorem afx_fx {id : Nat} {o : Oper} {f : Fx} (hf : afx tb rs id o = some f) : fx P tb rs h id o = some f := by
  obtain ⟨dst, op, ty, pos, af, gd⟩ := o
  unfold afx at hf
  dsimp only at hf
  split at hf
  all_goals first | (cases hf; done) | (unfold fx; exact hf)
/-- What was told is done. -/
theorem RI.real (hT : tb.ok P) {e : Nat × Oper × W} (he : e ∈ G) (hn : S e.1 = false) (ha : Ahead (fun p => S p = true) e.2.1) :
    ∃ u w' D' C', ((Region.wanted e.2.1 (yielded ops tmps) = false ∧ u = undef ∧ w' = w) ∨ (Region.wanted e.2.1 (yielded ops tmps) = true ∧ ((execOp (⟨tmps, []⟩ : Act).eval e.2.1).run P w = .ok (.value u) w' ∨ (execOp (⟨tmps, []⟩ : Act).eval e.2.1).run P w = .ok .skip w' ∧ u = undef))) ∧
      RI P σ tb ops n D0 C0 c0 h0 w0 (fun j => S j || Nat.beq j e.1) m rs h c G D' C' (putT e.2.1.dst u tmps) w' := by
  obtain ⟨z1, z2, z3⟩ := I.ent e he
  obtain ⟨r, r1, r2, r3⟩ := ro_of hL z1
  have hsel := (chkR_ok hck r r1).1
  rw [r3] at hsel
  obtain ⟨y1, y2, _⟩ := ro_ok hL r1
  rw [r2] at y2
  have hbits := mask_in (S := fun p => S p = true) (ops := ops) I.dnS z1 ha r.b y2
  obtain ⟨rsi, p1, p2, p3⟩ := I.pend e he hn
  have hseen := I.seen hL hck z1 hn ha p1
  have hpl := fun ρ hρ => run_plus (σ := σ) (ρ := ρ) (ops := ops) (o := e.2.1) hsel I.size p2 (hseen ρ hρ)
  obtain ⟨hS, m1, m2, m3⟩ := I.mem
  have S1 : ∀ j, (S j || Nat.beq j e.1) = true ↔ S j = true ∨ j = e.1 := fun j => by rw [Bool.or_eq_true, Nat.beq_eq]
  have S0 : ∀ j, (S j || Nat.beq j e.1) = false ↔ S j = false ∧ j ≠ e.1 := fun j => by
    rw [Bool.or_eq_false_iff]
    refine and_congr Iff.rfl ⟨Nat.ne_of_beq_eq_false, fun q => ?_⟩
    cases hb : Nat.beq j e.1 with
    | false => rfl
    | true => exact absurd (Nat.eq_of_beq_eq_true hb) q
  have build : ∀ u w' D' C', (∀ i, D i → D' i) → (∀ i, D i → C' i = C i) → At D' C' (fun ρ => u = e.2.2.val.den σ ρ) → (∀ e' ∈ G, e' ≠ e → ∀ v id ob, e'.2.2 = .a v id ob → ¬ D id → ¬ D' id) →
      (∃ hS', MSpec (fun j => S j || Nat.beq j e.1) G h hS' ∧ At D' C' (fun ρ => Mem σ ρ hS' w') ∧ Ext D0 D' C0 C' c0 c h0 hS' w0 w') →
      RI P σ tb ops n D0 C0 c0 h0 w0 (fun j => S j || Nat.beq j e.1) m rs h c G D' C' (putT e.2.1.dst u tmps) w' := by
    intro u w' D' C' hs hag hu hd hmem
    refine ⟨fun i hi => ?_, fun i hi => (I.out i hi).imp (fun q => (S1 i).2 (.inl q)) id, fun j b hj hjb i hi => ?_, I.dnm, I.ent, I.ids, I.one, I.uniq, I.ord.mono fun i hi => (S1 i).2 (.inl hi), fun e' he' hes => ?_, fun ρ hρ t v ht hp => ?_, ?_, I.ltn, hmem⟩
    · rcases (S1 i).1 hi with q | rfl
      · exact I.sub i q
      · exact z2
    · refine (S1 i).2 (.inl ?_)
      rcases (S1 j).1 hj with q | rfl
      · exact I.dnS j b q hjb i hi
      · rw [y2] at hjb; rw [← Option.some.inj hjb] at hi; exact hbits i hi
    · obtain ⟨q1, q2⟩ := (S0 e'.1).1 hes
      obtain ⟨rs2, t1, t2, t3⟩ := I.pend e' he' q1
      refine ⟨rs2, t1, t2, ?_⟩
      unfold Told at t3 ⊢
      cases hx : e'.2.2 with
      | un => rw [hx] at t3; exact t3
      | q v => rw [hx] at t3; exact t3
      | a v id ob => rw [hx] at t3; exact ⟨t3.1, t3.2.1, hd e' he' (fun q => q2 (by rw [q])) v id ob hx t3.2.2⟩
    · have hρ' : ∀ i, D i → ρ i = C i := fun i hi => (hρ i (hs i hi)).trans (hag i hi)
      by_cases hdt : e.2.1.dst = some t
      · rw [(z3 t hdt).2] at ht
        cases ht
        rw [hdt]
        have htn : t < tmps.size := by rw [I.size]; exact I.ltn t _ (z3 t hdt).2
        simp only [putT]
        rw [Array.getElem?_setIfInBounds_self_of_lt htn, hu ρ hρ]
      · have := I.regs ρ hρ' t v ht fun e' he' hes hed => by
          by_cases q : e'.1 = e.1
          · rw [I.one e' he' e he q] at hed; exact hdt hed
          · exact hp e' he' ((S0 e'.1).2 ⟨hes, q⟩) hed
        rw [← this]
        unfold putT
        cases hdd : e.2.1.dst with
        | none => rfl
        | some d => exact Array.getElem?_setIfInBounds_ne (fun q => hdt (by rw [hdd, q]))
    · unfold putT
      cases e.2.1.dst <;> simp [I.size]
  have same : (∀ v id ob, e.2.2 ≠ .a v id ob) → MSpec (fun j => S j || Nat.beq j e.1) G h hS := fun hx j => by
    rcases m1 j with ⟨e', q1, q2, q3⟩ | ⟨q1, q2⟩
    · exact .inl ⟨e', q1, (S1 _).2 (.inl q2), q3⟩
    · refine .inr ⟨fun e' he' hs v ob hv => ?_, q2⟩
      rcases (S1 e'.1).1 hs with q | q
      · exact q1 e' he' q v ob hv
      · rw [I.one e' he' e he q] at hv; exact hx _ _ _ hv
  cases hx : e.2.2 with
  | un =>
    unfold Told at p3
    rw [hx] at p3
    dsimp only at p3
    have hw : Region.wanted e.2.1 (yielded ops tmps) = false := by
      obtain ⟨a1, _, a3⟩ := hpl C fun _ _ => rfl
      rw [← a3]; exact wantV_ok a1 p3
    exact ⟨undef, w, D, C, .inl ⟨hw, rfl, rfl⟩, build undef w D C (fun _ q => q) (fun _ _ => rfl) (fun ρ hρ => by rw [hx]; simp [W.val, V.den, denL, undef]) (fun _ _ _ _ _ _ _ q => q) ⟨hS, same (by rw [hx]; simp), m2, m3⟩⟩
  | q v =>
    unfold Told at p3
    rw [hx] at p3
    dsimp only at p3
    have hw : Region.wanted e.2.1 (yielded ops tmps) = true := by
      obtain ⟨a1, _, a3⟩ := hpl C fun _ _ => rfl
      rw [← a3]; exact wantV_ok a1 p3.1
    have hmem : ∀ ρ, (∀ i, D i → ρ i = C i) → Mem σ ρ h w := fun ρ hρ => by
      refine (m2 ρ hρ).congr fun j o ho => ?_
      rcases m1 j with ⟨e', q1, q2, v', ob', q3, q4⟩ | ⟨_, q2⟩
      · rw [(I.ids e' q1 _ _ _ q3).2.2] at ho; cases ho
      · rw [q2]; exact ho
    have hrun : ∀ ρ, (∀ i, D i → ρ i = C i) → (execOp (⟨tmps, []⟩ : Act).eval e.2.1).run P w = .ok (.value (v.den σ ρ)) w := fun ρ hρ => by
      obtain ⟨a1, a2, _⟩ := hpl ρ hρ
      rw [← a2]
      exact pv_ok (a := ⟨plusA σ ρ n rsi tmps, []⟩) hT a1 (hmem ρ hρ) p3.2
    refine ⟨v.den σ C, w, D, C, .inr ⟨hw, .inl (hrun C fun _ _ => rfl)⟩, build _ w D C (fun _ q => q) (fun _ _ => rfl) (fun ρ hρ => ?_) (fun _ _ _ _ _ _ _ q => q) ⟨hS, same (by rw [hx]; simp), m2, m3⟩⟩
    have := hrun ρ hρ
    rw [hrun C fun _ _ => rfl] at this
    rw [hx]
    injection this with this
    injection this
  | a v id ob =>
    unfold Told at p3
    rw [hx] at p3
    dsimp only at p3
    obtain ⟨p3, p4, p5⟩ := p3
    have hw : Region.wanted e.2.1 (yielded ops tmps) = true := by
      obtain ⟨a1, _, a3⟩ := hpl C fun _ _ => rfl
      rw [← a3]; exact wantV_ok a1 p3
    obtain ⟨hS', t1⟩ := T.put_ex id hS (some ob)
    have hto : ∀ j, hS'.get j = (Fx.to ⟨v, none, some (id, ob)⟩ hS) j := fun j => by rw [t1]; simp [Fx.to]
    have hdo : ∀ ρ, (∀ i, D i → ρ i = C i) → ∃ r w', Does P σ ρ hS w id ⟨v, none, some (id, ob)⟩ (execOp (⟨tmps, []⟩ : Act).eval e.2.1) r w' := fun ρ hρ => by
      obtain ⟨a1, a2, _⟩ := hpl ρ hρ
      rw [← a2]
      exact fx_ok (a := ⟨plusA σ ρ n rsi tmps, []⟩) hT a1 (m2 ρ hρ) (afx_fx p4)
    obtain ⟨u, w', d0⟩ := hdo C fun _ _ => rfl
    have hgid : hS.get id = none := none_of m2 p5
    have hg : ∀ i, D i → giveN C id (nmOf u) i = C i := fun i hi => by unfold giveN; rw [if_neg (by intro q; subst q; exact p5 hi)]
    obtain ⟨i1, i2, i3⟩ := I.ids e he _ _ _ hx
    have hat : At (fun i => D i ∨ i = id) (giveN C id (nmOf u)) fun ρ => u = v.den σ ρ ∧ Mem σ ρ hS' w' := fun ρ hρ => by
      have hρ' : ∀ i, D i → ρ i = C i := fun i hi => (hρ i (.inl hi)).trans (hg i hi)
      obtain ⟨u1, w1, d1⟩ := hdo ρ hρ'
      obtain ⟨rfl, rfl⟩ : u = u1 ∧ w' = w1 := by
        rcases d0.run with q0 | ⟨q0, rfl⟩ <;> rcases d1.run with q1 | ⟨q1, rfl⟩ <;> rw [q0] at q1 <;> injection q1 with q2 q3
        · injection q2 with q2; exact ⟨q2, q3⟩
        · cases q2
        · cases q2
        · exact ⟨rfl, q3⟩
      have hc : ρ id = nmOf u := by rw [hρ id (.inr rfl)]; simp [giveN]
      obtain ⟨n1, n2⟩ := d1.mem hc
      exact ⟨n1, n2 hS' hto⟩
    refine ⟨u, w', fun i => D i ∨ i = id, giveN C id (nmOf u), .inr ⟨hw, d0.run⟩, build u w' _ _ (fun _ q => .inl q) hg (fun ρ hρ => by rw [hx]; exact (hat ρ hρ).1) (fun e' he' hne v' id' ob' hv' hnd hd => ?_) ⟨hS', fun j => ?_, hat.imp fun _ q => q.2, ?_⟩⟩
    · rcases hd with hd | hd
      · exact hnd hd
      · subst hd
        exact hne (I.uniq e' he' e he _ _ _ _ _ hv' hx)
    · by_cases hj : j = id
      · subst hj
        exact .inl ⟨e, he, (S1 _).2 (.inr rfl), v, ob, hx, by rw [t1]; simp⟩
      · have e1 : hS'.get j = hS.get j := by rw [t1, if_neg hj]
        rw [e1]
        rcases m1 j with ⟨e', q1, q2, q3⟩ | ⟨q1, q2⟩
        · exact .inl ⟨e', q1, (S1 _).2 (.inl q2), q3⟩
        · refine .inr ⟨fun e' he' hs v' ob' hv => ?_, q2⟩
          rcases (S1 e'.1).1 hs with q | q
          · exact q1 e' he' q v' ob' hv
          · rw [I.one e' he' e he q, hx] at hv; injection hv with _ hv; exact hj hv.symm
    · refine ⟨m3.le, fun i hi => .inl (m3.sub i hi), fun i hi => hi.elim (m3.lt i) (fun q => by omega), fun i hi => hi.elim (m3.new i) (fun q => .inr (by omega)), fun i hi => (hg i (m3.sub i hi)).trans (m3.agree i hi), m3.keeps.trans d0.keeps fun k hk hF => (m3.ours k hF).elim (fun q => q) (fun q => absurd hk (by omega)), fun k hk => ?_⟩
      have hok : ∀ i o, hS.get i = some o → (giveN C id (nmOf u) i).b = k → Ours C0 h0 k ∨ w0.heap.size ≤ k := fun i o q1 q2 => m3.ours k ⟨i, o, q1, by rw [hg i (dom m2 q1)] at q2; exact q2⟩
      obtain ⟨i, o, q1, q2⟩ := hk
      rw [t1] at q1
      by_cases hi : i = id
      · subst hi
        have hb : (nmOf u).b = k := by rw [← q2]; simp [giveN]
        rcases d0.fresh ⟨ob, rfl⟩ hgid with q | q
        · right; rw [hb] at q; exact Nat.le_trans m3.keeps.size q
        · rw [hb] at q; exact m3.ours k q
      · rw [if_neg hi] at q1; exact hok i o q1 q2
end
end Go.Proofs.YtkjhjgokaeiopaaGreatDoor.E
