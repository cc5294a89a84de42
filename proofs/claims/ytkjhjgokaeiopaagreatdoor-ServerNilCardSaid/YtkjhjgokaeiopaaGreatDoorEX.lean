/-
  The engine (23): regions that draw their order: what the tests tell.
-/
import Derived.Test.YtkjhjgokaeiopaaGreatDoorEW
namespace Go.Proofs.YtkjhjgokaeiopaaGreatDoor.E
open Go Go.RowKit
/-- All that goes ahead is in S. -/
def Ahead (S : Nat → Prop) (o : Oper) : Prop := ∀ e ∈ o.after.toList, Region.binds .any e = true → S e.on
theorem maskV_bit {acc : List Nat} {b : Nat} : ∀ {es : List Edge} {s : Nat}, Nat.testBit (maskV acc es s) b = true → Nat.testBit s b = true ∨ ∃ e ∈ es, Region.binds .any e = true ∧ (b = e.on ∨ ∃ m, acc[e.on]? = some m ∧ Nat.testBit m b = true)
  | [], s, h => .inl h
  | e :: es, s, h => by
    unfold maskV at h
    rcases maskV_bit h with h1 | ⟨e', h1, h2⟩
    · cases hb : Region.binds .any e with
      | false => rw [hb] at h1; exact .inl h1
      | true =>
        rw [hb] at h1
        simp only [cond_true, Nat.testBit_or, Bool.or_eq_true] at h1
        rcases h1 with (h1 | h1) | h1
        · exact .inl h1
        · refine .inr ⟨e, List.mem_cons_self .., hb, .inl ?_⟩
          by_cases q : b = e.on
          · exact q
          · rw [Nat.testBit_two_pow_of_ne (fun z => q z.symm)] at h1; cases h1
        · refine .inr ⟨e, List.mem_cons_self .., hb, .inr ?_⟩
          rw [nth_eq] at h1
          cases hm : acc[e.on]? with
          | none => rw [hm] at h1; simp at h1
          | some m => rw [hm] at h1; exact ⟨m, rfl, h1⟩
    · exact .inr ⟨e', List.mem_cons_of_mem _ h1, h2⟩
theorem masks_spec : ∀ (l : List Oper) (acc : List Nat), (masks l acc).length = acc.length + l.length ∧ (∀ i, i < acc.length → (masks l acc)[i]? = acc[i]?) ∧
    ∀ j o, l[j]? = some o → ∃ m, (masks l acc)[acc.length + j]? = some m ∧ ∀ b, Nat.testBit m b = true → ∃ e ∈ o.after.toList, Region.binds .any e = true ∧ (b = e.on ∨ ∃ m, (masks l acc)[e.on]? = some m ∧ Nat.testBit m b = true)
  | [], acc => ⟨rfl, fun _ _ => rfl, fun j o h => by simp at h⟩
  | o :: l, acc => by
    obtain ⟨h1, h2, h3⟩ := masks_spec l (acc ++ [maskV acc o.after.toList 0])
    simp only [List.length_append, List.length_cons, List.length_nil] at h1 h2 h3
    refine ⟨by show (masks l _).length = _; rw [h1]; simp only [List.length_cons]; omega, fun i hi => ?_, fun j q hj => ?_⟩
    · show (masks l _)[i]? = _
      rw [h2 i (by omega), List.getElem?_append_left hi]
    · cases j with
      | zero =>
        simp only [List.getElem?_cons_zero, Option.some.injEq] at hj
        subst hj
        refine ⟨maskV acc o.after.toList 0, ?_, fun b hb => ?_⟩
        · show (masks l _)[_]? = _
          rw [h2 _ (by omega)]
          simp
        · rcases maskV_bit hb with h | ⟨e, e1, e2, e3⟩
          · simp at h
          · refine ⟨e, e1, e2, e3.imp id fun ⟨m, m1, m2⟩ => ⟨m, ?_, m2⟩⟩
            show (masks l _)[_]? = _
            have hl : e.on < acc.length := (List.getElem?_eq_some_iff.1 m1).1
            rw [h2 _ (by omega), List.getElem?_append_left hl, m1]
      | succ j =>
        obtain ⟨m, m1, m2⟩ := h3 j q (by simpa using hj)
        refine ⟨m, ?_, m2⟩
        show (masks l _)[_]? = _
        rw [show acc.length + (j + 1) = acc.length + (0 + 1) + j by omega]
        exact m1
/-- What goes ahead of it (and ahead of that) is in S, where S is closed. -/
theorem mask_in {ops : Array Oper} {S : Nat → Prop} {i : Nat} {o : Oper} (hS : ∀ j m, S j → (masks ops.toList [])[j]? = some m → ∀ b, Nat.testBit m b = true → S b) (ho : ops[i]? = some o) (ha : Ahead S o) :
    ∀ m, (masks ops.toList [])[i]? = some m → ∀ b, Nat.testBit m b = true → S b := by
  intro m hm b hb
  obtain ⟨m', h1, h2⟩ := (masks_spec ops.toList []).2.2 i o (by simpa using ho)
  simp only [List.length_nil, Nat.zero_add] at h1
  rw [hm] at h1
  cases h1
  obtain ⟨e, e1, e2, e3⟩ := h2 b hb
  rcases e3 with rfl | ⟨m'', m1, m2⟩
  · exact ha e e1 e2
  · exact hS _ _ (ha e e1 e2) m1 b m2
theorem zip3_mem {ops : Array Oper} {all : List Oper} {am : List Nat} : ∀ {l : List Oper} {ms : List Nat} {i : Nat} {r : RO}, r ∈ zip3 ops all am i l ms → ∃ j, r.i = i + j ∧ l[j]? = some r.o ∧ ms[j]? = some r.b ∧ r.bar = (match r.o.dst with
    | some d => barq ops r.i d all am
    | none => false)
  | [], _, _, _, h => by simp [zip3] at h
  | _ :: _, [], _, _, h => by simp [zip3] at h
  | o :: l, m :: ms, i, r, h => by
    simp only [zip3, List.mem_cons] at h
    rcases h with rfl | h
    · exact ⟨0, rfl, rfl, rfl, rfl⟩
    · obtain ⟨j, h1, h2, h3, h4⟩ := zip3_mem h
      exact ⟨j + 1, by omega, by simpa using h2, by simpa using h3, h4⟩
theorem zip3_of {ops : Array Oper} {all : List Oper} {am : List Nat} : ∀ {l : List Oper} {ms : List Nat} {i j : Nat}, j < l.length → l.length ≤ ms.length → ∃ r ∈ zip3 ops all am i l ms, r.i = i + j
  | [], _, _, _, h, _ => by simp at h
  | _ :: _, [], _, _, _, h => by simp at h
  | o :: l, m :: ms, i, j, h, hm => by
    cases j with
    | zero => exact ⟨_, List.mem_cons_self .., rfl⟩
    | succ j =>
      simp only [List.length_cons] at h hm
      obtain ⟨r, h1, h2⟩ := zip3_of (ops := ops) (all := all) (am := am) (l := l) (ms := ms) (i := i + 1) (j := j) (by omega) (by omega)
      exact ⟨r, List.mem_cons_of_mem _ h1, by omega⟩
theorem preds_ok {m : Nat} : ∀ {es : List Edge}, preds m es = true ↔ ∀ e ∈ es, Region.binds .any e = true → Nat.testBit m e.on = true
  | [] => by simp [preds]
  | e :: es => by
    unfold preds
    have := preds_ok (m := m) (es := es)
    cases h1 : Region.binds .any e <;> cases h2 : Nat.testBit m e.on <;> simp [h1, h2, this]
theorem rdy_ok {m : Nat} {r : RO} : ∀ {L : List RO}, r ∈ rdy m L ↔ r ∈ L ∧ Nat.testBit m r.i = false ∧ preds m r.o.after.toList = true
  | [] => by simp [rdy]
  | q :: L => by
    unfold rdy
    have := rdy_ok (m := m) (r := r) (L := L)
    cases h1 : Nat.testBit m q.i with
    | true => simp only [cond_true, this, List.mem_cons]; constructor
              · rintro ⟨a, b⟩; exact ⟨.inr a, b⟩
              · rintro ⟨rfl | a, b⟩
                · rw [h1] at b; cases b.1
                · exact ⟨a, b⟩
    | false =>
      cases h2 : preds m q.o.after.toList with
      | true => simp only [cond_true, cond_false, this, List.mem_cons]; constructor
                · rintro (rfl | a)
                  · exact ⟨.inl rfl, h1, h2⟩
                  · exact ⟨.inr a.1, a.2⟩
                · rintro ⟨rfl | a, b⟩
                  · exact .inl rfl
                  · exact .inr ⟨a, b⟩
      | false => simp only [cond_false, this, List.mem_cons]; constructor
                 · rintro ⟨a, b⟩; exact ⟨.inr a, b⟩
                 · rintro ⟨rfl | a, b⟩
                   · rw [h2] at b; cases b.2
                   · exact ⟨a, b⟩
theorem memN_ok {d : Nat} : ∀ {l : List Nat}, memN d l = true ↔ d ∈ l
  | [] => by simp [memN]
  | t :: l => by
    unfold memN
    cases h : Nat.beq t d with
    | true => simp [Nat.eq_of_beq_eq_true h]
    | false =>
      have hne : d ≠ t := fun e => Nat.ne_of_beq_eq_false h e.symm
      simp [memN_ok (l := l), hne]
theorem barq_ok {ops : Array Oper} {i d : Nat} : ∀ {all : List Oper} {am : List Nat}, barq ops i d all am = false → ∀ (j : Nat) o m, all[j]? = some o → am[j]? = some m → d ∈ looks ops o → Nat.testBit m i = true
  | [], _, _, j, o, m, h, _, _ => by simp at h
  | _ :: _, [], _, j, o, m, _, h, _ => by simp at h
  | q :: all, n :: am, hb, j, o, m, h1, h2, h3 => by
    unfold barq at hb
    cases j with
    | zero =>
      simp only [List.getElem?_cons_zero, Option.some.injEq] at h1 h2
      subst h1 h2
      rw [memN_ok.2 h3] at hb
      cases ht : Nat.testBit n i with
      | true => rfl
      | false => rw [ht] at hb; cases hb
    | succ j =>
      refine barq_ok (all := all) (am := am) ?_ j o m (by simpa using h1) (by simpa using h2) h3
      cases h4 : memN d (looks ops q) with
      | false => rw [h4] at hb; exact hb
      | true =>
        rw [h4] at hb
        cases ht : Nat.testBit n i with
        | true => rw [ht] at hb; exact hb
        | false => rw [ht] at hb; cases hb
theorem okT_ok {r : RO} {t : Nat} : ∀ {L : List RO}, okT r t L = true → ∀ q ∈ L, q.o.dst = some t → Nat.testBit r.b q.i = true ∨ Nat.testBit q.b r.i = true ∨ q.i = r.i
  | [], _, q, hq, _ => by cases hq
  | p :: L, h, q, hq, hd => by
    unfold okT at h
    rw [Bool.and_eq_true] at h
    rcases List.mem_cons.1 hq with rfl | hq
    · have h1 := h.1
      rw [hd] at h1
      simp only [Nat.beq_refl, cond_true, Bool.or_eq_true] at h1
      rcases h1 with (h1 | h1) | h1
      · exact .inl h1
      · exact .inr (.inl h1)
      · exact .inr (.inr (Nat.eq_of_beq_eq_true h1))
    · exact okT_ok h.2 q hq hd
theorem allT_ok {r : RO} {L : List RO} : ∀ {ts : List Nat}, allT r L ts = true → ∀ t ∈ ts, okT r t L = true
  | [], _, t, ht => by cases ht
  | s :: ts, h, t, ht => by
    unfold allT at h
    rw [Bool.and_eq_true] at h
    rcases List.mem_cons.1 ht with rfl | ht
    · exact h.1
    · exact allT_ok h.2 t ht
theorem noDst_ok {d : Nat} : ∀ {l : List RO}, noDst d l = true → ∀ q ∈ l, q.o.dst ≠ some d
  | [], _, q, hq => by cases hq
  | p :: l, h, q, hq => by
    unfold noDst at h
    rw [Bool.and_eq_true] at h
    rcases List.mem_cons.1 hq with rfl | hq
    · intro e
      rw [e] at h
      simp at h
    · exact noDst_ok h.2 q hq
theorem chkR_ok {ops : Array Oper} {L : List RO} : ∀ {l : List RO}, chkR ops L l = true → ∀ r ∈ l, notSel r.o.op = true ∧ ∀ t ∈ looks ops r.o, ∀ q ∈ L, q.o.dst = some t → Nat.testBit r.b q.i = true ∨ Nat.testBit q.b r.i = true ∨ q.i = r.i
  | [], _, r, hr => by cases hr
  | p :: l, h, r, hr => by
    unfold chkR at h
    simp only [Bool.and_eq_true] at h
    rcases List.mem_cons.1 hr with rfl | hr
    · exact ⟨h.1.1, fun t ht q hq hd => okT_ok (allT_ok h.1.2 t ht) q hq hd⟩
    · exact chkR_ok h.2.2 r hr
theorem chkR_one {ops : Array Oper} {L : List RO} {d : Nat} : ∀ {l : List RO}, chkR ops L l = true → ∀ r ∈ l, ∀ q ∈ l, r.o.dst = some d → q.o.dst = some d → r = q
  | [], _, r, hr, _, _, _, _ => by cases hr
  | p :: l, h, r, hr, q, hq, h1, h2 => by
    unfold chkR at h
    simp only [Bool.and_eq_true] at h
    rcases List.mem_cons.1 hr with rfl | hr1 <;> rcases List.mem_cons.1 hq with rfl | hq1
    · rfl
    · have := h.2.1
      rw [h1] at this
      exact absurd h2 (noDst_ok this q hq1)
    · have := h.2.1
      rw [h2] at this
      exact absurd h1 (noDst_ok this _ hr1)
    · exact chkR_one h.2.2 r hr1 q hq1 h1 h2
section
variable {P : Program} {tb : Tb} {ops : Array Oper} {rs : T V} {h : T O} {c : Nat}
theorem pick_ok {i : Nat} {o : Oper} {x : W} : ∀ {l : List RO}, pick P tb ops rs h c l = some (i, o, x) → ∃ r ∈ l, r.i = i ∧ r.o = o ∧ r.bar = false ∧
    ((x = .un ∧ wantV ops rs o = some false) ∨ (∃ v, x = .q v ∧ wantV ops rs o = some true ∧ pv P tb rs h o = some v) ∨ (∃ v ob, x = .a v c ob ∧ wantV ops rs o = some true ∧ afx tb rs c o = some ⟨v, none, some (c, ob)⟩))
  | [], hp => by simp [pick] at hp
  | r :: l, hp => by
    unfold pick at hp
    have again : pick P tb ops rs h c l = some (i, o, x) → ∃ r' ∈ r :: l, r'.i = i ∧ r'.o = o ∧ r'.bar = false ∧
        ((x = .un ∧ wantV ops rs o = some false) ∨ (∃ v, x = .q v ∧ wantV ops rs o = some true ∧ pv P tb rs h o = some v) ∨ (∃ v ob, x = .a v c ob ∧ wantV ops rs o = some true ∧ afx tb rs c o = some ⟨v, none, some (c, ob)⟩)) := fun q => by
      obtain ⟨r', h1, h2⟩ := pick_ok q
      exact ⟨r', List.mem_cons_of_mem _ h1, h2⟩
    cases hb : r.bar with
    | true => rw [hb] at hp; exact again hp
    | false =>
      rw [hb] at hp
      simp only [cond_false] at hp
      split at hp
      · rename_i hw
        cases hp
        exact ⟨r, List.mem_cons_self .., rfl, rfl, hb, .inl ⟨rfl, hw⟩⟩
      · rename_i hw
        split at hp
        · rename_i v hv
          cases hp
          exact ⟨r, List.mem_cons_self .., rfl, rfl, hb, .inr (.inl ⟨v, rfl, hw, hv⟩)⟩
        · split at hp
          · rename_i v p ob ha
            cases hpc : Nat.beq p c with
            | false => rw [hpc] at hp; cases hp
            | true =>
              rw [hpc] at hp
              obtain rfl := Nat.eq_of_beq_eq_true hpc
              cases hp
              exact ⟨r, List.mem_cons_self .., rfl, rfl, hb, .inr (.inr ⟨v, ob, rfl, hw, ha⟩)⟩
          · exact again hp
      · cases hp
def MSpec (b : Nat → Bool) (G : Gm) (h h' : T O) : Prop := ∀ j, (∃ e ∈ G, b e.1 = true ∧ ∃ v ob, e.2.2 = .a v j ob ∧ h'.get j = some ob) ∨ ((∀ e ∈ G, b e.1 = true → ∀ v ob, e.2.2 ≠ .a v j ob) ∧ h'.get j = h.get j)
theorem MSpec.skip {b : Nat → Bool} {G : Gm} {h h' : T O} {e0 : Nat × Oper × W} (m : MSpec b G h h') (h0 : b e0.1 = true → ∀ v id ob, e0.2.2 ≠ .a v id ob) : MSpec b (e0 :: G) h h' := fun j =>
  (m j).imp (fun ⟨e, e1, e2⟩ => ⟨e, List.mem_cons_of_mem _ e1, e2⟩) fun ⟨e1, e2⟩ => ⟨fun e he hbe v ob => by
    rcases List.mem_cons.1 he with rfl | he
    · exact h0 hbe _ _ _
    · exact e1 e he hbe v ob, e2⟩
theorem MSpec.put {b : Nat → Bool} {G : Gm} {h h1 h' : T O} {i id : Nat} {o : Oper} {v : V} {ob : O} (m : MSpec b G h1 h') (hb : b i = true) (t1 : ∀ j, h1.get j = if j = id then some ob else h.get j) : MSpec b ((i, o, .a v id ob) :: G) h h' := fun j => by
  rcases m j with ⟨e, e1, e2⟩ | ⟨e1, e2⟩
  · exact .inl ⟨e, List.mem_cons_of_mem _ e1, e2⟩
  · by_cases hj : j = id
    · subst hj
      exact .inl ⟨_, List.mem_cons_self .., hb, v, ob, rfl, by rw [e2, t1]; simp⟩
    · refine .inr ⟨fun e he hbe v' ob' => ?_, by rw [e2, t1, if_neg hj]⟩
      rcases List.mem_cons.1 he with rfl | he
      · intro q; injection q with q1 q2; exact hj q2.symm
      · exact e1 e he hbe v' ob'
theorem mergeK_ok {b : Nat} : ∀ {G : Gm} {h : T O} {k : T O → Gm → Bool}, mergeK b G h k = true → ∃ h' G', k h' G' = true ∧ G' = G.filter (fun e => !Nat.testBit b e.1) ∧ MSpec (Nat.testBit b) G h h'
  | [], h, k, hk => ⟨h, [], hk, rfl, fun j => .inr ⟨by simp, rfl⟩⟩
  | (i, o, x) :: G, h, k, hk => by
    unfold mergeK at hk
    cases hb : Nat.testBit b i with
    | false =>
      rw [hb] at hk
      simp only [cond_false] at hk
      obtain ⟨h', G', h1, h2, h3⟩ := mergeK_ok hk
      exact ⟨h', _, h1, by rw [h2]; simp [hb], h3.skip fun q => by dsimp only at q; rw [hb] at q; cases q⟩
    | true =>
      rw [hb] at hk
      simp only [cond_true] at hk
      cases x with
      | un =>
        obtain ⟨h', G', h1, h2, h3⟩ := mergeK_ok hk
        exact ⟨h', _, h1, by rw [h2]; simp [hb], h3.skip fun _ _ _ _ q => by cases q⟩
      | q v =>
        obtain ⟨h', G', h1, h2, h3⟩ := mergeK_ok hk
        exact ⟨h', _, h1, by rw [h2]; simp [hb], h3.skip fun _ _ _ _ q => by cases q⟩
      | a v id ob =>
        simp only at hk
        obtain ⟨h1, t1, t2⟩ := T.set_ok hk
        obtain ⟨h', G', g1, g2, g3⟩ := mergeK_ok t2
        exact ⟨h', G', g1, by rw [g2]; simp [hb], g3.put hb t1⟩
theorem allK_ok : ∀ {G : Gm} {h : T O} {k : T O → Bool}, allK G h k = true → ∃ h', k h' = true ∧ MSpec (fun _ => true) G h h'
  | [], h, k, hk => ⟨h, hk, fun j => .inr ⟨by simp, rfl⟩⟩
  | (i, o, x) :: G, h, k, hk => by
    cases x with
    | un =>
      simp only [allK] at hk
      obtain ⟨h', h1, h3⟩ := allK_ok hk
      exact ⟨h', h1, h3.skip fun _ _ _ _ q => by cases q⟩
    | q v =>
      simp only [allK] at hk
      obtain ⟨h', h1, h3⟩ := allK_ok hk
      exact ⟨h', h1, h3.skip fun _ _ _ _ q => by cases q⟩
    | a v id ob =>
      simp only [allK] at hk
      obtain ⟨h1, t1, t2⟩ := T.set_ok hk
      obtain ⟨h', g1, g3⟩ := allK_ok t2
      exact ⟨h', g1, g3.put rfl t1⟩
theorem looksK_ok : ∀ {l : List Nat} {e : T V} {k : T V → Bool}, looksK l rs e k = true → (∀ t v, e.get t = some v → rs.get t = some v) → ∃ e', k e' = true ∧ (∀ t v, e'.get t = some v → rs.get t = some v ∧ (t ∈ l ∨ e.get t = some v))
  | [], e, k, hk, he => ⟨e, hk, fun t v h => ⟨he t v h, .inr h⟩⟩
  | t :: l, e, k, hk, he => by
    unfold looksK at hk
    split at hk
    · rename_i v hv
      obtain ⟨e1, t1, t2⟩ := T.set_ok hk
      obtain ⟨e', k1, k2⟩ := looksK_ok t2 (fun s u hs => by
        rw [t1] at hs
        by_cases q : s = t
        · rw [if_pos q] at hs; cases hs; rw [q]; exact hv
        · rw [if_neg q] at hs; exact he s u hs)
      refine ⟨e', k1, fun s u hs => ⟨(k2 s u hs).1, ?_⟩⟩
      rcases (k2 s u hs).2 with q | q
      · exact .inl (List.mem_cons_of_mem _ q)
      · rw [t1] at q
        by_cases q' : s = t
        · exact .inl (by rw [q']; exact List.mem_cons_self ..)
        · rw [if_neg q'] at q; exact .inr q
    · obtain ⟨e', k1, k2⟩ := looksK_ok hk he
      exact ⟨e', k1, fun s u hs => ⟨(k2 s u hs).1, (k2 s u hs).2.imp (List.mem_cons_of_mem _) id⟩⟩
end
theorem kn_eq {a b : IntKind} (h : Nat.beq (kn a) (kn b) = true) : a = b := kn_inj h
theorem nsq_eq : ∀ {a b : List Nat}, nsq a b = true → a = b
  | [], [], _ => rfl
  | x :: a, y :: b, h => by
    simp only [nsq, Bool.and_eq_true] at h
    rw [Nat.eq_of_beq_eq_true h.1, nsq_eq h.2]
  | [], _ :: _, h => by simp [nsq] at h
  | _ :: _, [], h => by simp [nsq] at h
theorem cpq_eq {a b : Cp} (h : cpq a b = true) : a = b := by
  cases a <;> cases b <;> simp only [cpq, Bool.and_eq_true, Bool.false_eq_true] at h
  · rw [Nat.eq_of_beq_eq_true h]
  · rw [Nat.eq_of_beq_eq_true h.1, Nat.eq_of_beq_eq_true h.2]
theorem beqB {a b : Bool} (h : (bif a then b else !b) = true) : a = b := by cases a <;> cases b <;> simp_all
theorem ieq_is {a b : Int} (h : ieq a b = true) : a = b := by rw [ieq_eq] at h; exact of_decide_eq_true h
mutual
theorem V.beq_eq : ∀ {a b : V}, V.beq a b = true → a = b
  | a, b, h => by
    unfold V.beq at h
    split at h
    all_goals try simp only [Bool.and_eq_true] at h
    all_goals try (cases h; done)
    all_goals try rfl
    · rw [Nat.eq_of_beq_eq_true h]
    · rw [beqB h]
    · rw [kn_inj h.1, ieq_is h.2]
    · rw [nsq_eq h]
    · rw [Nat.eq_of_beq_eq_true h.1, Nat.eq_of_beq_eq_true h.2]
    · rw [Nat.eq_of_beq_eq_true h.1.1, Nat.eq_of_beq_eq_true h.1.2, Nat.eq_of_beq_eq_true h.2.1, cpq_eq h.2.2]
    · rw [Nat.eq_of_beq_eq_true h]
    · rw [Nat.eq_of_beq_eq_true h]
    · rw [Nat.eq_of_beq_eq_true h.1, beqL_eq h.2]
    · rw [Nat.eq_of_beq_eq_true h]
    · rw [Nat.eq_of_beq_eq_true h.1, V.beq_eq h.2]
    · rw [beqL_eq h]
    · rw [beqL_eq h]
    · rw [kn_inj h.1, ieq_is h.2]
    · rw [beqB h]
    · rw [Nat.eq_of_beq_eq_true h]
    · rw [Nat.eq_of_beq_eq_true h.1, Nat.eq_of_beq_eq_true h.2]
    · rename_i s u
      rw [← mkS_bytesOf s, ← mkS_bytesOf u, nsq_eq h]
theorem beqL_eq : ∀ {a b : List V}, beqL a b = true → a = b
  | [], [], _ => rfl
  | v :: l, w :: m, h => by
    unfold beqL at h
    rw [Bool.and_eq_true] at h
    rw [V.beq_eq h.1, beqL_eq h.2]
  | [], _ :: _, h => by simp [beqL] at h
  | _ :: _, [], h => by simp [beqL] at h
end
theorem again_ok {P : Program} {tb : Tb} {rs : T V} {h : T O} : ∀ {G : Gm}, again P tb rs h G = true → ∀ e ∈ G, ∀ v, e.2.2 = .q v → pv P tb rs h e.2.1 = some v
  | [], _, e, he, _, _ => by cases he
  | (i, o, x) :: G, hk, e, he, v, hv => by
    cases x with
    | q u =>
      simp only [again, Bool.and_eq_true] at hk
      rcases List.mem_cons.1 he with rfl | he
      · cases hv
        have h1 := hk.1
        split at h1
        · rename_i u' hu; rw [V.beq_eq h1] at hu; exact hu
        · cases h1
      · exact again_ok hk.2 e he v hv
    | un =>
      simp only [again] at hk
      rcases List.mem_cons.1 he with rfl | he
      · cases hv
      · exact again_ok hk e he v hv
    | a v' id ob =>
      simp only [again] at hk
      rcases List.mem_cons.1 he with rfl | he
      · cases hv
      · exact again_ok hk e he v hv
end Go.Proofs.YtkjhjgokaeiopaaGreatDoor.E
