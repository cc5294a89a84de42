/-
  The engine (26): regions that draw their order: what turns memory; all.
-/
import Derived.Test.YtkjhjgokaeiopaaGreatDoorEZ
namespace Go.Proofs.YtkjhjgokaeiopaaGreatDoor.E
open Go Go.RowKit
section
variable {P : Program} {σ : Nat → Value} {tb : Tb} {ops : Array Oper} {n : Nat} {D0 D : Nat → Prop} {C0 C : Nm} {c0 c : Nat} {h0 h : T O} {w0 w : World} {S : Nat → Bool} {m : Nat} {rs : T V} {G : Gm} {tmps : Array Value} {L : List RO}
/-- One operation of its own is done. -/
theorem RI.own {D' : Nat → Prop} {C' : Nm} {c' : Nat} {h1 h' : T O} {w' : World} {q : RO} {v : V} {u : Value} {kk : T V → Bool} {b : Nat → Bool}
    (I : RI P σ tb ops n D0 C0 c0 h0 w0 S m rs h c G D C tmps w) (hL : L = zip3 ops ops.toList (masks ops.toList []) 0 ops.toList (masks ops.toList [])) (hck : chkR ops L L = true)
    (hq : q ∈ L) (hn : Nat.testBit m q.i = false) (ha : Ahead (fun p => S p = true) q.o) (hb : ∀ i, b i = true → S i = true) (hms : MSpec b G h h1)
    (e : Ext D D' C C' c c' h1 h' w w') (hu : At D' C' fun ρ => u = v.den σ ρ ∧ Mem σ ρ h' w') (hag : (∀ e ∈ G, b e.1 = false → ∀ v, e.2.2 = .q v → pv P tb rs h' e.2.1 = some v) ∨ h' = h) (hk : putK n rs q.o.dst v kk = true) :
    ∃ rs', kk rs' = true ∧ RI P σ tb ops n D0 C0 c0 h0 w0 (fun j => S j || Nat.beq j q.i) (m ||| 2 ^ q.i) rs' h' c' (G.filter fun e => !b e.1) D' C' (putT q.o.dst u tmps) w' := by
  obtain ⟨rs', k1, k2, k3⟩ := putK_raw hk
  obtain ⟨z1, z2, z3⟩ := ro_ok hL hq
  obtain ⟨hS, m1, m2, m3⟩ := I.mem
  have hnS : S q.i = false := by
    cases hs : S q.i with
    | false => rfl
    | true => rw [I.sub _ hs] at hn; cases hn
  have hbits := mask_in (S := fun p => S p = true) (ops := ops) I.dnS z1 ha q.b z2
  have hne : ∀ {d : Nat}, q.o.dst = some d → ∀ e ∈ G, e.2.1.dst ≠ some d := fun hd => I.dst_ne hL hck hq hn hd
  have S1 : ∀ j, (S j || Nat.beq j q.i) = true ↔ S j = true ∨ j = q.i := fun j => by rw [Bool.or_eq_true, Nat.beq_eq]
  have S0 : ∀ j, (S j || Nat.beq j q.i) = false ↔ S j = false ∧ j ≠ q.i := fun j => by
    rw [Bool.or_eq_false_iff]
    refine and_congr Iff.rfl ⟨Nat.ne_of_beq_eq_false, fun x => ?_⟩
    cases hb : Nat.beq j q.i with
    | false => rfl
    | true => exact absurd (Nat.eq_of_beq_eq_true hb) x
  have fil : ∀ e', e' ∈ G.filter (fun e => !b e.1) ↔ e' ∈ G ∧ b e'.1 = false := fun e' => by simp [List.mem_filter]
  have hpne : ∀ e' ∈ G, S e'.1 = false → ∀ t ∈ looks ops e'.2.1, q.o.dst ≠ some t := by
    intro e' he' hs t ht hd
    obtain ⟨x1, x2, _⟩ := I.ent e' he'
    obtain ⟨r, r1, r2, r3⟩ := ro_of hL x1
    obtain ⟨y1, y2, _⟩ := ro_ok hL r1
    rw [r2] at y2
    have hmi : Nat.testBit m q.i = true → False := fun z => by rw [hn] at z; cases z
    rcases (chkR_ok hck r r1).2 t (by rw [r3]; exact ht) q hq hd with z | z | z
    · exact hmi (I.dnm e'.1 r.b x2 y2 _ z)
    · rw [r2] at z; have := hbits _ z; rw [hs] at this; cases this
    · rw [z, r2] at hmi; exact hmi x2
  -- what of the older heap is in the heap that is told
  have hSh1 : ∀ j o, h1.get j = some o → hS.get j = some o := by
    intro j o ho
    rcases hms j with ⟨e', q1, q2, v', ob, q3, q4⟩ | ⟨q1, q2⟩
    · rw [q4] at ho; cases ho
      rcases m1 j with ⟨e2, p1, p2, v2, ob2, p3, p4⟩ | ⟨p1, _⟩
      · obtain rfl := I.uniq e' q1 e2 p1 _ _ _ _ _ q3 p3
        rw [q3] at p3; cases p3; exact p4
      · exact absurd q3 (p1 e' q1 (hb _ q2) _ _)
    · rw [q2] at ho
      rcases m1 j with ⟨e2, p1, p2, v2, ob2, p3, p4⟩ | ⟨p1, p2⟩
      · rw [(I.ids e2 p1 _ _ _ p3).2.2] at ho; cases ho
      · rw [p2]; exact ho
  have hO1 : ∀ k, Ours C h1 k → Ours C hS k := fun k ⟨j, o, x1, x2⟩ => ⟨j, o, hSh1 j o x1, x2⟩
  have hid1 : ∀ e' ∈ G, b e'.1 = false → ∀ v id ob, e'.2.2 = .a v id ob → h1.get id = none := by
    intro e' he' hb' v id ob hv
    rcases hms id with ⟨e2, p1, p2, v2, ob2, p3, _⟩ | ⟨_, p2⟩
    · obtain rfl := I.uniq e' he' e2 p1 _ _ _ _ _ hv p3
      rw [hb'] at p2; cases p2
    · rw [p2]; exact (I.ids e' he' _ _ _ hv).2.2
  have hSe : ∀ e' ∈ G, S e'.1 = true → ∀ v id ob, e'.2.2 = .a v id ob → hS.get id = some ob := by
    intro e' he' hs v id ob hv
    rcases m1 id with ⟨e2, p1, p2, v2, ob2, p3, p4⟩ | ⟨p1, _⟩
    · obtain rfl := I.uniq e' he' e2 p1 _ _ _ _ _ hv p3
      rw [hv] at p3; cases p3; exact p4
    · exact absurd hv (p1 e' he' hs _ _)
  have hfar : ∀ e' ∈ G, b e'.1 = false → S e'.1 = true → ∀ v id ob, e'.2.2 = .a v id ob → ¬ Ours C h1 (C id).b := by
    intro e' he' hb' hs v id ob hv ⟨j, o, x1, x2⟩
    by_cases hj : j = id
    · subst hj; rw [hid1 e' he' hb' _ _ _ hv] at x1; cases x1
    · exact m2.self.apart j id o ob (hSh1 j o x1) (hSe e' he' hs _ _ _ hv) hj x2
  have hfar' : ∀ e' ∈ G, b e'.1 = false → S e'.1 = true → ∀ v id ob, e'.2.2 = .a v id ob → ¬ Ours C' h' (C id).b := by
    intro e' he' hb' hs v id ob hv hx
    rcases e.ours _ hx with z | z
    · exact hfar e' he' hb' hs _ _ _ hv z
    · have := O.holds_lt (m2.self.ok _ _ (hSe e' he' hs _ _ _ hv)); omega
  have hid' : ∀ e' ∈ G, b e'.1 = false → ∀ v id ob, e'.2.2 = .a v id ob → h'.get id = none := by
    intro e' he' hb' v id ob hv
    cases hg : h'.get id with
    | none => rfl
    | some o =>
      exfalso
      have hD' : D' id := dom (hu.imp fun _ z => z.2) hg
      obtain ⟨i1, i2, i3⟩ := I.ids e' he' _ _ _ hv
      rcases e.new id hD' with z | z
      · cases hs : S e'.1 with
        | true => exact hfar' e' he' hb' hs _ _ _ hv ⟨id, o, hg, by rw [e.agree id z]⟩
        | false =>
          obtain ⟨rsi, _, _, p3⟩ := I.pend e' he' hs
          unfold Told at p3
          rw [hv] at p3
          exact p3.2.2 z
      · omega
  obtain ⟨hS', s1⟩ := MSpec.ex (fun j => S j || Nat.beq j q.i) (G.filter fun e => !b e.1) h'
  have hcase : ∀ j o, hS'.get j = some o → (∃ e' ∈ G, b e'.1 = false ∧ S e'.1 = true ∧ ∃ v, e'.2.2 = .a v j o) ∨ h'.get j = some o := by
    intro j o ho
    rcases s1 j with ⟨e', p1, p2, v', ob, p3, p4⟩ | ⟨p1, p2⟩
    · rw [p4] at ho; cases ho
      obtain ⟨p1, p1'⟩ := (fil e').1 p1
      refine .inl ⟨e', p1, p1', ?_, v', p3⟩
      rcases (S1 _).1 p2 with z | z
      · exact z
      · have := (I.ent e' p1).2.1; rw [z, hn] at this; cases this
    · rw [p2] at ho; exact .inr ho
  have hmem' : At D' C' fun ρ => Mem σ ρ hS' w' := by
    intro ρ hρ
    have hρ' : ∀ i, D i → ρ i = C i := fun i hi => (hρ i (e.sub i hi)).trans (e.agree i hi)
    obtain ⟨_, hm'⟩ := hu ρ hρ
    have hent : ∀ e' ∈ G, b e'.1 = false → S e'.1 = true → ∀ v id ob, e'.2.2 = .a v id ob → ρ id = C id := fun e' he' hb' hs v id ob hv => hρ' id (dom m2 (hSe e' he' hs _ _ _ hv))
    have hO : ∀ i o, h'.get i = some o → Ours C' h' (ρ i).b := fun i o hi => ⟨i, o, hi, by rw [hρ i (dom (hu.imp fun _ z => z.2) hi)]⟩
    refine ⟨fun i o hi => ?_, fun i j oi oj hi hj hij => ?_⟩
    · rcases hcase i o hi with ⟨e', p1, p2, p3, v', p4⟩ | hi
      · have hold := (m2 ρ hρ').ok i o (hSe e' p1 p3 _ _ _ p4)
        refine O.holds_of (e.keeps.keep _ (O.holds_lt hold) ?_) hold
        rw [hent e' p1 p2 p3 _ _ _ p4]
        exact hfar e' p1 p2 p3 _ _ _ p4
      · exact hm'.ok i o hi
    · rcases hcase i oi hi with ⟨e1, p1, p2, p3, v1, p4⟩ | hi <;> rcases hcase j oj hj with ⟨e2, t1, t2, t3, v2, t4⟩ | hj
      · exact (m2 ρ hρ').apart i j oi oj (hSe e1 p1 p3 _ _ _ p4) (hSe e2 t1 t3 _ _ _ t4) hij
      · intro hx
        have := hO j oj hj
        rw [← hx, hent e1 p1 p2 p3 _ _ _ p4] at this
        exact hfar' e1 p1 p2 p3 _ _ _ p4 this
      · intro hx
        have := hO i oi hi
        rw [hx, hent e2 t1 t2 t3 _ _ _ t4] at this
        exact hfar' e2 t1 t2 t3 _ _ _ t4 this
      · exact hm'.apart i j oi oj hi hj hij
  refine ⟨rs', k1, ⟨fun i hi => ?_, fun i hi => ?_, fun j bb hj hjb i hi => ?_, fun j bb hj hjb i hi => ?_, fun e' he' => ?_, fun e' he' v id ob hv => ?_, fun e1 he1 e2 he2 => I.one e1 ((fil _).1 he1).1 e2 ((fil _).1 he2).1, fun e1 he1 e2 he2 => I.uniq e1 ((fil _).1 he1).1 e2 ((fil _).1 he2).1, ?_, fun e' he' hes => ?_, fun ρ hρ t v' ht hp => ?_, ?_, fun t v' ht => ?_, hS', s1, hmem', ?_⟩⟩
  · rcases (S1 i).1 hi with z | rfl
    · exact bit_or.2 (.inl (I.sub i z))
    · exact bit_or.2 (.inr rfl)
  · rcases bit_or.1 hi with z | rfl
    · rcases I.out i z with z | ⟨e', z1, z2⟩
      · exact .inl ((S1 i).2 (.inl z))
      · cases hbe : b e'.1 with
        | true => exact .inl ((S1 i).2 (.inl (by rw [← z2]; exact hb _ hbe)))
        | false => exact .inr ⟨e', (fil e').2 ⟨z1, hbe⟩, z2⟩
    · exact .inl ((S1 _).2 (.inr rfl))
  · refine (S1 i).2 (.inl ?_)
    rcases (S1 j).1 hj with z | rfl
    · exact I.dnS j bb z hjb i hi
    · rw [z2] at hjb; rw [← Option.some.inj hjb] at hi; exact hbits i hi
  · refine bit_or.2 (.inl ?_)
    rcases bit_or.1 hj with z | rfl
    · exact I.dnm j bb z hjb i hi
    · rw [z2] at hjb; rw [← Option.some.inj hjb] at hi; exact I.sub _ (hbits i hi)
  · obtain ⟨he', _⟩ := (fil e').1 he'
    obtain ⟨x1, x2, x3⟩ := I.ent e' he'
    refine ⟨x1, bit_or.2 (.inl x2), fun d hd => ⟨(x3 d hd).1, ?_⟩⟩
    rw [k3, if_neg (fun hd' => hne hd' e' he' hd)]
    exact (x3 d hd).2
  · obtain ⟨he', hb'⟩ := (fil e').1 he'
    obtain ⟨x1, x2, _⟩ := I.ids e' he' _ _ _ hv
    exact ⟨x1, Nat.lt_of_lt_of_le x2 e.le, hid' e' he' hb' _ _ _ hv⟩
  · exact (I.ord.filter hb).mono fun i hi => (S1 i).2 (.inl hi)
  · obtain ⟨he', hb'⟩ := (fil e').1 he'
    obtain ⟨hs, _⟩ := (S0 _).1 hes
    obtain ⟨rsi, p1, p2, p3⟩ := I.pend e' he' hs
    have hl : ∀ t ∈ looks ops e'.2.1, rs.get t = rs'.get t := fun t ht => by rw [k3, if_neg (hpne e' he' hs t ht)]
    have plain : Told P tb ops rsi h' D' e' → ∃ rsi, (∀ t ∈ looks ops e'.2.1, rsi.get t = rs'.get t) ∧ Lt n rsi ∧ Told P tb ops rsi h' D' e' := fun z => ⟨rsi, fun t ht => (p1 t ht).trans (hl t ht), p2, z⟩
    unfold Told at p3
    cases hx : e'.2.2 with
    | un => rw [hx] at p3; exact plain (by unfold Told; rw [hx]; exact p3)
    | q v0 =>
      rw [hx] at p3
      rcases hag with hag | rfl
      · refine ⟨rs, hl, I.ltn, ?_⟩
        unfold Told
        rw [hx]
        exact ⟨(wantV_congr p1).symm.trans p3.1, hag e' he' hb' v0 hx⟩
      · exact plain (by unfold Told; rw [hx]; exact p3)
    | a v0 id ob =>
      rw [hx] at p3
      refine plain ?_
      unfold Told
      rw [hx]
      refine ⟨p3.1, p3.2.1, fun z => ?_⟩
      rcases e.new id z with z | z
      · exact p3.2.2 z
      · have := (I.ids e' he' _ _ _ hx).2.1; omega
  · have hρ' : ∀ i, D i → ρ i = C i := fun i hi => (hρ i (e.sub i hi)).trans (e.agree i hi)
    by_cases hdt : q.o.dst = some t
    · rw [k3, if_pos hdt] at ht
      cases ht
      rw [hdt]
      have htn : t < tmps.size := by rw [I.size]; exact k2 t hdt
      simp only [putT]
      rw [Array.getElem?_setIfInBounds_self_of_lt htn, (hu ρ hρ).1]
    · rw [k3, if_neg hdt] at ht
      have := I.regs ρ hρ' t v' ht fun e' he' hes hed => by
        cases hb' : b e'.1 with
        | true => rw [hb _ hb'] at hes; cases hes
        | false =>
          refine hp e' ((fil e').2 ⟨he', hb'⟩) ((S0 _).2 ⟨hes, fun z => ?_⟩) hed
          have := (I.ent e' he').2.1; rw [z, hn] at this; cases this
      rw [← this]
      unfold putT
      cases hdd : q.o.dst with
      | none => rfl
      | some d => exact Array.getElem?_setIfInBounds_ne (fun z => hdt (by rw [hdd, z]))
  · unfold putT
    cases q.o.dst <;> simp [I.size]
  · rw [k3] at ht
    by_cases hd : q.o.dst = some t
    · exact k2 t hd
    · rw [if_neg hd] at ht; exact I.ltn t v' ht
  · refine ⟨Nat.le_trans m3.le e.le, fun i hi => e.sub i (m3.sub i hi), e.lt, fun i hi => (e.new i hi).elim (m3.new i) (fun z => .inr (Nat.le_trans m3.le z)), fun i hi => (e.agree i (m3.sub i hi)).trans (m3.agree i hi), m3.keeps.trans e.keeps fun k hk hF => (m3.ours k (hO1 k hF)).elim id (fun z => absurd hk (by omega)), fun k hk => ?_⟩
    obtain ⟨j, o, x1, x2⟩ := hk
    rcases hcase j o x1 with ⟨e', p1, p2, p3, v', p4⟩ | hj
    · have hD := dom m2 (hSe e' p1 p3 _ _ _ p4)
      rw [e.agree j hD] at x2
      exact m3.ours k ⟨j, o, hSe e' p1 p3 _ _ _ p4, x2⟩
    · rcases e.ours k ⟨j, o, hj, x2⟩ with z | z
      · exact m3.ours k (hO1 k z)
      · exact .inr (Nat.le_trans m3.keeps.size z)
end
end Go.Proofs.YtkjhjgokaeiopaaGreatDoor.E
