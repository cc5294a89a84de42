/-
  The engine (8): the last of what leaves memory alone; all together.
-/
import Derived.Test.YtkjhjgokaeiopaaGreatDoorEG
import Derived.Laws.BytesString
namespace Go.Proofs.YtkjhjgokaeiopaaGreatDoor.E
open Go Go.RowKit
section
variable {P : Program} {σ : Nat → Value} {ρ : Nm} {n : Nat} {rs : T V} {h : T O} {a : Act} {w : World} {tb : Tb}
variable {dst : Option Tmp} {ty t t' : TypeId} {pos : String} {af : Array Edge} {gd : Option (Nat × Bool)} {x y : Operand} {v : V} {o : Oper}
def denE (σ : Nat → Value) (ρ : Nm) (es : List (V × V × Nat)) : List MapEntry := es.map fun (k, v, n) => ⟨k.den σ ρ, v.den σ ρ, n⟩
theorem ba_beq (a b : ByteArray) : (a == b) = true ↔ a = b := by
  cases a with
  | mk a => cases b with
    | mk b =>
      show (a == b) = true ↔ _
      simp
theorem keyq_ok {d : TypeDesc} {k q : V} {b : Bool} (hq : keyq d k q = some b) : Instr.sameNow d (k.den σ ρ) (q.den σ ρ) = some b := by
  unfold keyq at hq
  split at hq
  · rename_i j a k b'
    cases hb : Nat.beq (kn j) (kn k) with
    | false => rw [hb] at hq; cases hq
    | true =>
      rw [hb] at hq
      obtain rfl := kn_inj hb
      cases hq
      simp only [V.den, Instr.sameNow, if_true, ieq_eq]
      congr 1
  · cases hq
    simp only [V.den, Instr.sameNow, seqB_eq]
    congr 1
    rw [Bool.eq_iff_iff]
    rw [ba_beq, beq_iff_eq]
    constructor
    · intro h; rw [← mkS_toList, ← mkS_toList, h]
    · intro h
      apply ByteArray.ext
      simp only [mkS]
      rw [h]
  · cases hq
theorem findV_ok {d : TypeDesc} {k : V} : ∀ {es : List (V × V × Nat)} {i : Nat} {r : Option (Nat × V)}, findV d k es i = some r → Instr.findNow d (k.den σ ρ) (denE σ ρ es) i = some (r.map fun (j, v) => (j, v.den σ ρ))
  | [], i, r, h => by cases h; rfl
  | (q, v, m) :: es, i, r, h => by
    unfold findV at h
    show Instr.findNow d (k.den σ ρ) (⟨q.den σ ρ, v.den σ ρ, m⟩ :: denE σ ρ es) i = _
    unfold Instr.findNow
    split at h
    · rename_i hq; cases h; simp only [keyq_ok hq]; rfl
    · rename_i hq; simp only [keyq_ok hq]; exact findV_ok h
    · cases h
theorem run_checkKey {t : TypeId} {d : TypeDesc} (hd : P.underlying t = some d) (hk : keyd d = true) (e : Bool) (v : Value) : (Instr.checkKey e 10000 t v).run P w = .ok () w := by
  show (Instr.checkKey e (9999 + 1) t v).run P w = _
  rw [Instr.checkKey]
  cases d <;> simp only [keyd, Bool.false_eq_true] at hk <;> simp [Sem.run_bind, run_underlying hd w]
theorem run_findKey {t : TypeId} {d : TypeDesc} (hd : P.underlying t = some d) {k : V} {es : List (V × V × Nat)} {r : Option (Nat × V)} (hf : findV d k es 0 = some r) :
    (Instr.findKey t (k.den σ ρ) (denE σ ρ es)).run P w = .ok (r.map fun (j, v) => (j, v.den σ ρ)) w := by
  simp [Instr.findKey, Sem.run_bind, run_underlying hd w, findV_ok (σ := σ) (ρ := ρ) hf]
theorem intsL_ok : ∀ {l : List V} {zs : List Int}, intsL l = some zs → denL σ ρ l = zs.map (Value.int .i64) ∧ zs.length = l.length ∧ ∀ z ∈ zs, -9223372036854775808 ≤ z ∧ z ≤ 9223372036854775807
  | [], zs, h => by cases h; exact ⟨rfl, rfl, by simp⟩
  | v :: l, zs, h => by
    unfold intsL at h
    split at h
    · rename_i e; cases e
    · rename_i z l' e
      cases e
      cases hr : inr z with
      | false => rw [hr] at h; cases h
      | true =>
        rw [hr] at h
        simp only [cond_true] at h
        split at h
        · rename_i ys hy
          cases h
          obtain ⟨h1, h2, h3⟩ := intsL_ok hy
          refine ⟨by simp only [denL, V.den, List.map_cons, h1], by simp [h2], fun y hm => ?_⟩
          rcases List.mem_cons.1 hm with rfl | hm
          · unfold inr at hr
            split at hr <;> rw [Nat.blt_eq] at hr
            · simp only [Int.ofNat_eq_natCast]; omega
            · simp only [Int.negSucc_eq]; omega
          · exact h3 y hm
        · cases h
    · cases h
theorem keyS_ok {n : Nat} {k : V} {zs : List Int} (h : keyS n k = some zs) : k.den σ ρ = .agg (zs.map (Value.int .i64)).toArray ∧ zs.length = n ∧ ∀ z ∈ zs, -9223372036854775808 ≤ z ∧ z ≤ 9223372036854775807 := by
  unfold keyS at h
  split at h
  · rename_i l
    cases hb : Nat.beq l.length n with
    | false => rw [hb] at h; cases h
    | true =>
      rw [hb] at h
      obtain ⟨h1, h2, h3⟩ := intsL_ok (σ := σ) (ρ := ρ) h
      exact ⟨by simp only [V.den, h1], by rw [h2, Nat.eq_of_beq_eq_true hb], h3⟩
  · cases h
theorem zsq_ok : ∀ (l m : List Int), zsq l m = decide (l = m)
  | [], [] => rfl
  | [], _ :: _ => rfl
  | _ :: _, [] => rfl
  | a :: l, b :: m => by
    simp only [zsq, ieq_eq, zsq_ok l m]
    by_cases h : a = b <;> simp [h]
theorem zs_inj {l m : List Int} (h : (Value.agg (l.map (Value.int .i64)).toArray) = .agg (m.map (Value.int .i64)).toArray) : l = m := by
  have h1 : l.map (Value.int .i64) = m.map (Value.int .i64) := by simpa using h
  exact (List.map_inj_right (fun a b q => by cases q; rfl)).1 h1
theorem noS_ok {n : Nat} {zs : List Int} : ∀ {es : List (V × V × Nat)}, noS n zs es = true → ∀ e ∈ denE σ ρ es, e.key ≠ .agg (zs.map (Value.int .i64)).toArray ∧ ∃ ys : List Int, e.key = .agg (ys.map (Value.int .i64)).toArray ∧ ys.length = n ∧ ∀ z ∈ ys, -9223372036854775808 ≤ z ∧ z ≤ 9223372036854775807
  | [], _, e, he => by simp [denE] at he
  | (q, v, b) :: es, h, e, he => by
    simp only [noS] at h
    split at h
    · rename_i ys hy
      cases hz : zsq zs ys with
      | true => rw [hz] at h; cases h
      | false =>
        rw [hz] at h
        obtain ⟨k1, k2⟩ := keyS_ok (σ := σ) (ρ := ρ) hy
        rcases List.mem_cons.1 (show e ∈ (⟨q.den σ ρ, v.den σ ρ, b⟩ : MapEntry) :: denE σ ρ es from he) with rfl | he
        · refine ⟨fun hq => ?_, ys, k1, k2⟩
          dsimp only at hq
          rw [k1] at hq
          rw [zsq_ok, decide_eq_false_iff_not] at hz
          exact hz (zs_inj hq).symm
        · exact noS_ok h e he
    · cases h
theorem findS_ok {n : Nat} {zs : List Int} : ∀ {es : List (V × V × Nat)} {i : Nat} {r : Option (Nat × V)}, findS n zs es i = some r →
    (∀ e ∈ denE σ ρ es, ∃ ys : List Int, e.key = .agg (ys.map (Value.int .i64)).toArray ∧ ys.length = n ∧ ∀ z ∈ ys, -9223372036854775808 ≤ z ∧ z ≤ 9223372036854775807) ∧
    (r = none → ∀ e ∈ denE σ ρ es, e.key ≠ .agg (zs.map (Value.int .i64)).toArray) ∧
    (∀ j v, r = some (j, v) → i ≤ j ∧ ∃ q b, es[j - i]? = some (q, v, b) ∧ q.den σ ρ = .agg (zs.map (Value.int .i64)).toArray ∧ ∀ m e, (denE σ ρ es)[m]? = some e → e.key = .agg (zs.map (Value.int .i64)).toArray → m = j - i)
  | [], i, r, h => by cases h; exact ⟨by simp [denE], by simp [denE], fun j v q => by cases q⟩
  | (q, v, b) :: es, i, r, h => by
    simp only [findS] at h
    split at h
    · rename_i ys hy
      obtain ⟨k1, k2⟩ := keyS_ok (σ := σ) (ρ := ρ) hy
      have hcons : denE σ ρ ((q, v, b) :: es) = ⟨q.den σ ρ, v.den σ ρ, b⟩ :: denE σ ρ es := rfl
      cases hz : zsq zs ys with
      | true =>
        rw [hz] at h
        simp only [cond_true] at h
        rw [zsq_ok, decide_eq_true_eq] at hz
        subst hz
        cases hn : noS n zs es with
        | false => rw [hn] at h; cases h
        | true =>
          rw [hn] at h; cases h
          have hno := noS_ok (σ := σ) (ρ := ρ) hn
          refine ⟨fun e he => ?_, fun q => (by cases q), fun j v' q' => ?_⟩
          · rw [hcons] at he
            rcases List.mem_cons.1 he with rfl | he
            · exact ⟨zs, k1, k2⟩
            · exact (hno e he).2
          · cases q'
            refine ⟨Nat.le_refl _, q, b, by simp, k1, fun m e hm hk => ?_⟩
            rw [hcons] at hm
            cases m with
            | zero => simp
            | succ m => rw [List.getElem?_cons_succ] at hm; exact absurd hk (hno e (List.mem_of_getElem? hm)).1
      | false =>
        rw [hz] at h
        rw [zsq_ok, decide_eq_false_iff_not] at hz
        obtain ⟨h1, h2, h3⟩ := findS_ok h
        have hne : q.den σ ρ ≠ .agg (zs.map (Value.int .i64)).toArray := fun hq => hz (by rw [k1] at hq; exact (zs_inj hq).symm)
        refine ⟨fun e he => ?_, fun hr e he => ?_, fun j v' hr => ?_⟩
        · rw [hcons] at he
          rcases List.mem_cons.1 he with rfl | he
          · exact ⟨ys, k1, k2⟩
          · exact h1 e he
        · rw [hcons] at he
          rcases List.mem_cons.1 he with rfl | he
          · exact hne
          · exact h2 hr e he
        · obtain ⟨g1, q', b', g2, g3, g4⟩ := h3 j v' hr
          refine ⟨by omega, q', b', ?_, g3, fun m e hm hk => ?_⟩
          · rw [show j - i = (j - (i + 1)) + 1 by omega, List.getElem?_cons_succ]; exact g2
          · rw [hcons] at hm
            cases m with
            | zero => simp at hm; subst hm; exact absurd hk hne
            | succ m => rw [List.getElem?_cons_succ] at hm; have := g4 m e hm hk; omega
    · cases h
theorem findV_at {d : TypeDesc} {k : V} : ∀ {es : List (V × V × Nat)} {i j : Nat} {v : V}, findV d k es i = some (some (j, v)) → i ≤ j ∧ ∃ q b, es[j - i]? = some (q, v, b) ∧ keyq d k q = some true
  | [], _, _, _, h => by simp [findV] at h
  | (q, u, b) :: es, i, j, v, h => by
    unfold findV at h
    split at h
    · rename_i hq; cases h; exact ⟨Nat.le_refl _, q, b, by simp, hq⟩
    · obtain ⟨h1, q', b', h2, h3⟩ := findV_at h
      refine ⟨by omega, q', b', ?_, h3⟩
      rw [show j - i = (j - (i + 1)) + 1 by omega, List.getElem?_cons_succ]; exact h2
    · cases h
theorem same_bits {d : TypeDesc} {k q : V} (h : keyq d k q = some true) : Instr.sameBits 10000 (q.den σ ρ) (k.den σ ρ) = true := by
  have hs := keyq_ok (σ := σ) (ρ := ρ) h
  unfold keyq at h
  split at h
  · rename_i j a k b
    cases hb : Nat.beq (kn j) (kn k) with
    | false => rw [hb] at h; cases h
    | true =>
      rw [hb] at h
      obtain rfl := kn_inj hb
      simp only [cond_true, Option.some.injEq, ieq_eq, decide_eq_true_eq] at h
      subst h
      simp [V.den, Instr.sameBits]
  · simp only [V.den, Instr.sameNow, Option.some.injEq] at hs
    rw [ba_beq] at hs
    simp only [V.den, Instr.sameBits]
    rw [hs, ba_beq]
  · cases h
theorem findK_ok {ik : I} {kt : TypeId} {k : V} {es : List (V × V × Nat)} {r : Option (Nat × V)} (hK : ik.ok P kt) (hf : findK ik k es = some r) :
    (∀ em, (Instr.checkKey em 10000 kt (k.den σ ρ)).run P w = .ok () w) ∧ (Instr.findKey kt (k.den σ ρ) (denE σ ρ es)).run P w = .ok (r.map fun (j, v) => (j, v.den σ ρ)) w ∧
    ∀ j v, r = some (j, v) → ∃ q b, es[j]? = some (q, v, b) ∧ (Instr.keyThatStays (q.den σ ρ) (k.den σ ρ)).run P w = .ok (k.den σ ρ) w := by
  unfold findK at hf
  cases hkd : keyd ik.d with
  | true =>
    rw [hkd] at hf
    refine ⟨fun em => run_checkKey hK.d hkd em _, run_findKey hK.d hf, fun j v hr => ?_⟩
    subst hr
    obtain ⟨_, q, b, h2, h3⟩ := findV_at hf
    exact ⟨q, b, by simpa using h2, by simp [Instr.keyThatStays, same_bits (σ := σ) (ρ := ρ) h3]⟩
  | false =>
    rw [hkd] at hf
    simp only [cond_false] at hf
    cases hkl : ik.kl with
    | false => rw [hkl] at hf; cases hf
    | true =>
      rw [hkl] at hf
      simp only [cond_true] at hf
      split at hf
      · rename_i zs hz
        obtain ⟨KL, hkey⟩ := hK.kl hkl
        obtain ⟨k1, k2, k3⟩ := keyS_ok (σ := σ) (ρ := ρ) hz
        obtain ⟨lx, hlx⟩ := hkey zs k2 k3
        obtain ⟨s1, s2, s3⟩ := findS_ok (σ := σ) (ρ := ρ) hf
        rw [k1]
        refine ⟨fun em => KL.check w em hlx, ?_, fun j v hr => ?_⟩
        · have hall : ∀ e ∈ denE σ ρ es, ∃ l, keyOf P kt e.key = some l := fun e he => by
            obtain ⟨ys, y1, y2, y3⟩ := s1 e he
            rw [y1]; exact hkey ys y2 y3
          rcases KL.find w hlx (denE σ ρ es) hall with ⟨f1, f2⟩ | ⟨j, e, f1, f2, f3⟩
          · cases r with
            | none => exact f1
            | some p =>
              obtain ⟨j, v⟩ := p
              obtain ⟨_, q, b, g2, g3, _⟩ := s3 j v rfl
              have hm : (⟨q.den σ ρ, v.den σ ρ, b⟩ : MapEntry) ∈ denE σ ρ es := by
                have := List.mem_of_getElem? g2
                exact List.mem_map.2 ⟨(q, v, b), this, rfl⟩
              exact absurd g3 (f2 _ hm)
          · cases r with
            | none => exact absurd f3 (s2 rfl e (List.mem_of_getElem? f2))
            | some p =>
              obtain ⟨j', v⟩ := p
              obtain ⟨_, q, b, g2, g3, g4⟩ := s3 j' v rfl
              have := g4 j e f2 f3
              simp only [Nat.sub_zero] at this g2
              subst this
              have he : e = ⟨q.den σ ρ, v.den σ ρ, b⟩ := by
                have : (denE σ ρ es)[j]? = some ⟨q.den σ ρ, v.den σ ρ, b⟩ := by simp only [denE, List.getElem?_map, g2]; rfl
                rw [f2] at this; exact Option.some.inj this
              rw [f1, he]; rfl
        · obtain ⟨_, q, b, g2, g3, _⟩ := s3 j v hr
          exact ⟨q, b, by simpa using g2, by rw [g3]; exact KL.stays w hlx⟩
      · cases hf
theorem lkV_ok (hT : tb.ok P) (hr : RegsOk σ ρ n rs a.tmps) (hm : Mem σ ρ h w) {ok : Bool} (hv : lkV tb rs h t x y ok = some v) :
    (execOp a.eval ⟨dst, .lookup t x y ok, ty, pos, af, gd⟩).run P w = .ok (.value (v.den σ ρ)) w := by
  unfold lkV at hv
  split at hv
  · rename_i i k m hi hy hx
    have hd := (hT _ _ hi).d
    have hx' := ov_ev hr hx
    have hy' := ov_ev hr hy
    split at hv
    · rename_i kt et hz
      rw [hz] at hd
      split at hv
      · rename_i ik ie es hk he hes
        have hK := hT _ _ hk
        have hE := hT _ _ he
        have hes' : (m.den σ ρ = .map none ∧ es = []) ∨ ∃ b cl, m.den σ ρ = .map (some b) ∧ w.heap[b]? = some (.map (denE σ ρ es).toArray cl) := by
          unfold mapAt at hes
          split at hes
          · rename_i id
            split at hes
            · rename_i cl hg
              cases hes
              have ho := hm.ok _ _ hg
              simp only [O.holds] at ho
              exact .inr ⟨_, cl, by simp [V.den], ho⟩
            · cases hes
          · cases hes; exact .inl ⟨by simp [V.den], rfl⟩
          · cases hes
        have e1 : ∀ (v' : Value × Bool) (r : Option (Nat × V)), findK ik k es = some r → (match r with | some (_, u) => (u.den σ ρ, true) | none => (ie.z, false)) = v' →
            (execOp a.eval ⟨dst, .lookup t x y ok, ty, pos, af, gd⟩).run P w = .ok (.value (if ok then .tuple #[v'.1, .bool v'.2] else v'.1)) w := by
          intro v' r hf hv'
          obtain ⟨hck, hf', _⟩ := findK_ok (P := P) (w := w) (σ := σ) (ρ := ρ) hK hf
          rcases hes' with ⟨q1, rfl⟩ | ⟨b, cl, q1, q2⟩ <;> rw [q1] at hx'
          · obtain rfl : r = none := by
              unfold findK at hf
              cases h1 : keyd ik.d <;> rw [h1] at hf
              · cases h2 : ik.kl <;> rw [h2] at hf
                · cases hf
                · simp only [cond_false, cond_true] at hf
                  split at hf
                  · cases hf; rfl
                  · cases hf
              · cases hf; rfl
            subst hv'
            simp only [Option.map_none, denE, List.map_nil] at hf'
            cases ok <;> simp [execOp, hx', hy', Instr.lookup, Sem.run_bind, run_underlying hd w, hck, hf', hE.z]
          · cases r with
            | none =>
              subst hv'
              simp only [Option.map_none] at hf'
              cases ok <;> simp [execOp, hx', hy', Instr.lookup, Sem.run_bind, run_underlying hd w, hck, hf', hE.z, getObj, Sem.run, q2]
            | some p =>
              obtain ⟨j, u⟩ := p
              subst hv'
              simp only [Option.map_some] at hf'
              cases ok <;> simp [execOp, hx', hy', Instr.lookup, Sem.run_bind, run_underlying hd w, hck, hf', getObj, Sem.run, q2]
        split at hv
        · rename_i j u hf
          cases hv
          rw [e1 _ _ hf rfl]
          cases ok <;> simp [V.den, denL]
        · rename_i hf
          cases hv
          rw [e1 _ _ hf rfl]
          cases ok <;> simp [V.den, denL, V.hd_den]
        · cases hv
      · cases hv
    · cases hv
  · cases hv
theorem u8L_ok : ∀ {l : List V} {m : List Nat}, u8L l = some m → denL σ ρ l = m.map (fun (k : Nat) => Value.int .u8 (k : Int))
  | [], m, h => by cases h; rfl
  | v :: l, m, h => by
    unfold u8L at h
    split at h
    · rename_i e; cases e
    · rename_i k l' e
      cases e
      split at h
      · rename_i m' hm; cases h; simp only [denL, V.den, List.map_cons, u8L_ok hm]; rfl
      · cases h
    · rename_i k l' e
      cases e
      split at h
      · rename_i m' hm; cases h; simp only [denL, V.den, List.map_cons, u8L_ok hm]; rfl
      · cases h
    · cases h
theorem push_all (m : List Nat) : ∀ b : ByteArray, (m.map (fun (k : Nat) => (k : Int))).foldl (fun r n => r.push (UInt8.ofNat n.toNat)) b = ⟨b.data ++ (m.map UInt8.ofNat).toArray⟩ := by
  induction m with
  | nil => intro b; simp
  | cons c l ih =>
    intro b
    simp only [List.map_cons, List.foldl_cons]
    rw [ih]
    congr 1
    simp [ByteArray.push]
theorem bysV_ok (hT : tb.ok P) (hm : Mem σ ρ h w) {e : TypeId} {id off k c : Nat} (hv : bysV tb h e id off k = some v) :
    P.underlying e = some (.int .u8) ∧ (Conv.bytesToString (.slice (some ⟨(ρ id).b, (ρ id).o + off, none⟩) k c)).run P w = .ok (v.den σ ρ) w := by
  unfold bysV at hv
  split at hv
  · rename_i ie cs he hc
    have hE := hT _ _ he
    split at hv
    · rename_i l hz hl
      split at hv
      · rename_i m hu
        cases hv
        refine ⟨by rw [← hz]; exact hE.d, ?_⟩
        obtain ⟨c1, c2, c3⟩ := cutV_some hl
        have hrow := cellsAt_row hm hc
        have hlen : l.length = k := by omega
        have hl' := run_loadCells_list (P := P) w ⟨(ρ id).b, (ρ id).o + off, none⟩ (denL σ ρ l) (fun j u hj => by
          rw [Addr.add_mid]
          refine hrow off j u ?_
          have hlt : j < (denL σ ρ l).length := (List.getElem?_eq_some_iff.1 hj).1
          rw [denL_len] at hlt
          rw [← c2, denL_map, List.map_take, List.map_drop, ← denL_map, List.getElem?_take_of_lt (by omega), List.getElem?_drop] at hj
          exact hj)
        rw [denL_len, hlen, u8L_ok hu] at hl'
        rw [run_bytesToString w _ k c (m.map fun (k : Nat) => (k : Int)) (by rw [hl']; simp), push_all]
        simp [V.den, mkS, ByteArray.empty, ByteArray.emptyWithCapacity]
        rfl
      · cases hv
    · cases hv
  · cases hv
theorem upV_ok (hT : tb.ok P) (hm : Mem σ ρ h w) {i i' : I} (hi : i.ok P t) (hi' : i'.ok P t') {id off : Nat} (hv : upV P tb h i.d i'.d id off = some v) :
    (convert t t' (.pointer (some ⟨(ρ id).b, (ρ id).o + off, none⟩))).run P w = .ok (v.den σ ρ) w := by
  have hd := hi.d
  have hd' := hi'.d
  unfold upV at hv
  split at hv
  · rename_i e cs et lo hi2 tl hz hz' hg
    rw [hz] at hd; rw [hz'] at hd'
    split at hv
    · rename_i ie he
      have hE := hT _ _ he
      cases hb : Nat.blt 0 ie.sz && Nat.blt off cs.length with
      | false => rw [hb] at hv; cases hv
      | true =>
        rw [hb] at hv; cases hv
        rw [Bool.and_eq_true, Nat.blt_eq, Nat.blt_eq] at hb
        obtain ⟨N, q1, q2, _⟩ := shape_of hm hg
        have hsz : ie.sz ≠ 0 := by omega
        simp [convert, Sem.run_bind, run_underlying hd w, run_underlying hd' w, Conv.unsafePointer, Conv.seenAt, viewAt, cellsIn, shape, Sem.run, q1, hE.sz, hsz, V.den]
        intro; omega
    · cases hv
  · rename_i u cs et lo hi2 hz hz' hg
    rw [hz] at hd; rw [hz'] at hd'
    split at hv
    · rename_i iu hu
      have hU := (hT _ _ hu).sz
      cases hb : liesAt P P.depth et (cs.length / P.cellsOf et) off u 1 with
      | false => rw [hb] at hv; cases hv
      | true =>
        rw [hb] at hv; cases hv
        obtain ⟨N, q1, q2, q3⟩ := shape_of hm hg
        obtain ⟨q3, rfl⟩ := q3 rfl
        simp only [q3, Nat.zero_add]
        simp [convert, Sem.run_bind, run_underlying hd w, run_underlying hd' w, Conv.unsafePointer, Conv.seenAt, viewAt, cellsIn, shape, Sem.run, q1, hU, V.den, variablesAt, hb, q3, program]
    · cases hv
  · cases hv
theorem cnvV_ok (hT : tb.ok P) (hr : RegsOk σ ρ n rs a.tmps) (hm : Mem σ ρ h w) (hv : cnvV P tb rs h ⟨dst, .convert t t' x, ty, pos, af, gd⟩ t t' x = some v) :
    (execOp a.eval ⟨dst, .convert t t' x, ty, pos, af, gd⟩).run P w = .ok (.value (v.den σ ρ)) w := by
  unfold cnvV at hv
  split at hv
  · rename_i id off k cp i i' hx hi hi'
    have hx' := ov_ev hr hx
    simp only [V.den] at hx'
    split at hv
    · rename_i e hz hz'
      have hd := (hT _ _ hi).d
      have hd' := (hT _ _ hi').d
      rw [hz] at hd; rw [hz'] at hd'
      obtain ⟨q1, q2⟩ := bysV_ok (c := cp.den ρ) hT hm hv
      simp [execOp, hx', convert, Sem.run_bind, run_underlying hd w, run_underlying hd' w, run_underlying q1 w, q2]
    · cases hv
  · rename_i id off i i' hx hi hi'
    have hx' := ov_ev hr hx
    simp only [V.den] at hx'
    have := upV_ok hT hm (hT _ _ hi) (hT _ _ hi') hv
    simp [execOp, hx', this]
  · rename_i s i i' hx hi hi'
    have hx' := ov_ev hr hx
    simp only [V.den] at hx'
    split at hv
    · rename_i hz hz'
      have hd := (hT _ _ hi).d
      have hd' := (hT _ _ hi').d
      rw [hz] at hd; rw [hz'] at hd'
      cases hv
      simp [execOp, hx', convert, Sem.run_bind, run_underlying hd w, run_underlying hd' w, V.den]
    · cases hv
  · exact cv_ok hr hv
/-- What is told of an operation that leaves memory alone, is so. -/
theorem pv_ok (hT : tb.ok P) (hr : RegsOk σ ρ n rs a.tmps) (hm : Mem σ ρ h w) (hv : pv P tb rs h o = some v) : (execOp a.eval o).run P w = .ok (.value (v.den σ ρ)) w := by
  obtain ⟨dst, op, ty, pos, af, gd⟩ := o
  unfold pv at hv
  dsimp only at hv
  split at hv
  · rename_i x; simp [execOp, ov_ev hr hv]
  · rename_i x; simp [execOp, ov_ev hr hv]
  · rename_i x
    split at hv
    · rename_i hx; cases hv; have := ov_ev hr hx; simp only [V.den] at this; simp [execOp, this, V.den]
    · rename_i hx; cases hv; have := ov_ev hr hx; simp only [V.den] at this; simp [execOp, this, V.den]
    · rename_i hx; cases hv; have := ov_ev hr hx; simp only [V.den] at this; simp [execOp, this, V.den]
    · cases hv
  · rename_i t x i
    split at hv
    · rename_i I id off hi hx
      split at hv
      · rename_i k z hf
        cases hv
        have hx' := ov_ok hr hx
        simp only [V.den] at hx'
        exact viaY fun N R hK => y_fieldAddr (hK _ _ hx') ((hT _ _ hi).fld _ _ _ hf) (by rw [Nat.add_assoc])
      · cases hv
    · cases hv
  · rename_i t x
    split at hv
    · rename_i i id off hi hx
      have hx' := ov_ev hr hx
      simp only [V.den] at hx'
      have := run_ldV (hT _ _ hi) hm hv
      simp [execOp, hx', Instr.loadAt, Instr.sureAddr, this]
    · cases hv
  · rename_i x i
    split at hv
    · rename_i l hx
      have hx' := ov_ok hr hx
      simp only [V.den] at hx'
      exact viaY fun N R hK => y_extract (hK _ _ hx') (by have := nth_den (σ := σ) (ρ := ρ) hv; simpa using this)
    · cases hv
  · rename_i c x y
    split at hv
    · rename_i b hc
      have hc' := ov_ev hr hc
      simp only [V.den] at hc'
      cases b
      · simp [execOp, hc', asBool, ov_ev hr hv]
      · simp [execOp, hc', asBool, ov_ev hr hv]
    · cases hv
  · rename_i t x
    split at hv
    · rename_i b hx
      cases hv
      have hx' := ov_ok hr hx
      simp only [V.den] at hx'
      exact viaY fun N R hK => by simpa [V.den] using y_not (P := P) (N := N) (S := (· = w)) (dst := dst) (ty := ty) (t := t) (pos := pos) (af := af) (gd := gd) (hK _ _ hx')
    · cases hv
  · exact binV_ok hT hr hm hv
  · rename_i xs ts
    split at hv
    · rename_i x t e1 e2
      obtain rfl : xs = #[x] := Array.toList_inj.1 e1
      obtain rfl : ts = #[t] := Array.toList_inj.1 e2
      exact lenV_ok hT hr hm hv
    · cases hv
  · exact idxV_ok hT hr hv
  · exact slV_ok hT hr hm hv
  · exact idaV_ok hT hr hv
  · exact bldV_ok hT hr hv
  · rename_i t x
    split at hv
    · rename_i i v' hi hx
      have hx' := ov_ev hr hx
      have hd := (hT _ _ hi).d
      split at hv
      · cases hv
      · rename_i d hne
        cases hv
        have : (Instr.makeInterface t (v'.den σ ρ)).run P w = .ok (.iface t (v'.den σ ρ)) w := by
          unfold Instr.makeInterface
          rw [Sem.run_bind, run_underlying hd w]
          simp only [Result.andThen_ok]
          rfl
        simp [execOp, hx', this, V.den]
    · cases hv
  · rename_i f first xs
    split at hv
    · rename_i vs e1 hx
      obtain rfl : first = #[] := Array.toList_inj.1 e1
      cases hv
      have := ovL_ok hr hx
      have e : xs.map a.eval = (denL σ ρ vs).toArray := Array.toList_inj.1 (by simpa using this)
      simp [execOp, Instr.makeFunc, e, V.den]
    · cases hv
  · exact lkV_ok hT hr hm hv
  · exact cnvV_ok hT hr hm hv
  · rename_i t x
    unfold stV at hv
    split at hv
    · rename_i i id off k cp hi hx
      have hx' := ov_ev hr hx
      simp only [V.den] at hx'
      have hd := (hT _ _ hi).d
      split at hv
      · rename_i m e hz
        rw [hz] at hd
        cases hb : Nat.ble m k with
        | false => rw [hb] at hv; cases hv
        | true =>
          rw [hb] at hv; cases hv
          have := Nat.le_of_ble_eq_true hb
          simp [execOp, hx', Instr.arrayAt, Sem.run_bind, run_underlying hd w, V.den, Nat.not_lt.2 this]
      · cases hv
    · cases hv
  · exact cv_ok hr hv
end
end Go.Proofs.YtkjhjgokaeiopaaGreatDoor.E
