/- The program's answer is the document's. -/
import Derived.Test.YtpacnggomjepdaaPrv
namespace Go.Proofs.Ytpacnggomjepdaa
open Go Go.RowKit

theorem op_br (cs : Nat → Cm) : ∀ (k : Nat) (st : List Nat) (j : Nat → Int), brI cs k = some (st, j) → opI cs k = some (st.length : Int) := by
  intro k
  induction k with
  | zero => intro st j h; simp only [brI, Option.some.injEq, Prod.mk.injEq] at h; rw [← h.1]; rfl
  | succ k ih =>
    intro st j h
    obtain ⟨st', j', hb, hc⟩ := brI_succ h
    have hi := ih st' j' hb
    rcases hc with ⟨h1, rfl, rfl⟩ | ⟨h2, t, rfl, rfl⟩ | ⟨h1, h2, rfl, rfl⟩
    · have e : opS (cs k).nm (st'.length : Int) = ((st' ++ [k]).length : Nat) := by unfold opS; rw [if_pos h1, List.length_append, List.length_singleton]; rfl
      rw [← e]; exact opI_on hi (by rw [e]; omega)
    · have e : opS (cs k).nm ((st ++ [t]).length : Int) = (st.length : Nat) := by
        unfold opS; rw [if_neg (by omega), if_pos h2, List.length_append, List.length_singleton]; omega
      rw [← e]; exact opI_on hi (by rw [e]; omega)
    · have e : opS (cs k).nm (st.length : Int) = (st.length : Nat) := by unfold opS; rw [if_neg h1, if_neg h2]
      have := opI_on hi (by rw [e]; omega)
      rwa [e] at this
theorem bri_pre {cs : Nat → Cm} {n k : Nat} {x : List Nat × (Nat → Int)} (h : brI cs n = some x) (hk : k ≤ n) : ∃ y, brI cs k = some y := by
  cases hq : brI cs k with
  | some y => exact ⟨y, rfl⟩
  | none =>
    have := bri_none hq (n - k)
    rw [show k + (n - k) = n by omega, h] at this; cases this
theorem no_f1 {cs : Nat → Cm} {n : Nat} {x : List Nat × (Nat → Int)} (h : brI cs n = some x) : ∀ k, k < n → ¬ f1 cs k := fun k hk q => by
  obtain ⟨⟨st, j⟩, hy⟩ := bri_pre h (k := k) (by omega)
  obtain ⟨⟨st2, j2⟩, hy2⟩ := bri_pre h (k := k + 1) (by omega)
  obtain ⟨st', j', hb, hc⟩ := brI_succ hy2
  have q1 := q.1
  have q2 := q.2
  have ho := op_br cs k st' j' hb
  rw [opR, ho] at q2
  rcases hc with ⟨h1, _⟩ | ⟨_, t, rfl, _⟩ | ⟨_, h2, _⟩
  · omega
  · rw [Option.getD_some, List.length_append, List.length_singleton] at q2; omega
  · exact h2 q1
theorem is_f1 {cs : Nat → Cm} {k : Nat} {j : Nat → Int} (h : brI cs k = some ([], j)) (hn : (cs k).nm = 125) : f1 cs k := ⟨hn, by rw [opR, op_br cs k [] j h]; rfl⟩
theorem clos_inv {cs : Nat → Cm} {n i : Nat} (hn : (cs i).nm = 123) : ∀ (d : Nat) (st : List Nat) (j : Nat → Int), i + 1 + d ≤ n → brI cs (i + 1 + d) = some (st, j) →
    (∀ pre post, st = pre ++ i :: post → closR cs n i = clF cs (n - (i + 1 + d)) (i + 1 + d) post.length) ∧ (i ∉ st → closR cs n i = j i) := by
  intro d
  induction d with
  | zero =>
    intro st j hd h
    have I := br_inv cs _ st j h
    obtain ⟨st', j', hb, hc⟩ := brI_succ h
    obtain ⟨rfl, rfl⟩ : st = st' ++ [i] ∧ j = j' := by
      rcases hc with ⟨_, q⟩ | ⟨h2, _⟩ | ⟨h2, _⟩
      · exact q
      · omega
      · exact absurd hn h2
    refine ⟨fun pre post hp => ?_, fun h => absurd (by simp) h⟩
    have hpost : post = [] := List.eq_nil_iff_forall_not_mem.2 fun q hq => by
      have h1 := (I.nm q (by rw [hp]; simp [hq])).1
      have h2 := I.srt
      rw [hp] at h2
      have := (List.pairwise_cons.1 (List.pairwise_append.1 h2).2.1).1 q hq
      omega
    subst hpost
    rfl
  | succ d ih =>
    intro st j hd h
    obtain ⟨st', j', hb, hc⟩ := brI_succ (i := i + 1 + d) h
    have I := br_inv cs _ st' j' hb
    obtain ⟨g1, g2⟩ := ih st' j' (by omega) hb
    have hstep : ∀ o, clF cs (n - (i + 1 + d)) (i + 1 + d) o = _ := fun o => clF_step cs n (i + 1 + d) o (by omega)
    rcases hc with ⟨h1, rfl, rfl⟩ | ⟨h2, t, rfl, rfl⟩ | ⟨h1, h2, rfl, rfl⟩
    · refine ⟨fun pre post hp => ?_, fun hi => g2 fun q => hi (List.mem_append_left _ q)⟩
      rcases List.eq_nil_or_concat post with q | ⟨p', z, q⟩
      · subst q
        have := List.append_inj_right' hp rfl
        simp at this; omega
      · rw [List.concat_eq_append] at q
        subst q
        have hp' : st' ++ [i + 1 + d] = (pre ++ i :: p') ++ [z] := by rw [hp]; simp
        obtain ⟨e1, e2⟩ := List.append_inj' hp' rfl
        rw [g1 pre p' e1, hstep, if_pos h1, List.length_append, List.length_singleton]
        rfl
    · refine ⟨fun pre post hp => ?_, fun hi => ?_⟩
      · rw [g1 pre (post ++ [t]) (by rw [hp]; simp), hstep, if_neg (by omega), if_pos h2, List.length_append, List.length_singleton, if_neg (by omega)]
        rw [show (((post.length + 1 : Nat) : Int) - 1) = (post.length : Int) by omega]
        rfl
      · by_cases e : i = t
        · subst e
          rw [g1 st [] rfl, hstep, if_neg (by omega), if_pos h2, if_pos (show (([] : List Nat).length : Int) = 0 from rfl)]
          exact (if_pos rfl).symm
        · show closR cs n i = if i = t then _ else j' i
          rw [if_neg e]
          exact g2 fun q => (List.mem_append.1 q).elim hi fun q => e (List.mem_singleton.1 q)
    · refine ⟨fun pre post hp => ?_, fun hi => g2 hi⟩
      rw [g1 pre post hp, hstep, if_neg h1, if_neg h2]
      rfl
theorem clos_open {cs : Nat → Cm} {n i : Nat} {st : List Nat} {j : Nat → Int} (h : brI cs n = some (st, j)) (hi : i ∈ st) : closR cs n i = -1 := by
  have I := br_inv cs n st j h
  obtain ⟨h1, h2⟩ := I.nm i hi
  obtain ⟨pre, post, hp⟩ := List.append_of_mem hi
  have := (clos_inv (n := n) h2 (n - (i + 1)) st j (by omega) (by rw [show i + 1 + (n - (i + 1)) = n by omega]; exact h)).1 pre post hp
  rw [this, show n - (i + 1 + (n - (i + 1))) = 0 by omega]; rfl
theorem clos_shut {cs : Nat → Cm} {n i : Nat} {st : List Nat} {j : Nat → Int} (h : brI cs n = some (st, j)) (hn : (cs i).nm = 123) (hin : i < n) (hi : i ∉ st) : closR cs n i = j i ∧ 0 ≤ j i := by
  have I := br_inv cs n st j h
  have := (clos_inv (n := n) hn (n - (i + 1)) st j (by omega) (by rw [show i + 1 + (n - (i + 1)) = n by omega]; exact h)).2 hi
  exact ⟨this, by have := (I.mat i hin hn hi).1; omega⟩
/-! labels -/
theorem laF_skip (cs : Nat → Cm) (s : ByteArray) (n : Nat) : ∀ k, k ≤ n → (∀ t, t < k → ¬ ((cs t).nm = 58 ∧ (cs t).tx = s)) → labF cs n s = laF cs s (n - k) k := by
  intro k
  induction k with
  | zero => intro _ _; rfl
  | succ k ih =>
    intro hk h
    rw [ih (by omega) (fun t ht => h t (by omega)), laF_step cs s n k (by omega), if_neg (h k (by omega))]
def labK (cs : Nat → Cm) (n k : Nat) (m : ByteArray → Option Int) : Prop := ∀ s, (∀ v, m s = some v → labF cs n s = v ∧ 0 ≤ v ∧ v < k) ∧ (m s = none → ∀ t, t < k → ¬ ((cs t).nm = 58 ∧ (cs t).tx = s))
theorem lab_inv (cs : Nat → Cm) (n : Nat) : ∀ (k : Nat) (m : ByteArray → Option Int), k ≤ n → labI cs k = some m → labK cs n k m := by
  intro k
  induction k with
  | zero => intro m _ h; simp only [labI, Option.some.injEq] at h; subst h; exact fun s => ⟨fun v h => (by cases h), fun _ t h => absurd h (Nat.not_lt_zero t)⟩
  | succ k ih =>
    intro m hk h
    obtain ⟨m', hm', hc⟩ := labI_succ h
    have I := ih m' (by omega) hm'
    rcases hc with ⟨h1, h2, rfl⟩ | ⟨h1, rfl⟩
    · intro s
      unfold mset
      by_cases e : s = (cs k).tx
      · subst e
        rw [if_pos rfl]
        refine ⟨fun v hv => ?_, fun h => (by cases h)⟩
        cases hv
        have hno : m' (cs k).tx = none := by cases hq : m' (cs k).tx with | none => rfl | some _ => rw [hq] at h2; cases h2
        rw [laF_skip cs _ n k (by omega) ((I _).2 hno), laF_step cs _ n k (by omega), if_pos ⟨h1, rfl⟩]
        exact ⟨rfl, by omega, by omega⟩
      · rw [if_neg e]
        refine ⟨fun v hv => ?_, fun hv t ht => ?_⟩
        · have := (I s).1 v hv; exact ⟨this.1, this.2.1, by omega⟩
        · by_cases ek : t = k
          · subst ek; exact fun q => e q.2.symm
          · exact (I s).2 hv t (by omega)
    · intro s
      refine ⟨fun v hv => ?_, fun hv t ht => ?_⟩
      · have := (I s).1 v hv; exact ⟨this.1, this.2.1, by omega⟩
      · by_cases ek : t = k
        · subst ek; exact fun q => h1 q.1
        · exact (I s).2 hv t (by omega)
theorem lab_pre {cs : Nat → Cm} {n k : Nat} {m : ByteArray → Option Int} (h : labI cs n = some m) (hk : k ≤ n) : ∃ y, labI cs k = some y := by
  cases hq : labI cs k with
  | some y => exact ⟨y, rfl⟩
  | none =>
    have := lab_none hq (n - k)
    rw [show k + (n - k) = n by omega, h] at this; cases this
theorem no_f3 {cs : Nat → Cm} {n i : Nat} {m : ByteArray → Option Int} (h : labI cs i = some m) (hi : i ≤ n) : ∀ k, k < i → ¬ f3 cs n k := fun k hk q => by
  obtain ⟨m1, h1⟩ := lab_pre h (k := k + 1) (by omega)
  obtain ⟨m', hm', hc⟩ := labI_succ h1
  have I := lab_inv cs n k m' (by omega) hm'
  rcases hc with ⟨h2, h3, _⟩ | ⟨h2, _⟩
  · have hno : m' (cs k).tx = none := by cases hq : m' (cs k).tx with | none => rfl | some _ => rw [hq] at h3; cases h3
    have q2 := q.2
    rw [laF_skip cs _ n k (by omega) ((I _).2 hno), laF_step cs _ n k (by omega), if_pos ⟨h2, rfl⟩] at q2
    omega
  · exact h2 q.1
theorem lab_neg {cs : Nat → Cm} {n : Nat} {m : ByteArray → Option Int} (h : labI cs n = some m) (s : ByteArray) : labF cs n s < 0 ↔ m s = none := by
  have I := lab_inv cs n n m (Nat.le_refl _) h s
  cases hq : m s with
  | none => rw [laF_skip cs s n n (Nat.le_refl _) (I.2 hq), Nat.sub_self]; simp [laF]
  | some v => have := I.1 v hq; simp only [reduceCtorEq, iff_false]; omega
theorem f4_bad {cs : Nat → Cm} {n : Nat} {m : ByteArray → Option Int} (h : labI cs n = some m) (k : Nat) : f4 cs n k ↔ bad cs m k := by
  unfold f4 bad
  rw [lab_neg h]
theorem min_one {p : Nat → Prop} {a b : Nat} (ha : p a) (hb : p b) (ha' : ∀ k, k < a → ¬ p k) (hb' : ∀ k, k < b → ¬ p k) : a = b := by
  rcases Nat.lt_trichotomy a b with h | h | h
  · exact absurd ha (hb' a h)
  · exact h
  · exact absurd hb (ha' b h)
/-- What program.Compile answers is what the document does. -/
theorem comp_ref {cs : Nat → Cm} {n : Nat} {x y : CX} (hx : compR cs n x) (hy : refR cs n y) : x = y := by
  obtain ⟨fo, er, hf, hy⟩ := hy
  rcases hx with ⟨hn, rfl⟩ | ⟨hn, ko, j, hbr, hc⟩
  · rcases hf with ⟨_, hf⟩ | ⟨h, _⟩
    · cases hf
      rcases hy with ⟨h, _⟩ | ⟨_, ⟨_, rfl⟩ | ⟨k, h, _⟩⟩
      · cases h
      · rfl
      · cases h
    · omega
  rcases hf with ⟨h, _⟩ | ⟨_, hf⟩
  · omega
  -- an error at k
  have fin : ∀ (k : Nat) (e : Int), e ≠ 0 → (fo, er) = (some k, e) → y = ⟨[], (cs k).re, (cs k).im, e⟩ := by
    intro k e he h
    cases h
    rcases hy with ⟨h, _⟩ | ⟨_, ⟨h, _⟩ | ⟨k', h, rfl⟩⟩
    · exact absurd h he
    · cases h
    · cases h; rfl
  rcases hc with ⟨k, rfl, rfl⟩ | ⟨rfl, hc⟩
  · obtain ⟨hk, ⟨st, j', h1⟩ | ⟨⟨j', h1⟩, h2⟩⟩ := hbr
    · have n1 := no_f1 h1
      have I := br_inv cs n _ _ h1
      have hk2 : f2 cs n k := ⟨(I.nm k (by simp)).2, by rw [clos_open h1 (by simp)]; decide⟩
      have hk3 : ∀ k', k < k' → k' < n → ¬ f2 cs n k' := fun k' hlt hn' q => by
        have hns : k' ∉ st ++ [k] := fun hm => by
          rcases List.mem_append.1 hm with hm | hm
          · have := (List.pairwise_append.1 I.srt).2.2 k' hm k (by simp); omega
          · have := List.mem_singleton.1 hm; omega
        have := clos_shut h1 q.1 hn' hns
        have := q.2
        omega
      rcases hf with ⟨k2, hk2', q, _⟩ | ⟨_, hf⟩
      · exact absurd q (n1 k2 hk2')
      rcases hf with ⟨k2, hk2', q, q', he⟩ | ⟨hf, _⟩
      · have : k2 = k := by
          rcases Nat.lt_trichotomy k2 k with h | h | h
          · exact absurd hk2 (q' k h hk)
          · exact h
          · exact absurd q (hk3 k2 h hk2')
        subst this
        exact (fin k2 142 (by decide) he).symm
      · exact absurd hk2 (hf k hk)
    · have hk1 := is_f1 h1 h2
      rcases hf with ⟨k2, hk2', q, q', he⟩ | ⟨hf, _⟩
      · have : k2 = k := min_one q hk1 q' (no_f1 h1)
        subst this
        exact (fin k2 142 (by decide) he).symm
      · exact absurd hk1 (hf k hk)
  · have hb : brI cs n = some ([], j) := hbr
    have n1 := no_f1 hb
    have n2 : ∀ k, k < n → ¬ f2 cs n k := fun k hk q => by have := clos_shut hb q.1 hk (by simp); have := q.2; omega
    rcases hf with ⟨k2, hk2', q, _⟩ | ⟨_, hf⟩
    · exact absurd q (n1 k2 hk2')
    rcases hf with ⟨k2, hk2', q, _⟩ | ⟨_, hf⟩
    · exact absurd q (n2 k2 hk2')
    rcases hc with ⟨k, m, hk, h1, h2, h3, rfl⟩ | ⟨m, hm, hc⟩
    · have hk3 : f3 cs n k := ⟨h2, by
        have I := lab_inv cs n k m (by omega) h1 (cs k).tx
        obtain ⟨v, hv⟩ := Option.isSome_iff_exists.1 h3
        have := I.1 v hv; omega⟩
      rcases hf with ⟨k2, hk2', q, q', he⟩ | ⟨hf, _⟩
      · have : k2 = k := min_one q hk3 q' (no_f3 h1 (by omega))
        subst this
        exact (fin k2 141 (by decide) he).symm
      · exact absurd hk3 (hf k hk)
    · have n3 := no_f3 (n := n) hm (Nat.le_refl _)
      rcases hf with ⟨k2, hk2', q, _⟩ | ⟨_, hf⟩
      · exact absurd q (n3 k2 hk2')
      rcases hc with ⟨k, hk, hbad, hmin, rfl⟩ | ⟨hg, J, hJ, rfl⟩
      · rcases hf with ⟨k2, hk2', q, q', he⟩ | ⟨hf, _⟩
        · have : k2 = k := min_one q ((f4_bad hm k).2 hbad) q' (fun k' h q => hmin k' h ((f4_bad hm k').1 q))
          subst this
          exact (fin k2 141 (by decide) he).symm
        · exact absurd ((f4_bad hm k).2 hbad) (hf k hk)
      · rcases hf with ⟨k2, hk2', q, _⟩ | ⟨_, he⟩
        · exact absurd ((f4_bad hm k2).1 q) (hg k2 hk2')
        · cases he
          rcases hy with ⟨_, rfl⟩ | ⟨h, _⟩
          · have : insOf cs J n = insOf cs (refJ cs n) n := ins_congr fun k hk => by
              rw [hJ k hk]
              have I := br_inv cs n _ _ hb
              by_cases e1 : (cs k).nm = 123
              · rw [← refJ_a e1, (finJ_none (by omega) (by omega)).1, (clos_shut hb e1 hk (by simp)).1]
              · by_cases e2 : isB cs k
                · by_cases e3 : (cs k).tx = ⟨#[]⟩
                  · rw [← refJ_b e2 e3, (finJ_end e2 e3).1]
                  · rw [← refJ_c e2 e3]
                    cases hv : m (cs k).tx with
                    | none => exact absurd ⟨e2, e3, hv⟩ (hg k hk)
                    | some v => rw [(finJ_to e2 e3 (by rw [hv]; rfl)).1, hv, ((lab_inv cs n n m (Nat.le_refl _) hm _).1 v hv).1]; rfl
                · have e4 : (cs k).nm ≠ 98 := fun q => e2 (.inl q)
                  have e5 : (cs k).nm ≠ 116 := fun q => e2 (.inr q)
                  rw [← refJ_d e1 e4 e5, (finJ_none e4 e5).1, I.zero k (.inr e1)]
            rw [this]
          · exact absurd rfl h

end Go.Proofs.Ytpacnggomjepdaa
