/- What is compiled is right: plain facts; and laws for the laws' walks. -/
import Derived.Test.YtpacnggomjepdaaPri
namespace Go.Proofs.Ytpacnggomjepdaa
open Go Go.RowKit

structure BrInv (cs : Nat → Cm) (i : Nat) (st : List Nat) (j : Nat → Int) : Prop where
  srt : st.Pairwise (· < ·)
  nm : ∀ k, k ∈ st → k < i ∧ (cs k).nm = 123
  zero : ∀ k, (i ≤ k ∨ (cs k).nm ≠ 123) → j k = 0
  mat : ∀ k, k < i → (cs k).nm = 123 → k ∉ st → (k : Int) < j k ∧ j k < i ∧ (cs (j k).toNat).nm = 125
  inj : ∀ k k', k < k' → k' < i → (cs k).nm = 123 → (cs k').nm = 123 → k ∉ st → k' ∉ st → j k ≠ j k'
  nest : ∀ k k', k < k' → k' < i → (cs k).nm = 123 → (cs k').nm = 123 → k ∉ st → (k' : Int) < j k → k' ∉ st ∧ j k' < j k
theorem brI_succ {cs : Nat → Cm} {i : Nat} {st : List Nat} {j : Nat → Int} (h : brI cs (i + 1) = some (st, j)) : ∃ st' j', brI cs i = some (st', j') ∧
    (((cs i).nm = 123 ∧ st = st' ++ [i] ∧ j = j') ∨ ((cs i).nm = 125 ∧ ∃ t, st' = st ++ [t] ∧ j = fun k => if k = t then (i : Int) else j' k) ∨ ((cs i).nm ≠ 123 ∧ (cs i).nm ≠ 125 ∧ st = st' ∧ j = j')) := by
  cases hb : brI cs i with
  | none =>
    have : brI cs (i + 1) = none := by show (match brI cs i with | none => none | some (st, j) => _) = _; rw [hb]
    rw [this] at h; cases h
  | some p =>
    obtain ⟨st', j'⟩ := p
    refine ⟨st', j', rfl, ?_⟩
    by_cases h1 : (cs i).nm = 123
    · rw [bri_open hb h1] at h; cases h; exact .inl ⟨h1, rfl, rfl⟩
    · by_cases h2 : (cs i).nm = 125
      · rcases List.eq_nil_or_concat st' with q | ⟨a, t, q⟩
        · subst q
          have : brI cs (i + 1) = none := by
            show (match brI cs i with | none => none | some (st, j) => _) = _
            rw [hb]; dsimp only; rw [if_neg h1, if_pos h2, if_pos rfl]
          rw [this] at h; cases h
        · rw [List.concat_eq_append] at q; subst q
          rw [bri_shut hb h2] at h; cases h; exact .inr (.inl ⟨h2, t, rfl, rfl⟩)
      · rw [bri_else hb h1 h2] at h; cases h; exact .inr (.inr ⟨h1, h2, rfl, rfl⟩)
theorem br_inv (cs : Nat → Cm) : ∀ (i : Nat) (st : List Nat) (j : Nat → Int), brI cs i = some (st, j) → BrInv cs i st j := by
  intro i
  induction i with
  | zero =>
    intro st j h
    simp only [brI, Option.some.injEq, Prod.mk.injEq] at h
    obtain ⟨rfl, rfl⟩ := h
    exact ⟨List.Pairwise.nil, by simp, fun _ _ => rfl, by simp, by simp, by simp⟩
  | succ i ih =>
    intro st j h
    obtain ⟨st', j', hb, hc⟩ := brI_succ h
    have I := ih st' j' hb
    rcases hc with ⟨h1, rfl, rfl⟩ | ⟨h2, t, rfl, rfl⟩ | ⟨h1, h2, rfl, rfl⟩
    · have hm : ∀ k, k ∉ st' ++ [i] → k ∉ st' ∧ k ≠ i := fun k h => by simpa using h
      refine ⟨List.pairwise_append.2 ⟨I.srt, List.pairwise_singleton _ _, fun a ha b hb => ?_⟩, fun k hk => ?_, fun k hk => I.zero k ?_, fun k hk hn hs => ?_, fun k k' hkk hk hn hn' hs hs' => ?_, fun k k' hkk hk hn hn' hs hj => ?_⟩
      · have := (I.nm a ha).1; simp at hb; omega
      · rcases List.mem_append.1 hk with q | q
        · have := I.nm k q; exact ⟨by omega, this.2⟩
        · simp at q; subst q; exact ⟨by omega, h1⟩
      · rcases hk with q | q
        · exact .inl (by omega)
        · exact .inr q
      · obtain ⟨q1, q2⟩ := hm k hs
        have := I.mat k (by omega) hn q1
        exact ⟨this.1, by omega, this.2.2⟩
      · obtain ⟨q1, q2⟩ := hm k hs
        obtain ⟨q3, q4⟩ := hm k' hs'
        exact I.inj k k' hkk (by omega) hn hn' q1 q3
      · obtain ⟨q1, q2⟩ := hm k hs
        have := I.mat k (by omega) hn q1
        have := I.nest k k' hkk (by omega) hn hn' q1 hj
        exact ⟨by simpa using ⟨this.1, by omega⟩, this.2⟩
    · have ht := I.nm t (by simp)
      have hm : ∀ k, k ∉ st → k ≠ t → k ∉ st ++ [t] := fun k h1 h2 => by simpa using ⟨h1, h2⟩
      have hlt : ∀ a, a ∈ st → a < t := fun a ha => (List.pairwise_append.1 I.srt).2.2 a ha t (by simp)
      have hne : ∀ k, (cs k).nm = 123 → k ≠ i := fun k h q => by rw [q, h2] at h; omega
      refine ⟨(List.pairwise_append.1 I.srt).1, fun k hk => ?_, fun k hk => ?_, fun k hk hn hs => ?_, fun k k' hkk hk hn hn' hs hs' => ?_, fun k k' hkk hk hn hn' hs hj => ?_⟩
      · have := I.nm k (List.mem_append_left _ hk); exact ⟨by omega, this.2⟩
      · have hkt : k ≠ t := fun q => by subst q; rcases hk with q | q; omega; exact q ht.2
        rw [if_neg hkt]
        refine I.zero k ?_
        rcases hk with q | q
        · exact .inl (by omega)
        · exact .inr q
      · by_cases e : k = t
        · rw [if_pos e]; subst e; exact ⟨by omega, by omega, by simpa using h2⟩
        · rw [if_neg e]
          have := hne k hn
          have := I.mat k (by omega) hn (hm k hs e)
          exact ⟨this.1, by omega, this.2.2⟩
      · have g1 := hne k hn
        have g2 := hne k' hn'
        by_cases e : k = t
        · rw [if_pos e, if_neg (by omega)]
          have := I.mat k' (by omega) hn' (hm k' hs' (by omega))
          omega
        · by_cases e' : k' = t
          · rw [if_neg e, if_pos e']
            have := I.mat k (by omega) hn (hm k hs e)
            omega
          · rw [if_neg e, if_neg e']
            exact I.inj k k' hkk (by omega) hn hn' (hm k hs e) (hm k' hs' e')
      · have g2 := hne k' hn'
        by_cases e : k = t
        · subst e
          rw [if_pos rfl] at hj ⊢
          have q : k' ∉ st := fun q => by have := hlt k' q; omega
          rw [if_neg (by omega)]
          exact ⟨q, (I.mat k' (by omega) hn' (hm k' q (by omega))).2.1⟩
        · rw [if_neg e] at hj ⊢
          have := I.nest k k' hkk (by omega) hn hn' (hm k hs e) hj
          have h3 : k' ∉ st ∧ k' ≠ t := by simpa using this.1
          rw [if_neg h3.2]
          exact ⟨h3.1, this.2⟩
    · have hne : ∀ k, (cs k).nm = 123 → k ≠ i := fun k h q => h1 (by rw [← q]; exact h)
      refine ⟨I.srt, fun k hk => ?_, fun k hk => I.zero k ?_, fun k hk hn hs => ?_, fun k k' hkk hk hn hn' hs hs' => ?_, fun k k' hkk hk hn hn' hs hj => ?_⟩
      · have := I.nm k hk; exact ⟨by omega, this.2⟩
      · rcases hk with q | q
        · exact .inl (by omega)
        · exact .inr q
      · have := hne k hn
        have := I.mat k (by omega) hn hs
        exact ⟨this.1, by omega, this.2.2⟩
      · have := hne k' hn'
        exact I.inj k k' hkk (by omega) hn hn' hs hs'
      · have := hne k' hn'
        exact I.nest k k' hkk (by omega) hn hn' hs hj
theorem labI_succ {cs : Nat → Cm} {i : Nat} {m : ByteArray → Option Int} (h : labI cs (i + 1) = some m) : ∃ m', labI cs i = some m' ∧ (((cs i).nm = 58 ∧ (m' (cs i).tx).isSome = false ∧ m = mset m' (cs i).tx i) ∨ ((cs i).nm ≠ 58 ∧ m = m')) := by
  cases hb : labI cs i with
  | none =>
    have : labI cs (i + 1) = none := by show (match labI cs i with | none => none | some m => _) = _; rw [hb]
    rw [this] at h; cases h
  | some m' =>
    refine ⟨m', rfl, ?_⟩
    by_cases h1 : (cs i).nm = 58
    · cases h2 : (m' (cs i).tx).isSome with
      | false => rw [lab_on hb h1 h2] at h; cases h; exact .inl ⟨h1, rfl, rfl⟩
      | true =>
        have : labI cs (i + 1) = none := by
          show (match labI cs i with | none => none | some m => _) = _
          rw [hb]; dsimp only; rw [if_pos h1, if_pos h2]
        rw [this] at h; cases h
    · rw [lab_else hb h1] at h; cases h; exact .inr ⟨h1, rfl⟩
theorem lab_fact (cs : Nat → Cm) : ∀ (n : Nat) (m : ByteArray → Option Int), labI cs n = some m → ∀ s v, m s = some v → ∃ t, t < n ∧ v = (t : Nat) ∧ (cs t).nm = 58 ∧ (cs t).tx = s := by
  intro n
  induction n with
  | zero => intro m h s v hv; simp only [labI, Option.some.injEq] at h; subst h; cases hv
  | succ n ih =>
    intro m h s v hv
    obtain ⟨m', hm', ⟨h1, _, rfl⟩ | ⟨_, rfl⟩⟩ := labI_succ h
    · unfold mset at hv
      split at hv
      · rename_i q
        exact ⟨n, by omega, by cases hv; rfl, h1, q.symm⟩
      · obtain ⟨t, h2, h3⟩ := ih m' hm' s v hv
        exact ⟨t, by omega, h3⟩
    · obtain ⟨t, h2, h3⟩ := ih _ hm' s v hv
      exact ⟨t, by omega, h3⟩
structure ProgOk (cs : Nat → Cm) (n : Nat) (J : Nat → Int) : Prop where
  shut : ∀ k, k < n → (cs k).nm = 123 → (k : Int) < J k ∧ J k < n ∧ (cs (J k).toNat).nm = 125
  goes : ∀ k, k < n → isB cs k → ((cs k).tx = ⟨#[]⟩ ∧ J k = n) ∨ ((cs k).tx ≠ ⟨#[]⟩ ∧ 0 ≤ J k ∧ J k < n ∧ (cs (J k).toNat).nm = 58 ∧ (cs (J k).toNat).tx = (cs k).tx)
  rest : ∀ k, k < n → (cs k).nm ≠ 123 → (cs k).nm ≠ 98 → (cs k).nm ≠ 116 → J k = 0
  nest : ∀ k k', k < k' → k' < n → (cs k).nm = 123 → (cs k').nm = 123 → (k' : Int) < J k → J k' < J k
  inj : ∀ k k', k < k' → k' < n → (cs k).nm = 123 → (cs k').nm = 123 → J k ≠ J k'
theorem comp_ok {cs : Nat → Cm} {n : Nat} {x : CX} (h : compR cs n x) (h0 : x.er = 0) : n ≤ 200 ∧ ∃ J, x = ⟨insOf cs J n, 0, 0, 0⟩ ∧ ProgOk cs n J := by
  rcases h with ⟨_, rfl⟩ | ⟨hn, ko, j, hb, hc⟩
  · cases h0
  refine ⟨hn, ?_⟩
  rcases hc with ⟨k, _, rfl⟩ | ⟨rfl, hc⟩
  · cases h0
  rcases hc with ⟨k, m, _, _, _, _, rfl⟩ | ⟨m, hm, hc⟩
  · cases h0
  rcases hc with ⟨k, _, _, _, rfl⟩ | ⟨hg, J, hJ, rfl⟩
  · cases h0
  have I := br_inv cs n [] j hb
  have hB : ∀ k, (cs k).nm = 123 → finJ cs m j n k = j k := fun k h => (finJ_none (cs := cs) (m := m) (j := j) (n := n) (k := k) (by omega) (by omega)).1
  refine ⟨J, rfl, fun k hk h => ?_, fun k hk h => ?_, fun k hk h1 h2 h3 => ?_, fun k k' hkk hk h1 h2 hj => ?_, fun k k' hkk hk h1 h2 => ?_⟩
  · rw [hJ k hk, hB k h]
    exact I.mat k hk h (by simp)
  · rw [hJ k hk]
    by_cases e : (cs k).tx = ⟨#[]⟩
    · exact .inl ⟨e, (finJ_end h e).1⟩
    · have hgk := hg k hk
      cases hv : m (cs k).tx with
      | none => exact absurd ⟨h, e, hv⟩ hgk
      | some v =>
        obtain ⟨t, q1, q2, q3, q4⟩ := lab_fact cs n m hm _ v hv
        rw [(finJ_to h e (by rw [hv]; rfl)).1, hv]
        subst q2
        exact .inr ⟨e, by simp, by simpa using q1, by simpa using q3, by simpa using q4⟩
  · rw [hJ k hk, (finJ_none h2 h3).1]
    exact I.zero k (.inr h1)
  · rw [hJ k (by omega), hB k h1] at hj ⊢
    rw [hJ k' hk, hB k' h2]
    exact (I.nest k k' hkk hk h1 h2 (by simp) hj).2
  · rw [hJ k (by omega), hB k h1, hJ k' hk, hB k' h2]
    exact I.inj k k' hkk hk h1 h2 (by simp) (by simp)
theorem comp_bad {cs : Nat → Cm} {n : Nat} {x : CX} (h : compR cs n x) (h0 : x.er ≠ 0) : x.l = [] := by
  rcases h with ⟨_, rfl⟩ | ⟨hn, ko, j, hb, ⟨k, _, rfl⟩ | ⟨_, ⟨k, m, _, _, _, _, rfl⟩ | ⟨m, hm, ⟨k, _, _, _, rfl⟩ | ⟨hg, J, hJ, rfl⟩⟩⟩⟩ <;> first | rfl | exact absurd rfl h0
theorem bri_none {cs : Nat → Cm} {i : Nat} (h : brI cs i = none) : ∀ d, brI cs (i + d) = none := fun d => by
  induction d with
  | zero => exact h
  | succ d ih => show (match brI cs (i + d) with | none => none | some (st, j) => _) = _; rw [ih]
theorem lab_none {cs : Nat → Cm} {i : Nat} (h : labI cs i = none) : ∀ d, labI cs (i + d) = none := fun d => by
  induction d with
  | zero => exact h
  | succ d ih => show (match labI cs (i + d) with | none => none | some m => _) = _; rw [ih]
/-- What is right is compiled. -/
theorem comp_is {cs : Nat → Cm} {n : Nat} {x : CX} {j0 : Nat → Int} {m0 : ByteArray → Option Int} (hn : n ≤ 200) (hb : brI cs n = some ([], j0)) (hm : labI cs n = some m0) (hg : ∀ k, k < n → ¬ bad cs m0 k) (h : compR cs n x) :
    ∃ J, x = ⟨insOf cs J n, 0, 0, 0⟩ ∧ (∀ k, k < n → J k = finJ cs m0 j0 n k) := by
  rcases h with ⟨h, _⟩ | ⟨_, ko, j, hbr, hc⟩
  · omega
  have hko : ko = none := by
    cases ko with
    | none => rfl
    | some k =>
      obtain ⟨hk, ⟨st, j', h1⟩ | ⟨⟨j', h1⟩, h2⟩⟩ := hbr
      · rw [hb] at h1; simp at h1
      · have h3 : brI cs (k + 1) = none := by
          show (match brI cs k with | none => none | some (st, j) => _) = _
          rw [h1]; dsimp only; rw [if_neg (by omega), if_pos h2, if_pos rfl]
        have := bri_none h3 (n - (k + 1))
        rw [show k + 1 + (n - (k + 1)) = n by omega, hb] at this
        cases this
  subst hko
  have hj : j = j0 := by
    have : brI cs n = some ([], j) := hbr
    rw [hb] at this; cases this; rfl
  subst hj
  rcases hc with ⟨k, q, _⟩ | ⟨_, hc⟩
  · cases q
  rcases hc with ⟨k, m, hk, h1, h2, h3, _⟩ | ⟨m, h1, hc⟩
  · have h4 : labI cs (k + 1) = none := by
      show (match labI cs k with | none => none | some m => _) = _
      rw [h1]; dsimp only; rw [if_pos h2, if_pos h3]
    have := lab_none h4 (n - (k + 1))
    rw [show k + 1 + (n - (k + 1)) = n by omega, hm] at this
    cases this
  · rw [hm] at h1; cases h1
    rcases hc with ⟨k, hk, hbad, _⟩ | ⟨_, J, hJ, rfl⟩
    · exact absurd hbad (hg k hk)
    · exact ⟨J, rfl, hJ⟩

end Go.Proofs.Ytpacnggomjepdaa
