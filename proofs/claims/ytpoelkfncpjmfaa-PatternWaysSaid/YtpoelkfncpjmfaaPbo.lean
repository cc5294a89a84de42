/- What is parsed is right. -/
import Derived.Test.YtpoelkfncpjmfaaPbn
namespace Go.Proofs.Ytpoelkfncpjmfaa
open Go Go.RowKit

def okT (t : Tok) : Prop := t.k = 4 → 0 ≤ t.mi ∧ t.mi ≤ 20 ∧ t.ma ≤ 20 ∧ (t.ma = -1 ∨ t.mi ≤ t.ma)
theorem tok_mem {ts : List Tok} {k : Nat} {t : Tok} (h : ts[k]? = some t) : t ∈ ts := List.mem_of_getElem? h
def kindT : MT → Int
  | .mk k _ _ _ _ _ _ => k
theorem OneK_of {t : MT} (h : kindT t = 1 ∨ kindT t = 5) : OneK [t] := by cases t; exact OneK_one.2 h
theorem rall_good {ts : List Tok} (hT : ∀ t, t ∈ ts → okT t) {k : Nat} {g : Int} {b : Bool} {t : MT} {k' : Nat} {g' : Int} {b' : Bool} (h : RAll ts k g b t k' g' b') : b' = false → b = false ∧ GoodT t g g' := by
  refine RAll.rec (ts := ts) (motive_1 := fun _ g b t _ g' b' _ => b' = false → b = false ∧ GoodT t g g')
    (motive_2 := fun _ g b rows rows' _ g' b' _ => b' = false → b = false ∧ ∃ more, rows' = rows ++ more ∧ GoodL more g g')
    (motive_3 := fun _ g b t _ g' b' _ => b' = false → b = false ∧ GoodT t g g')
    (motive_4 := fun _ g b ms ms' _ g' b' _ => b' = false → b = false ∧ ∃ more, ms' = ms ++ more ∧ GoodL more g g')
    (motive_5 := fun _ g n _ g' b' _ => b' = false → GoodT n g g')
    (motive_6 := fun _ g n _ g' b' _ => b' = false → GoodT n g g' ∧ (kindT n = 1 ∨ kindT n = 5))
    (motive_7 := fun _ g n _ g' b' _ => b' = false → GoodT n g g' ∧ (kindT n = 1 ∨ kindT n = 5)) ?_ ?_ ?_ ?_ ?_ ?_ ?_ ?_ ?_ ?_ ?_ ?_ ?_ ?_ ?_ ?_ ?_ h
  · intro k g b t k1 g1 b1 r k2 g2 b2 _ _ ih1 ih2 hb
    obtain ⟨h1, more, h2, h3⟩ := ih2 hb
    obtain ⟨h4, h5⟩ := ih1 h1
    cases more with
    | nil => cases h2; rw [GoodL_nil] at h3; subst h3; exact ⟨h4, h5⟩
    | cons x more => simp at h2
  · intro k g b t k1 g1 b1 rows v k2 g2 b2 _ _ hne ih1 ih2 hb
    obtain ⟨h1, more, h2, h3⟩ := ih2 hb
    obtain ⟨h4, h5⟩ := ih1 h1
    subst h2
    refine ⟨h4, GoodT_mk.2 (.inr (.inl ⟨.inr rfl, ?_, GoodL_cons.2 ⟨_, h5, h3⟩⟩))⟩
    simp only [List.length_append, List.length_cons, List.length_nil] at hne ⊢
    omega
  · intro k g b rows _ hb
    exact ⟨hb, [], by simp, GoodL_nil.2 rfl⟩
  · intro k g t k1 g1 b1 rows rows' k2 g2 b2 _ _ _ ih1 ih2 hb
    obtain ⟨h1, more, h2, h3⟩ := ih2 hb
    obtain ⟨h4, h5⟩ := ih1 h1
    exact ⟨rfl, t :: more, by rw [h2]; simp, GoodL_cons.2 ⟨_, h5, h3⟩⟩
  · intro k g b t k1 g1 b1 _ ih hb
    obtain ⟨h1, more, h2, h3⟩ := ih hb
    rw [List.nil_append] at h2
    subst h2
    obtain ⟨x, h4, h5⟩ := GoodL_cons.1 h3
    rw [GoodL_nil] at h5; subst h5; exact ⟨h1, h4⟩
  · intro k g b ms v k1 g1 b1 _ hne ih hb
    rw [Bool.or_eq_false_iff] at hb
    obtain ⟨h1, more, h2, h3⟩ := ih hb.1
    rw [List.nil_append] at h2
    subst h2
    have h0 : ¬ ms.length = 0 := of_decide_eq_false hb.2
    exact ⟨h1, GoodT_mk.2 (.inr (.inl ⟨.inl rfl, by omega, h3⟩))⟩
  · intro k g b ms _ hb
    exact ⟨hb, [], by simp, GoodL_nil.2 rfl⟩
  · intro k g t q ms ms' k2 g2 b2 _ hq _ ih hb
    obtain ⟨h1, more, h2, h3⟩ := ih hb
    exact ⟨rfl, .mk q s0 0 0 0 nilS [] :: more, by rw [h2]; simp, GoodL_cons.2 ⟨g, GoodT_mk.2 (.inl ⟨by omega, rfl, rfl⟩), h3⟩⟩
  · intro k g n k1 g1 b1 ms ms' k2 g2 b2 _ _ _ _ ih1 ih2 hb
    obtain ⟨h1, more, h2, h3⟩ := ih2 hb
    exact ⟨rfl, n :: more, by rw [h2]; simp, GoodL_cons.2 ⟨_, ih1 h1, h3⟩⟩
  · intro k g n k1 g1 b1 _ _ ih hb
    exact (ih hb).1
  · intro k g n k1 g1 b1 u v _ hu hk ih hb
    obtain ⟨h1, h2⟩ := ih hb
    obtain ⟨h3, h4, h5, h6⟩ := hT u (tok_mem hu) hk
    exact GoodT_mk.2 (.inr (.inr (.inr ⟨rfl, rfl, h3, h4, h5, h6, OneK_of h2, GoodL_cons.2 ⟨_, h1, GoodL_nil.2 rfl⟩⟩)))
  · intro k g t _ _ _
    exact ⟨GoodT_mk.2 (.inl ⟨.inl rfl, rfl, rfl⟩), .inl rfl⟩
  · intro k g t _ _ hb
    cases hb
  · intro k g t n k1 g1 b1 _ _ _ _ _ _ ih hb
    exact ih hb
  · intro k g _ hb
    cases hb
  · intro k g t k1 g1 b1 v _ _ _ _ hb
    cases hb
  · intro k g t k1 g1 b1 v h9 _ _ ih hb
    exact ⟨GoodT_mk.2 (.inr (.inr (.inl ⟨rfl, rfl, rfl, h9, GoodL_cons.2 ⟨_, (ih hb).2, GoodL_nil.2 rfl⟩⟩))), .inr rfl⟩
theorem numV_nonneg {l : List UInt8} (h : ∀ c, c ∈ l → isDig c) : 0 ≤ numV l := by
  have key : ∀ (l : List UInt8) (n : Int), 0 ≤ n → (∀ c, c ∈ l → isDig c) → 0 ≤ l.foldl (fun (n : Int) (c : UInt8) => 10 * n + ((c.toNat : Int) - 48)) n := by
    intro l
    induction l with
    | nil => intro n hn _; exact hn
    | cons c l ih =>
      intro n hn h
      have hc := h c (List.mem_cons_self ..)
      unfold isDig at hc
      exact ih _ (by show 0 ≤ 10 * n + ((c.toNat : Int) - 48); omega) (fun d hd => h d (List.mem_cons_of_mem _ hd))
  exact key l 0 (Int.le_refl _) h
theorem nv_neg {l : List UInt8} {k : Nat} {n : Int} (h : NumR l k n) (hn : nv k n < 0) : nv k n = -1 := by
  obtain ⟨_, _, hd, _, rfl⟩ := h
  unfold nv at *
  split at hn
  · rw [if_pos (by assumption)]
  · have := numV_nonneg hd; omega
theorem IvR_ok {cl l r : List UInt8} {t : Tok} {ok : Bool} (h : IvR cl l t r ok) : ok = true → okT t := by
  intro hok _
  cases h with
  | one h hc ho => obtain ⟨_, h1, h2, h3, h4⟩ := ho.1 hok; exact ⟨h1, h2, h3, .inr (Int.le_refl _)⟩
  | two h hc h2 ho =>
    obtain ⟨_, h1, h3, h4, h5⟩ := ho.1 hok
    refine ⟨h1, h3, h4, ?_⟩
    rcases h5 with h5 | h5
    · exact .inl (nv_neg h2 h5)
    · exact .inr h5
theorem ok_append {ts : List Tok} {t : Tok} (h : ∀ t, t ∈ ts → okT t) (ht : okT t) : ∀ x, x ∈ ts ++ [t] → okT x := fun x hx => by
  rcases List.mem_append.1 hx with q | q
  · exact h x q
  · rw [List.mem_singleton.1 q]; exact ht
theorem ok_lit (c : UInt8) : okT (litT c) := fun h => absurd h (by show ¬ (0 : Int) = 4; decide)
theorem tokB_ok {c : UInt8} {ts ts' : List Tok} {d d' : Int} (h : ∀ t, t ∈ ts → okT t) (e : tokB c ts d = (ts', d')) : ∀ t, t ∈ ts' → okT t := by
  unfold tokB at e
  split at e
  · cases e; exact ok_append h (fun q => absurd q (by show ¬ (0 : Int) = 4; decide))
  · split at e
    · cases e; exact ok_append h (ok_lit c)
    · split at e
      · cases e; exact ok_append h (fun _ => ⟨by decide, by decide, by decide, .inl rfl⟩)
      · cases e; exact ok_append h (ok_lit c)
theorem tokE_ok {c : UInt8} {ts ts' : List Tok} {d d' : Int} (h : ∀ t, t ∈ ts → okT t) (e : tokE c ts d = (ts', d')) : ∀ t, t ∈ ts' → okT t := by
  unfold tokE at e
  have hk : ∀ k : Int, k = 1 ∨ k = 2 ∨ k = 3 → okT (kT k) := fun k hk q => absurd (show k = 4 from q) (by omega)
  split at e
  · cases e; exact ok_append h (fun q => absurd q (by show ¬ (0 : Int) = 4; decide))
  · split at e
    · cases e; exact ok_append h (fun _ => ⟨by decide, by decide, by decide, .inl rfl⟩)
    · split at e
      · cases e; exact ok_append h (fun _ => ⟨by decide, by decide, by decide, .inl rfl⟩)
      · split at e
        · cases e; exact ok_append h (fun _ => ⟨by decide, by decide, by decide, .inr (by decide)⟩)
        · split at e
          · cases e; exact ok_append h (hk 1 (.inl rfl))
          · split at e
            · cases e; exact ok_append h (hk 2 (.inr (.inl rfl)))
            · split at e
              · cases e; exact ok_append h (hk 3 (.inr (.inr rfl)))
              · cases e; exact ok_append h (ok_lit c)
theorem LStep_ok {ext : Bool} {l : List UInt8} {ts : List Tok} {d : Int} {o : Option (List UInt8 × List Tok × Int)} (h : LStep ext l ts d o) (hT : ∀ t, t ∈ ts → okT t) : ∀ r ts' d', o = some (r, ts', d') → ∀ t, t ∈ ts' → okT t := by
  intro r ts' d' ho
  have hk : ∀ k : Int, k ≠ 4 → okT (kT k) := fun k hk q => absurd (show k = 4 from q) hk
  cases h with
  | esc h he =>
    cases ho
    cases he with
    | nl h => exact ok_append hT (ok_lit _)
    | known h hk => exact ok_append hT (ok_lit _)
    | opens he h => exact ok_append hT (hk 1 (by decide))
    | shuts he h => exact ok_append hT (hk 2 (by decide))
    | iv he h hs hi => exact ok_append hT (IvR_ok hi rfl)
  | esc0 h he => cases ho
  | brack h hn => cases ho; exact ok_append hT (fun q => absurd q (by show ¬ (0 : Int) = 4; decide))
  | brack0 h => cases ho
  | begins h ha => cases ho; exact ok_append hT (hk 5 (by decide))
  | ends h ha => cases ho; exact ok_append hT (hk 6 (by decide))
  | lits h he ha => cases ho; exact ok_append hT (ok_lit _)
  | iv h he hi => cases ho; exact ok_append hT (IvR_ok hi rfl)
  | iv0 h he hi => cases ho
  | plain h e =>
    cases ho
    cases ext with
    | true => exact tokE_ok hT e
    | false => exact tokB_ok hT e
theorem Lex_ok {ext : Bool} {l : List UInt8} {ts : List Tok} {d : Int} {o : Option (List Tok)} (h : Lex ext l ts d o) : (∀ t, t ∈ ts → okT t) → ∀ ts', o = some ts' → ∀ t, t ∈ ts' → okT t := by
  induction h with
  | done h => intro hT ts' q; cases q; exact hT
  | deep h => intro _ ts' q; cases q
  | fail h => intro _ ts' q; cases q
  | neg h hd => intro _ ts' q; cases q
  | next h hd ho ih => intro hT ts' q; exact ih (LStep_ok h hT _ _ _ rfl) ts' q
mutual
theorem GoodT_max : ∀ (t : MT) (g g' : Int), GoodT t g g' → g ≤ 9 → g' ≤ 9
  | .mk k s mi ma nu v kids, g, g', h, h9 => by
    rcases GoodT_mk.1 h with ⟨_, _, h⟩ | ⟨_, _, h⟩ | ⟨_, _, _, h10, h⟩ | ⟨_, _, _, _, _, _, _, h⟩
    · omega
    · exact GoodL_max kids g g' h h9
    · exact GoodL_max kids (g + 1) g' h h10
    · exact GoodL_max kids g g' h h9
theorem GoodL_max : ∀ (ts : List MT) (g g' : Int), GoodL ts g g' → g ≤ 9 → g' ≤ 9
  | [], g, g', h, h9 => by rw [GoodL_nil.1 h]; exact h9
  | t :: ts, g, g', h, h9 => by
    obtain ⟨g1, h1, h2⟩ := GoodL_cons.1 h
    exact GoodL_max ts g1 g' h2 (GoodT_max t g g1 h1 h9)
end
/-- What Parse answers is right. -/
theorem parX_good {ext : Bool} {l : List UInt8} {x : MT × Int} (h : parX ext l x) : x = (zMT, 91) ∨ (x.2 = 0 ∧ 0 < l.length ∧ l.length ≤ 200 ∧ ∃ g, GoodT x.1 0 g ∧ g ≤ 9) := by
  rcases h with ⟨h, _⟩ | ⟨h0, ts, k, g, hl, hne, h2, hr, _⟩
  · exact .inl h
  · have := (rall_good (Lex_ok hl (fun t ht => by cases ht) ts rfl) hr rfl).2
    refine .inr ⟨h0, List.length_pos_iff.2 hne, h2, g, this, ?_⟩
    exact GoodT_max _ _ _ this (by decide)

end Go.Proofs.Ytpoelkfncpjmfaa
