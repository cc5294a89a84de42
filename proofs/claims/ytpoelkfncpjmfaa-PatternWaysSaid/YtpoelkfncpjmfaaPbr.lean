/- A tree, but for its slices; the parser answers one tree. -/
import Derived.Test.YtpoelkfncpjmfaaPbq
namespace Go.Proofs.Ytpoelkfncpjmfaa
open Go Go.RowKit

def nm4 (s : Nat → Int) : Nat → Int := fun i => if i < 4 then s i else 0
mutual
def er : MT → MT
  | .mk k s mi ma nu _ q => .mk k (nm4 s) mi ma nu nilS (erL q)
def erL : List MT → List MT
  | [] => []
  | t :: q => er t :: erL q
end
theorem er_mk {k : Int} {s : Nat → Int} {mi ma nu : Int} {v : Value} {q : List MT} : er (.mk k s mi ma nu v q) = .mk k (nm4 s) mi ma nu nilS (erL q) := by rw [er]
theorem erL_nil : erL [] = [] := by rw [erL]
theorem erL_cons {t : MT} {q : List MT} : erL (t :: q) = er t :: erL q := by rw [erL]
theorem erL_map (q : List MT) : erL q = q.map er := by
  induction q with
  | nil => rw [erL_nil]; rfl
  | cons t q ih => rw [erL_cons, ih]; rfl
theorem erL_append (a b : List MT) : erL (a ++ b) = erL a ++ erL b := by simp [erL_map]
theorem erL_len {a b : List MT} (h : erL a = erL b) : a.length = b.length := by
  have := congrArg List.length h
  simpa [erL_map] using this
theorem eq4_nm {s u : Nat → Int} (h : nm4 s = nm4 u) : eq4 s u = true := by
  have h0 := congrFun h 0
  have h1 := congrFun h 1
  have h2 := congrFun h 2
  have h3 := congrFun h 3
  simp [nm4] at h0 h1 h2 h3
  simp [eq4, h0, h1, h2, h3]
mutual
theorem sameT_er : ∀ (t u : MT), er t = er u → sameT t u = true
  | .mk k s mi ma nu v q, .mk k' s' mi' ma' nu' v' q', h => by
    rw [er_mk, er_mk] at h
    injection h with h1 h2 h3 h4 h5 _ h6
    subst h1 h3 h4 h5
    rw [sameT_mk]
    simp [eq4_nm h2, erL_len h6, sameL_er q q' h6]
theorem sameL_er : ∀ (q q' : List MT), erL q = erL q' → sameL q q' = true
  | [], [], _ => sameL_nil
  | [], t :: q, h => by rw [erL_nil, erL_cons] at h; cases h
  | t :: q, [], h => by rw [erL_nil, erL_cons] at h; cases h
  | t :: q, t' :: q', h => by
    rw [erL_cons, erL_cons] at h
    injection h with h1 h2
    rw [sameL_cons, sameT_er t t' h1, sameL_er q q' h2]; rfl
end
theorem isK_2 {ts : List Tok} {k : Nat} {q : Int} {t : Tok} (h : ts[k]? = some t) (hq : t.k ≠ q) : isK ts k q = false := by rw [isK_of h]; exact decide_eq_false hq
theorem atom_tok {ts : List Tok} {k : Nat} {g : Int} {n : MT} {k1 : Nat} {g1 : Int} {b1 : Bool} (h : RAtom ts k g n k1 g1 b1) : ∃ t, ts[k]? = some t ∧ t.k ≠ 5 ∧ t.k ≠ 6 := by
  cases h with
  | set h1 h2 => exact ⟨_, h1, by omega, by omega⟩
  | times h1 h2 => exact ⟨_, h1, by omega, by omega⟩
  | group h1 h2 h3 _ _ _ => exact ⟨_, h1, h2, h3⟩
theorem piece_tok {ts : List Tok} {k : Nat} {g : Int} {n : MT} {k1 : Nat} {g1 : Int} {b1 : Bool} (h : RPiece ts k g n k1 g1 b1) : ∃ t, ts[k]? = some t ∧ t.k ≠ 5 ∧ t.k ≠ 6 := by
  cases h with
  | plain h _ => exact atom_tok h
  | rep h _ _ => exact atom_tok h
theorem tok_eq {ts : List Tok} {k : Nat} {t u : Tok} (h : ts[k]? = some t) (h2 : ts[k]? = some u) : t = u := Option.some.inj (h.symm.trans h2)
theorem stop_no {ts : List Tok} {k : Nat} {b : Bool} {t : Tok} (hs : ts.length ≤ k ∨ b = true ∨ isK ts k 3 = true ∨ isK ts k 2 = true) (hb : b = false) (ht : ts[k]? = some t) (h3 : t.k ≠ 3) (h2 : t.k ≠ 2) : False := by
  rcases hs with h | h | h | h
  · rw [List.getElem?_eq_none h] at ht; cases ht
  · rw [hb] at h; cases h
  · exact h3 (isK_tok h ht)
  · exact h2 (isK_tok h ht)
theorem stop_no2 {ts : List Tok} {k : Nat} {b : Bool} {t : Tok} (hs : ts.length ≤ k ∨ b = true ∨ isK ts k 3 = true ∨ isK ts k 2 = true) (hb : b = false) (ht : ts[k]? = some t) (h3 : isK ts k 3 = false) (h2 : isK ts k 2 = false) : False :=
  stop_no hs hb ht (fun h => by rw [isK_of ht, decide_eq_true h] at h3; cases h3) (fun h => by rw [isK_of ht, decide_eq_true h] at h2; cases h2)
/-- The parser answers one tree, but for its slices. -/
theorem rdet {ts : List Tok} {k : Nat} {g : Int} {b : Bool} {t : MT} {k1 : Nat} {g1 : Int} {b1 : Bool} (h : RAll ts k g b t k1 g1 b1) : ∀ t' k' g' b', RAll ts k g b t' k' g' b' → er t' = er t ∧ k' = k1 ∧ g' = g1 ∧ b' = b1 := by
  refine RAll.rec (ts := ts) (motive_1 := fun k g b t k1 g1 b1 _ => ∀ t' k' g' b', RAll ts k g b t' k' g' b' → er t' = er t ∧ k' = k1 ∧ g' = g1 ∧ b' = b1)
    (motive_2 := fun k g b rows rows' k1 g1 b1 _ => ∀ r r' k' g' b', erL r = erL rows → RBars ts k g b r r' k' g' b' → erL r' = erL rows' ∧ k' = k1 ∧ g' = g1 ∧ b' = b1)
    (motive_3 := fun k g b t k1 g1 b1 _ => ∀ t' k' g' b', RRow ts k g b t' k' g' b' → er t' = er t ∧ k' = k1 ∧ g' = g1 ∧ b' = b1)
    (motive_4 := fun k g b ms ms' k1 g1 b1 _ => ∀ m m' k' g' b', erL m = erL ms → RPcs ts k g b m m' k' g' b' → erL m' = erL ms' ∧ k' = k1 ∧ g' = g1 ∧ b' = b1)
    (motive_5 := fun k g n k1 g1 b1 _ => ∀ n' k' g' b', RPiece ts k g n' k' g' b' → er n' = er n ∧ k' = k1 ∧ g' = g1 ∧ b' = b1)
    (motive_6 := fun k g n k1 g1 b1 _ => ∀ n' k' g' b', RAtom ts k g n' k' g' b' → er n' = er n ∧ k' = k1 ∧ g' = g1 ∧ b' = b1)
    (motive_7 := fun k g n k1 g1 b1 _ => ∀ n' k' g' b', RGrp ts k g n' k' g' b' → er n' = er n ∧ k' = k1 ∧ g' = g1 ∧ b' = b1) ?_ ?_ ?_ ?_ ?_ ?_ ?_ ?_ ?_ ?_ ?_ ?_ ?_ ?_ ?_ ?_ ?_ h
  · intro k g b t k1 g1 b1 r k2 g2 b2 _ _ ih1 ih2 t' k' g' b' h
    cases h with
    | one h1 h2 =>
      obtain ⟨e, rfl, rfl, rfl⟩ := ih1 _ _ _ _ h1
      obtain ⟨e2, h3⟩ := ih2 _ _ _ _ _ (by rw [erL_cons, erL_cons, e]) h2
      rw [erL_cons, erL_cons] at e2
      injection e2 with e2 _
      exact ⟨e2, h3⟩
    | many h1 h2 hne =>
      obtain ⟨e, rfl, rfl, rfl⟩ := ih1 _ _ _ _ h1
      obtain ⟨e2, h3⟩ := ih2 _ _ _ _ _ (by rw [erL_cons, erL_cons, e]) h2
      exact absurd (erL_len e2) hne
  · intro k g b t k1 g1 b1 rows v k2 g2 b2 _ _ hne ih1 ih2 t' k' g' b' h
    cases h with
    | one h1 h2 =>
      obtain ⟨e, rfl, rfl, rfl⟩ := ih1 _ _ _ _ h1
      obtain ⟨e2, h3⟩ := ih2 _ _ _ _ _ (by rw [erL_cons, erL_cons, e]) h2
      exact absurd (erL_len e2).symm hne
    | many h1 h2 _ =>
      obtain ⟨e, rfl, rfl, rfl⟩ := ih1 _ _ _ _ h1
      obtain ⟨e2, h3⟩ := ih2 _ _ _ _ _ (by rw [erL_cons, erL_cons, e]) h2
      exact ⟨by rw [er_mk, er_mk, e2], h3⟩
  · intro k g b rows hs r r' k' g' b' e h
    cases h with
    | stop _ => exact ⟨e, rfl, rfl, rfl⟩
    | more h1 _ _ => rcases hs with q | q <;> simp_all
  · intro k g t k1 g1 b1 rows rows' k2 g2 b2 h3 _ _ ih1 ih2 r r' k' g' b' e h
    cases h with
    | stop hs => rcases hs with q | q <;> simp_all
    | more _ h1 h2 =>
      obtain ⟨e1, rfl, rfl, rfl⟩ := ih1 _ _ _ _ h1
      exact ih2 _ _ _ _ _ (by rw [erL_append, erL_append, e, erL_cons, erL_cons, e1]) h2
  · intro k g b t k1 g1 b1 _ ih t' k' g' b' h
    cases h with
    | one h1 =>
      obtain ⟨e, h2⟩ := ih _ _ _ _ _ rfl h1
      rw [erL_cons, erL_cons] at e
      injection e with e _
      exact ⟨e, h2⟩
    | many h1 hne =>
      obtain ⟨e, h2⟩ := ih _ _ _ _ _ rfl h1
      exact absurd (erL_len e) hne
  · intro k g b ms v k1 g1 b1 _ hne ih t' k' g' b' h
    cases h with
    | one h1 =>
      obtain ⟨e, h2⟩ := ih _ _ _ _ _ rfl h1
      exact absurd (erL_len e).symm hne
    | many h1 _ =>
      obtain ⟨e, rfl, rfl, rfl⟩ := ih _ _ _ _ _ rfl h1
      exact ⟨by rw [er_mk, er_mk, e], rfl, rfl, by rw [erL_len e]⟩
  · intro k g b ms hs m m' k' g' b' e h
    cases h with
    | stop _ => exact ⟨e, rfl, rfl, rfl⟩
    | anchor h1 h2 _ => exact (stop_no hs rfl h1 (by omega) (by omega)).elim
    | piece h3 h2 hp _ => obtain ⟨t, ht, _⟩ := piece_tok hp; exact (stop_no2 hs rfl ht h3 h2).elim
  · intro k g t q ms ms' k2 g2 b2 ht hq _ ih m m' k' g' b' e h
    cases h with
    | stop hs => exact (stop_no hs rfl ht (by omega) (by omega)).elim
    | @anchor _ _ t' q' _ _ _ _ _ h1 h2 h3 =>
      cases tok_eq ht h1
      obtain rfl : q = q' := by omega
      exact ih _ _ _ _ _ (by rw [erL_append, erL_append, e]) h3
    | piece _ _ hp _ => obtain ⟨u, hu, h5, h6⟩ := piece_tok hp; cases tok_eq ht hu; omega
  · intro k g n k1 g1 b1 ms ms' k2 g2 b2 h3 h2 hp _ ih1 ih2 m m' k' g' b' e h
    cases h with
    | stop hs => obtain ⟨t, ht, _⟩ := piece_tok hp; exact (stop_no2 hs rfl ht h3 h2).elim
    | anchor q1 q2 _ => obtain ⟨u, hu, h5, h6⟩ := piece_tok hp; cases tok_eq q1 hu; omega
    | piece _ _ hp2 h4 =>
      obtain ⟨e1, rfl, rfl, rfl⟩ := ih1 _ _ _ _ hp2
      exact ih2 _ _ _ _ _ (by rw [erL_append, erL_append, e, erL_cons, erL_cons, e1]) h4
  · intro k g n k1 g1 b1 _ h4 ih n' k' g' b' h
    cases h with
    | plain h1 _ => exact ih _ _ _ _ h1
    | rep h1 hu hk =>
      obtain ⟨_, rfl, rfl, rfl⟩ := ih _ _ _ _ h1
      rw [isK_of hu, decide_eq_true hk] at h4; cases h4
  · intro k g n k1 g1 b1 u v _ hu hk ih n' k' g' b' h
    cases h with
    | plain h1 h4 =>
      obtain ⟨_, rfl, rfl, rfl⟩ := ih _ _ _ _ h1
      rw [isK_of hu, decide_eq_true hk] at h4; cases h4
    | rep h1 hu2 _ =>
      obtain ⟨e, rfl, rfl, rfl⟩ := ih _ _ _ _ h1
      cases tok_eq hu hu2
      exact ⟨by rw [er_mk, er_mk, erL_cons, erL_cons, e], rfl, rfl, rfl⟩
  · intro k g t ht hk n' k' g' b' h
    cases h with
    | set h1 _ => cases tok_eq ht h1; exact ⟨rfl, rfl, rfl, rfl⟩
    | times h1 h2 => cases tok_eq ht h1; omega
    | group h1 _ _ _ h2 _ => cases tok_eq ht h1; omega
  · intro k g t ht hk n' k' g' b' h
    cases h with
    | set h1 h2 => cases tok_eq ht h1; omega
    | times h1 _ => exact ⟨rfl, rfl, rfl, rfl⟩
    | group h1 _ _ h2 _ _ => cases tok_eq ht h1; omega
  · intro k g t n k1 g1 b1 ht _ _ h4 h0 _ ih n' k' g' b' h
    cases h with
    | set h1 h2 => cases tok_eq ht h1; omega
    | times h1 h2 => cases tok_eq ht h1; omega
    | group _ _ _ _ _ h2 => exact ih _ _ _ _ h2
  · intro k g h9 n' k' g' b' h
    cases h with
    | full _ => exact ⟨rfl, rfl, rfl, rfl⟩
    | gone h1 _ _ => omega
    | shut h1 _ _ => omega
  · intro k g t k1 g1 b1 v h9 _ h2 ih n' k' g' b' h
    cases h with
    | full h1 => omega
    | gone _ h1 _ =>
      obtain ⟨e, rfl, rfl, rfl⟩ := ih _ _ _ _ h1
      exact ⟨by rw [er_mk, er_mk, erL_cons, erL_cons, e], rfl, rfl, rfl⟩
    | shut _ h1 h3 =>
      obtain ⟨e, rfl, rfl, rfl⟩ := ih _ _ _ _ h1
      rw [h2] at h3; cases h3
  · intro k g t k1 g1 b1 v h9 _ h2 ih n' k' g' b' h
    cases h with
    | full h1 => omega
    | gone _ h1 h3 =>
      obtain ⟨e, rfl, rfl, rfl⟩ := ih _ _ _ _ h1
      rw [h2] at h3; cases h3
    | shut _ h1 _ =>
      obtain ⟨e, rfl, rfl, rfl⟩ := ih _ _ _ _ h1
      exact ⟨by rw [er_mk, er_mk, erL_cons, erL_cons, e], rfl, rfl, rfl⟩

end Go.Proofs.Ytpoelkfncpjmfaa
