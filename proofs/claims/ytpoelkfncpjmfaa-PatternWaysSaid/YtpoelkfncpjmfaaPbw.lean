/- A tree of letters, groups, repeats: what is written of it is parsed to it. -/
import Derived.Test.YtpoelkfncpjmfaaPbv
namespace Go.Proofs.Ytpoelkfncpjmfaa
open Go Go.RowKit

mutual
def okP : PT → Prop
  | .one c => plainC c
  | .grp _ ps => okPs ps
  | .rep mi ma p => 0 ≤ mi ∧ mi ≤ 20 ∧ ma ≤ 20 ∧ (ma = -1 ∨ mi ≤ ma) ∧ p.atom ∧ okP p
def okPs : List PT → Prop
  | [] => True
  | p :: ps => okP p ∧ okPs ps
end
theorem okP_one {c : UInt8} : okP (.one c) ↔ plainC c := by rw [okP]
theorem okP_grp {n : Int} {ps : List PT} : okP (.grp n ps) ↔ okPs ps := by rw [okP]
theorem okP_rep {mi ma : Int} {p : PT} : okP (.rep mi ma p) ↔ 0 ≤ mi ∧ mi ≤ 20 ∧ ma ≤ 20 ∧ (ma = -1 ∨ mi ≤ ma) ∧ p.atom ∧ okP p := by rw [okP]
theorem okPs_cons {p : PT} {ps : List PT} : okPs (p :: ps) ↔ okP p ∧ okPs ps := by rw [okPs]
theorem okPs_nil : okPs [] := by rw [okPs]; trivial
theorem er_inv {t : MT} {k : Int} {s : Nat → Int} {mi ma nu : Int} {v : Value} {q : List MT} (h : er t = er (.mk k s mi ma nu v q)) : ∃ s' v' q', t = .mk k s' mi ma nu v' q' ∧ nm4 s' = nm4 s ∧ erL q' = erL q := by
  obtain ⟨k', s', mi', ma', nu', v', q'⟩ := t
  rw [er_mk, er_mk] at h
  injection h with h1 h2 h3 h4 h5 _ h6
  subst h1 h3 h4 h5
  exact ⟨s', v', q', rfl, h2, h6⟩
theorem erL_one {q : List MT} {t : MT} (h : erL q = erL [t]) : ∃ u, q = [u] ∧ er u = er t := by
  obtain ⟨u, rfl⟩ := List.length_eq_one_iff.1 (erL_len h)
  rw [erL_cons, erL_cons] at h
  injection h with h _
  exact ⟨u, rfl, h⟩
theorem tk_last : ∀ (p : PT), p.atom → ∃ r t, tkP p = r ++ [t] ∧ (t.k = 0 ∨ t.k = 2)
  | .one c, _ => ⟨[], litT c, by rw [tkP_one]; rfl, .inl rfl⟩
  | .grp n ps, _ => ⟨kT 1 :: tkL ps, kT 2, by rw [tkP_grp]; rfl, .inr rfl⟩
  | .rep _ _ _, h => h.elim
/-- What is written of a piece's tree: its tokens are the piece's. -/
def Says (x : Bool) (l : List UInt8) (tk : List Tok) : Prop := ∀ (r : List UInt8) (ts : List Tok) (d : Int) (o : Option (List Tok)), 0 ≤ d → Lex x (l ++ r) ts d o → Lex x r (ts ++ tk) d o
mutual
theorem says_p (x : Bool) : ∀ (p : PT) (t : MT), er t = er (mtP p) → okP p → (∀ g g', wfP p g g' → True) → ∃ l, Wrt x t l ∧ Says x l (tkP p)
  | .one c, t, h, hok, _ => by
    rw [mtP_one] at h
    obtain ⟨s', v', q', rfl, h1, _⟩ := er_inv h
    exact ⟨[c], .one h1, fun r ts d o hd hl => by rw [tkP_one]; exact lex_lit (okP_one.1 hok) hd hl⟩
  | .grp n [], t, h, hok, _ => by
    rw [mtP_grp, mtL_nil] at h
    obtain ⟨s', v', q', rfl, _, h2⟩ := er_inv h
    obtain ⟨u, rfl, h3⟩ := erL_one h2
    obtain ⟨s2, v2, q2, rfl, _, h4⟩ := er_inv (show er u = er (.mk 2 s0 0 0 0 nilS []) from h3)
    have : q2 = [] := List.length_eq_zero_iff.1 (erL_len h4)
    subst this
    refine ⟨_, .grp (.row .nil), fun r ts d o hd hl => ?_⟩
    rw [tkP_grp, tkL_nil]
    have e : (((((slash x ++ [40]) ++ []) ++ slash x) ++ [41]) ++ r : List UInt8) = slash x ++ (40 :: (slash x ++ (41 :: r))) := by simp
    rw [e] at hl
    have h1 := lex_shut (by omega) (lex_open hd hl)
    rw [show d + 1 - 1 = d by omega] at h1
    simpa using h1
  | .grp n [p], t, h, hok, _ => by
    rw [mtP_grp, mtL_cons, mtL_nil] at h
    obtain ⟨s', v', q', rfl, _, h2⟩ := er_inv h
    obtain ⟨u, rfl, h3⟩ := erL_one h2
    obtain ⟨l, hw, hs⟩ := says_p x p u h3 (okPs_cons.1 (okP_grp.1 hok)).1 (fun _ _ _ => trivial)
    refine ⟨_, .grp hw, fun r ts d o hd hl => ?_⟩
    rw [tkP_grp, tkL_cons, tkL_nil]
    have e : (((((slash x ++ [40]) ++ l) ++ slash x) ++ [41]) ++ r : List UInt8) = slash x ++ (40 :: (l ++ (slash x ++ (41 :: r)))) := by simp
    rw [e] at hl
    have h1 := lex_shut (by omega) (hs _ _ _ _ (by omega) (lex_open hd hl))
    rw [show d + 1 - 1 = d by omega] at h1
    simpa using h1
  | .grp n (p :: p2 :: ps), t, h, hok, _ => by
    rw [mtP_grp] at h
    obtain ⟨s', v', q', rfl, _, h2⟩ := er_inv h
    obtain ⟨u, rfl, h3⟩ := erL_one h2
    rw [mtL_cons, mtL_cons] at h3
    obtain ⟨s2, v2, q2, rfl, _, h4⟩ := er_inv (show er u = er (.mk 2 s0 0 0 0 nilS (mtP p :: mtP p2 :: mtL ps)) from h3)
    obtain ⟨l, hw, hs⟩ := says_l x (p :: p2 :: ps) q2 (by rw [h4, mtL_cons, mtL_cons]) (okP_grp.1 hok)
    refine ⟨_, .grp (.row hw), fun r ts d o hd hl => ?_⟩
    rw [tkP_grp]
    have e : (((((slash x ++ [40]) ++ l) ++ slash x) ++ [41]) ++ r : List UInt8) = slash x ++ (40 :: (l ++ (slash x ++ (41 :: r)))) := by simp
    rw [e] at hl
    have h1 := lex_shut (by omega) (hs _ _ _ _ (by omega) (lex_open hd hl))
    rw [show d + 1 - 1 = d by omega] at h1
    simpa using h1
  | .rep mi ma p, t, h, hok, _ => by
    obtain ⟨h1, h2, h3, h4, ha, hok⟩ := okP_rep.1 hok
    rw [mtP_rep] at h
    obtain ⟨s', v', q', rfl, _, h5⟩ := er_inv h
    obtain ⟨u, rfl, h6⟩ := erL_one h5
    obtain ⟨l, hw, hs⟩ := says_p x p u h6 hok (fun _ _ _ => trivial)
    obtain ⟨r0, t0, e0, hk⟩ := tk_last p ha
    have hst : ∀ ts, startsT (ts ++ tkP p) = false ∧ begunT (ts ++ tkP p) = false := fun ts => by
      rw [e0, ← List.append_assoc]; exact ⟨starts_last (by omega), begun_last (by omega)⟩
    by_cases hz : mi = 0 ∧ ma = -1
    · obtain ⟨rfl, rfl⟩ := hz
      refine ⟨_, .star hw, fun r ts d o hd hl => ?_⟩
      rw [tkP_rep, ← List.append_assoc]
      rw [List.append_assoc] at hl
      exact lex_star (hst ts).1 (hst ts).2 hd (hs _ _ _ _ hd hl)
    · refine ⟨_, .rep hw hz ⟨h1, h2, h3⟩, fun r ts d o hd hl => ?_⟩
      rw [tkP_rep, ← List.append_assoc]
      have e : ((((((l ++ slash x) ++ [123]) ++ digs mi.toNat) ++ (if ma = mi then [] else 44 :: (if 0 ≤ ma then digs ma.toNat else []))) ++ slash x ++ [125]) ++ r : List UInt8) = l ++ (slash x ++ (123 :: (ivW mi ma ++ ((slash x ++ [125]) ++ r)))) := by unfold ivW; simp
      rw [e] at hl
      exact lex_times ⟨h1, h2⟩ ⟨h3, h4⟩ (hst ts).1 hd (hs _ _ _ _ hd hl)
theorem says_l (x : Bool) : ∀ (ps : List PT) (q : List MT), erL q = erL (mtL ps) → okPs ps → ∃ l, WrtL x q l ∧ Says x l (tkL ps)
  | [], q, h, _ => by
    rw [mtL_nil] at h
    have : q = [] := List.length_eq_zero_iff.1 (erL_len h)
    subst this
    exact ⟨[], .nil, fun r ts d o _ hl => by rw [tkL_nil, List.append_nil]; exact hl⟩
  | p :: ps, q, h, hok => by
    rw [mtL_cons] at h
    obtain ⟨t, q', rfl⟩ := List.exists_cons_of_length_pos (l := q) (by rw [erL_len h]; simp)
    rw [erL_cons, erL_cons] at h
    injection h with h1 h2
    obtain ⟨hok1, hok2⟩ := okPs_cons.1 hok
    obtain ⟨a, hw1, hs1⟩ := says_p x p t h1 hok1 (fun _ _ _ => trivial)
    obtain ⟨b, hw2, hs2⟩ := says_l x ps q' h2 hok2
    exact ⟨a ++ b, .cons hw1 hw2, fun r ts d o hd hl => by
      rw [tkL_cons, ← List.append_assoc]
      rw [List.append_assoc] at hl
      exact hs2 _ _ _ _ hd (hs1 _ _ _ _ hd hl)⟩
end
/-- A row, or the one. -/
def rowV (v : Value) : List MT → MT
  | [t] => t
  | ts => .mk 2 s0 0 0 0 v ts
theorem er_row {v : Value} {q : List MT} {ps : List PT} (h : erL q = erL (mtL ps)) : er (rowV v q) = er (rowM (mtL ps)) := by
  match q, hm : mtL ps, h with
  | [], [], _ => exact (er_mk).trans (er_mk).symm
  | [], _ :: _, h => exact absurd (erL_len h) (by simp)
  | _ :: _, [], h => exact absurd (erL_len h) (by simp)
  | [t], [u], h => rw [erL_cons, erL_cons] at h; injection h with h _
  | [t], u :: u2 :: us, h => exact absurd (erL_len h) (by simp)
  | t :: t2 :: ts, [u], h => exact absurd (erL_len h) (by simp)
  | t :: t2 :: ts, u :: u2 :: us, h => show er (.mk 2 s0 0 0 0 v (t :: t2 :: ts)) = er (.mk 2 s0 0 0 0 nilS (u :: u2 :: us)); rw [er_mk, er_mk, h]
theorem says_row (x : Bool) {ps : List PT} {q : List MT} {v : Value} (h : erL q = erL (mtL ps)) (hok : okPs ps) (hne : ps ≠ []) : ∃ l, Wrt x (rowV v q) l ∧ Says x l (tkL ps) ∧ l ≠ [] := by
  have key : ∃ l, Wrt x (rowV v q) l ∧ Says x l (tkL ps) := by
    match ps, hne with
    | [p], _ =>
      rw [mtL_cons, mtL_nil] at h
      obtain ⟨u, rfl, h3⟩ := erL_one h
      obtain ⟨l, h4, h5⟩ := says_p x p u h3 (okPs_cons.1 hok).1 (fun _ _ _ => trivial)
      exact ⟨l, h4, by rw [tkL_cons, tkL_nil, List.append_nil]; exact h5⟩
    | p :: p2 :: ps, _ =>
      obtain ⟨l, h4, h5⟩ := says_l x (p :: p2 :: ps) q h hok
      have hl : q.length = (mtL (p :: p2 :: ps)).length := erL_len h
      rw [mtL_len] at hl
      match q, hl with
      | t :: t2 :: ts, _ => exact ⟨l, .row h4, h5⟩
  obtain ⟨l, h1, h2⟩ := key
  refine ⟨l, h1, h2, fun hl => ?_⟩
  subst hl
  have h3 := lex_all (h2 [] [] 0 (some []) (Int.le_refl 0) (.done rfl))
  match ps, hne with
  | p :: ps, _ =>
    obtain ⟨t, r, h4, _⟩ := tkP_head p
    rw [tkL_cons, h4] at h3
    cases h3
theorem par_says {x : Bool} {ps : List PT} {g' : Int} {l : List UInt8} {y : MT × Int} (hw : wfL ps 0 g') (hne : ps ≠ []) (hs : Says x l (tkL ps)) (hl : l ≠ []) (h200 : l.length ≤ 200) (h : parX x l y) : y.2 = 0 ∧ er y.1 = er (rowM (mtL ps)) :=
  parX_is hl h200 (fun o h => lex_all (hs [] [] 0 o (Int.le_refl 0) (by rw [List.append_nil]; exact h))) (d_all hw hne) h

end Go.Proofs.Ytpoelkfncpjmfaa
