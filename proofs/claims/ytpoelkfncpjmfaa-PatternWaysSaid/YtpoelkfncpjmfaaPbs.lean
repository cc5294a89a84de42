/- Letters, groups, repeats: their tokens are parsed to their tree. -/
import Derived.Test.YtpoelkfncpjmfaaPbr
namespace Go.Proofs.Ytpoelkfncpjmfaa
open Go Go.RowKit

inductive PT where
  | one (c : UInt8)
  | grp (n : Int) (ps : List PT)
  | rep (mi ma : Int) (p : PT)
def rowM : List MT → MT
  | [t] => t
  | ts => .mk 2 s0 0 0 0 nilS ts
mutual
def mtP : PT → MT
  | .one c => oneM c
  | .grp n ps => .mk 5 s0 0 0 n nilS [rowM (mtL ps)]
  | .rep mi ma p => .mk 4 s0 mi ma 0 nilS [mtP p]
def mtL : List PT → List MT
  | [] => []
  | p :: ps => mtP p :: mtL ps
end
mutual
def tkP : PT → List Tok
  | .one c => [litT c]
  | .grp _ ps => kT 1 :: (tkL ps ++ [kT 2])
  | .rep mi ma p => tkP p ++ [timesT mi ma]
def tkL : List PT → List Tok
  | [] => []
  | p :: ps => tkP p ++ tkL ps
end
def PT.atom : PT → Prop
  | .rep _ _ _ => False
  | _ => True
mutual
/-- Groups are numbered behind g, as they open; then there are g'. -/
def wfP : PT → Int → Int → Prop
  | .one _, g, g' => g' = g
  | .grp n ps, g, g' => n = g + 1 ∧ n ≤ 9 ∧ ps ≠ [] ∧ wfL ps (g + 1) g'
  | .rep _ _ p, g, g' => p.atom ∧ wfP p g g'
def wfL : List PT → Int → Int → Prop
  | [], g, g' => g' = g
  | p :: ps, g, g' => ∃ g1, wfP p g g1 ∧ wfL ps g1 g'
end
theorem mtP_one {c : UInt8} : mtP (.one c) = oneM c := by rw [mtP]
theorem mtP_grp {n : Int} {ps : List PT} : mtP (.grp n ps) = .mk 5 s0 0 0 n nilS [rowM (mtL ps)] := by rw [mtP]
theorem mtP_rep {mi ma : Int} {p : PT} : mtP (.rep mi ma p) = .mk 4 s0 mi ma 0 nilS [mtP p] := by rw [mtP]
theorem mtL_nil : mtL [] = [] := by rw [mtL]
theorem mtL_cons {p : PT} {ps : List PT} : mtL (p :: ps) = mtP p :: mtL ps := by rw [mtL]
theorem mtL_len (ps : List PT) : (mtL ps).length = ps.length := by
  induction ps with
  | nil => rw [mtL_nil]; rfl
  | cons p ps ih => rw [mtL_cons, List.length_cons, ih]; rfl
theorem tkP_one {c : UInt8} : tkP (.one c) = [litT c] := by rw [tkP]
theorem tkP_grp {n : Int} {ps : List PT} : tkP (.grp n ps) = kT 1 :: (tkL ps ++ [kT 2]) := by rw [tkP]
theorem tkP_rep {mi ma : Int} {p : PT} : tkP (.rep mi ma p) = tkP p ++ [timesT mi ma] := by rw [tkP]
theorem tkL_nil : tkL [] = [] := by rw [tkL]
theorem tkL_cons {p : PT} {ps : List PT} : tkL (p :: ps) = tkP p ++ tkL ps := by rw [tkL]
theorem wfP_one {c : UInt8} {g g' : Int} : wfP (.one c) g g' ↔ g' = g := by rw [wfP]
theorem wfP_grp {n : Int} {ps : List PT} {g g' : Int} : wfP (.grp n ps) g g' ↔ n = g + 1 ∧ n ≤ 9 ∧ ps ≠ [] ∧ wfL ps (g + 1) g' := by rw [wfP]
theorem wfP_rep {mi ma : Int} {p : PT} {g g' : Int} : wfP (.rep mi ma p) g g' ↔ p.atom ∧ wfP p g g' := by rw [wfP]
theorem wfL_nil {g g' : Int} : wfL [] g g' ↔ g' = g := by rw [wfL]
theorem wfL_cons {p : PT} {ps : List PT} {g g' : Int} : wfL (p :: ps) g g' ↔ ∃ g1, wfP p g g1 ∧ wfL ps g1 g' := by rw [wfL]
theorem tok_mid (pre post : List Tok) (t : Tok) : (pre ++ t :: post)[pre.length]? = some t := by simp
/-- The first token of a piece: a letter or an opening. -/
theorem tkP_head : ∀ (p : PT), ∃ t r, tkP p = t :: r ∧ (t.k = 0 ∨ t.k = 1)
  | .one c => ⟨litT c, [], by rw [tkP_one], .inl rfl⟩
  | .grp n ps => ⟨kT 1, tkL ps ++ [kT 2], by rw [tkP_grp], .inr rfl⟩
  | .rep mi ma p => by
    obtain ⟨t, r, h1, h2⟩ := tkP_head p
    exact ⟨t, r ++ [timesT mi ma], by rw [tkP_rep, h1]; rfl, h2⟩
theorem head_isK {ts pre post : List Tok} {p : PT} (h : ts = pre ++ (tkP p ++ post)) {q : Int} (hq : q ≠ 0 ∧ q ≠ 1) : isK ts pre.length q = false := by
  obtain ⟨t, r, h1, h2⟩ := tkP_head p
  refine isK_2 (t := t) ?_ (by omega)
  rw [h, h1, List.cons_append]; exact tok_mid _ _ _
/-- What stands behind some pieces: the end, a bar or a closing. -/
def Ends (ts : List Tok) (k : Nat) : Prop := ts.length ≤ k ∨ isK ts k 3 = true ∨ isK ts k 2 = true
theorem Ends.not4 {ts : List Tok} {k : Nat} (h : Ends ts k) : isK ts k 4 = false := by
  unfold isK
  cases ht : ts[k]? with
  | none => rfl
  | some t =>
    rcases h with h | h | h
    · rw [List.getElem?_eq_none h] at ht; cases ht
    · exact decide_eq_false (by have := isK_tok h ht; omega)
    · exact decide_eq_false (by have := isK_tok h ht; omega)
theorem d_row {ts : List Tok} {k : Nat} {g : Int} {ms : List MT} {k1 : Nat} {g1 : Int} (hne : ms ≠ []) (h : RPcs ts k g false [] ms k1 g1 false) : RRow ts k g false (rowM ms) k1 g1 false := by
  match ms, hne with
  | [t], _ => exact .one h
  | t :: u :: r, _ => exact .many (v := nilS) h (by simp)
mutual
theorem d_atom : ∀ (p : PT) (g g' : Int) (ts pre post : List Tok), p.atom → wfP p g g' → 0 ≤ g → ts = pre ++ (tkP p ++ post) → RAtom ts pre.length g (mtP p) (pre.length + (tkP p).length) g' false
  | .one c, g, g', ts, pre, post, _, hw, _, h => by
    rw [wfP_one.1 hw, mtP_one, tkP_one]
    rw [tkP_one] at h
    exact RAtom.set (t := litT c) (by rw [h]; exact tok_mid _ _ _) rfl
  | .grp n ps, g, g', ts, pre, post, _, hw, hg, h => by
    obtain ⟨rfl, h9, hne, hw⟩ := wfP_grp.1 hw
    rw [mtP_grp, tkP_grp]
    rw [tkP_grp] at h
    have h2 : ts = (pre ++ [kT 1]) ++ (tkL ps ++ (kT 2 :: post)) := by rw [h]; simp
    have hlen : (pre ++ [kT 1]).length = pre.length + 1 := by simp
    have hc : isK ts (pre.length + 1 + (tkL ps).length) 2 = true := by
      have : ts[pre.length + 1 + (tkL ps).length]? = some (kT 2) := by
        rw [h2, show pre.length + 1 + (tkL ps).length = ((pre ++ [kT 1]) ++ tkL ps).length by simp; omega, ← List.append_assoc]
        exact tok_mid _ _ _
      rw [isK_of this]; rfl
    have hp := d_pcs ps (g + 1) g' ts (pre ++ [kT 1]) (kT 2 :: post) [] hw (by omega) h2 (.inr (.inr (by rw [hlen]; exact hc)))
    rw [hlen, List.nil_append] at hp
    have hr := d_row (by rw [← List.length_pos_iff, mtL_len]; exact List.length_pos_iff.2 hne) hp
    have h3 : isK ts (pre.length + 1 + (tkL ps).length) 3 = false := by
      unfold isK at hc ⊢
      split at hc
      · cases hc
      · have := of_decide_eq_true hc; exact decide_eq_false (by omega)
    have hq := RGrp.shut (v := nilS) (g := g) h9 (RAll.one hr (.stop (.inr h3))) hc
    have hk : pre.length + (kT 1 :: (tkL ps ++ [kT 2])).length = pre.length + 1 + (tkL ps).length + 1 := by simp; omega
    rw [hk]
    exact RAtom.group (t := kT 1) (by rw [h]; exact tok_mid _ _ _) (by decide) (by decide) (by decide) (by decide) hq
  | .rep _ _ _, _, _, _, _, _, h, _, _, _ => h.elim
theorem d_piece : ∀ (p : PT) (g g' : Int) (ts pre post : List Tok), wfP p g g' → 0 ≤ g → ts = pre ++ (tkP p ++ post) → isK ts (pre.length + (tkP p).length) 4 = false → RPiece ts pre.length g (mtP p) (pre.length + (tkP p).length) g' false
  | .one c, g, g', ts, pre, post, hw, hg, h, h4 => .plain (d_atom (.one c) g g' ts pre post trivial hw hg h) h4
  | .grp n ps, g, g', ts, pre, post, hw, hg, h, h4 => .plain (d_atom (.grp n ps) g g' ts pre post trivial hw hg h) h4
  | .rep mi ma p, g, g', ts, pre, post, hw, hg, h, h4 => by
    obtain ⟨ha, hw⟩ := wfP_rep.1 hw
    rw [mtP_rep, tkP_rep]
    rw [tkP_rep] at h
    have h2 : ts = pre ++ (tkP p ++ (timesT mi ma :: post)) := by rw [h]; simp
    have hu : ts[pre.length + (tkP p).length]? = some (timesT mi ma) := by
      rw [h2, ← List.append_assoc, ← List.length_append]; exact tok_mid _ _ _
    have := RPiece.rep (v := nilS) (d_atom p g g' ts pre _ ha hw hg h2) hu rfl
    rwa [show pre.length + (tkP p ++ [timesT mi ma]).length = pre.length + (tkP p).length + 1 by simp; omega]
theorem d_pcs : ∀ (ps : List PT) (g g' : Int) (ts pre post : List Tok) (ms : List MT), wfL ps g g' → 0 ≤ g → ts = pre ++ (tkL ps ++ post) → Ends ts (pre.length + (tkL ps).length) → RPcs ts pre.length g false ms (ms ++ mtL ps) (pre.length + (tkL ps).length) g' false
  | [], g, g', ts, pre, post, ms, hw, hg, h, he => by
    rw [wfL_nil.1 hw, mtL_nil, List.append_nil, tkL_nil]
    rw [tkL_nil] at he
    refine .stop ?_
    rcases he with he | he | he
    · exact .inl he
    · exact .inr (.inr (.inl he))
    · exact .inr (.inr (.inr he))
  | p :: ps, g, g', ts, pre, post, ms, hw, hg, h, he => by
    obtain ⟨g1, h1, h2⟩ := wfL_cons.1 hw
    rw [mtL_cons, tkL_cons]
    rw [tkL_cons] at h he
    have h3 : ts = pre ++ (tkP p ++ (tkL ps ++ post)) := by rw [h]; simp
    have h4 : ts = (pre ++ tkP p) ++ (tkL ps ++ post) := by rw [h]; simp
    have hl : (pre ++ tkP p).length = pre.length + (tkP p).length := List.length_append
    have he' : Ends ts ((pre ++ tkP p).length + (tkL ps).length) := by rw [hl]; rw [List.length_append, ← Nat.add_assoc] at he; exact he
    have hn4 : isK ts (pre.length + (tkP p).length) 4 = false := by
      rw [← hl]
      cases ps with
      | nil => rw [tkL_nil] at he'; exact he'.not4
      | cons p2 ps2 => exact head_isK (q := 4) (p := p2) (post := tkL ps2 ++ post) (by rw [h4, tkL_cons]; simp) ⟨by decide, by decide⟩
    have hp := d_piece p g g1 ts pre _ h1 hg h3 hn4
    have hr := d_pcs ps g1 g' ts (pre ++ tkP p) post (ms ++ [mtP p]) h2 (by have := wfP_le p g g1 h1; omega) h4 he'
    rw [hl, List.append_assoc] at hr
    rw [List.length_append, ← Nat.add_assoc]
    exact .piece (head_isK h3 (by decide)) (head_isK h3 (by decide)) hp hr
theorem wfP_le : ∀ (p : PT) (g g' : Int), wfP p g g' → g ≤ g'
  | .one c, g, g', h => by rw [wfP_one.1 h]; exact Int.le_refl _
  | .grp n ps, g, g', h => by have := wfL_le ps (g + 1) g' (wfP_grp.1 h).2.2.2; omega
  | .rep _ _ p, g, g', h => wfP_le p g g' (wfP_rep.1 h).2
theorem wfL_le : ∀ (ps : List PT) (g g' : Int), wfL ps g g' → g ≤ g'
  | [], g, g', h => by rw [wfL_nil.1 h]; exact Int.le_refl _
  | p :: ps, g, g', h => by
    obtain ⟨g1, h1, h2⟩ := wfL_cons.1 h
    have := wfP_le p g g1 h1
    have := wfL_le ps g1 g' h2
    omega
end
/-- What is parsed of pieces' tokens. -/
theorem d_all {ps : List PT} {g' : Int} (hw : wfL ps 0 g') (hne : ps ≠ []) : RAll (tkL ps) 0 0 false (rowM (mtL ps)) (tkL ps).length g' false := by
  have h := d_pcs ps 0 g' (tkL ps) [] [] [] hw (Int.le_refl _) (by simp) (.inl (by simp))
  simp only [List.length_nil, Nat.zero_add, List.nil_append] at h
  refine .one (d_row (by rw [← List.length_pos_iff, mtL_len]; exact List.length_pos_iff.2 hne) h) (.stop (.inr (isK_end (Nat.le_refl _))))
/-- One or the other. -/
theorem d_bar {ps qs : List PT} {g1 g' : Int} (hw : wfL ps 0 g1) (hw2 : wfL qs g1 g') (hne : ps ≠ []) (hne2 : qs ≠ []) :
    RAll (tkL ps ++ kT 3 :: tkL qs) 0 0 false (.mk 3 s0 0 0 0 nilS [rowM (mtL ps), rowM (mtL qs)]) (tkL ps ++ kT 3 :: tkL qs).length g' false := by
  have hb : isK (tkL ps ++ kT 3 :: tkL qs) (tkL ps).length 3 = true := by rw [isK_of (tok_mid _ _ _)]; rfl
  have h := d_pcs ps 0 g1 (tkL ps ++ kT 3 :: tkL qs) [] (kT 3 :: tkL qs) [] hw (Int.le_refl _) (by simp) (.inr (.inl (by simpa using hb)))
  simp only [List.length_nil, Nat.zero_add, List.nil_append] at h
  have h2 := d_pcs qs g1 g' (tkL ps ++ kT 3 :: tkL qs) (tkL ps ++ [kT 3]) [] [] hw2 (wfL_le ps 0 g1 hw) (by simp) (.inl (by simp; omega))
  rw [show (tkL ps ++ [kT 3]).length = (tkL ps).length + 1 by simp, List.nil_append] at h2
  have hl : (tkL ps ++ kT 3 :: tkL qs).length = (tkL ps).length + 1 + (tkL qs).length := by simp; omega
  rw [hl]
  have hn : ∀ {l : List PT}, l ≠ [] → mtL l ≠ [] := fun h => by rw [← List.length_pos_iff, mtL_len]; exact List.length_pos_iff.2 h
  exact .many (d_row (hn hne) h) (.more hb (d_row (hn hne2) h2) (.stop (.inr (isK_end (by rw [hl]; exact Nat.le_refl _))))) (by simp)
/-- What Parse answers where the tokens, and how they are parsed, are known. -/
theorem parX_is {ext : Bool} {l : List UInt8} {ts : List Tok} {t : MT} {g : Int} {x : MT × Int} (hne : l ≠ []) (h200 : l.length ≤ 200) (hl : ∀ o, Lex ext l [] 0 o → o = some ts) (hd : RAll ts 0 0 false t ts.length g false) (h : parX ext l x) : x.2 = 0 ∧ er x.1 = er t := by
  rcases h with ⟨_, h | h | h | ⟨ts', t', k, g', b, h1, h2, h3⟩⟩ | ⟨h0, ts', k, g', h1, _, _, h2, h3⟩
  · exact absurd h hne
  · omega
  · cases hl _ h
  · cases hl _ h1
    obtain ⟨_, rfl, _, rfl⟩ := rdet hd _ _ _ _ h2
    rcases h3 with h3 | h3
    · cases h3
    · omega
  · cases hl _ h1
    exact ⟨h0, (rdet hd _ _ _ _ h2).1⟩

end Go.Proofs.Ytpoelkfncpjmfaa
