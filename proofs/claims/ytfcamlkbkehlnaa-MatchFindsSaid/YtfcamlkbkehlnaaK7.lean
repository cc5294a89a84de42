/- The texts that the proof leans on, one behind the other (7 of 7). -/
import Derived.Laws.StructEq
import Derived.Test.YtfcamlkbkehlnaaK6
/- MatchAnchored. -/
namespace Go.Proofs.Ytfcamlkbkehlnaa
open Go Go.RowKit

def begM : MT := .mk 6 s0 0 0 0 nilS []
def endM : MT := .mk 7 s0 0 0 0 nilS []
mutual
/-- The whole stays as it is. -/
theorem gM_0 {x : Tx} : ∀ (t : MT) (i j : Nat) (m : Spn), gM x t i j m 0 = m 0
  | .mk k s mi ma nu v q, i, j, m => by
    have e1 : (if 1 ≤ nu ∧ nu < 10 then setS m nu.toNat ((i : Int), (j : Int)) else m) 0 = m 0 := by
      split
      · unfold setS; rw [if_neg (by omega)]
      · rfl
    rw [gM_mk]
    split
    · exact gRow_0 q i j m
    · split
      · exact gAny_0 q i j m
      · split
        · exact (gKid_0 q i j _).trans e1
        · split
          · exact gRep_0 (fun a b m => gKid_0 q a b m) _ _ _ i j m
          · rfl
theorem gRow_0 {x : Tx} : ∀ (q : List MT) (i j : Nat) (m : Spn), gRow x q i j m 0 = m 0
  | [], _, _, _ => by rw [gRow_nil]
  | t :: q, i, j, m => by
    rw [gRow_cons]
    split
    · rw [gRow_0 q, gM_0 t]
    · rfl
theorem gAny_0 {x : Tx} : ∀ (q : List MT) (i j : Nat) (m : Spn), gAny x q i j m 0 = m 0
  | [], _, _, _ => by rw [gAny_nil]
  | t :: q, i, j, m => by
    rw [gAny_cons]
    split
    · exact gM_0 t i j m
    · exact gAny_0 q i j m
theorem gKid_0 {x : Tx} : ∀ (q : List MT) (i j : Nat) (m : Spn), gKid x q i j m 0 = m 0
  | [], _, _, _ => by rw [gKid_nil]
  | t :: q, i, j, m => by rw [gKid_cons]; exact gM_0 t i j m
theorem gRep_0 {n : Nat} {K : Nat → Nat → Bool} {g : Nat → Nat → Spn → Spn} (hg : ∀ i j m, g i j m 0 = m 0) : ∀ (f : Nat) (lo hi : Int) (i j : Nat) (m : Spn), gRep n K g f lo hi i j m 0 = m 0
  | 0, _, _, _, _, _ => rfl
  | f + 1, lo, hi, i, j, m => by
    rw [gRep]
    by_cases e : i = j
    · rw [if_pos e]
      split
      · exact hg _ _ _
      · rfl
    · rw [if_neg e]
      generalize topK (fun k => K i k && rep n K (n + 1) (max (lo - 1) 0) (if 0 < hi then hi - 1 else hi) k j) (i + 1) (j + 1) = o
      cases o with
      | none => rfl
      | some k => exact (gRep_0 hg f _ _ k j _).trans (hg _ _ _)
end
theorem mM_beg {x : Tx} {i j : Nat} : mM x begM i j = true ↔ i = 0 ∧ x.bg = true ∧ j = 0 := by unfold begM; rw [mM_mk, if_neg (by decide), if_pos rfl]; simp [and_assoc]
theorem mM_end {x : Tx} {i j : Nat} : mM x endM i j = true ↔ i = x.n ∧ j = i := by unfold endM; rw [mM_mk, if_neg (by decide), if_neg (by decide), if_pos rfl]; simp
theorem mRow_one {x : Tx} {t : MT} {i j : Nat} (hi : i ≤ x.n) : mRow x [t] i j = mM x t i j := by
  rw [Bool.eq_iff_iff, mRow_cons, any_range]
  constructor
  · rintro ⟨k, h1, h2⟩
    rw [mRow_nil] at h2
    simp only [Bool.and_eq_true, decide_eq_true_eq] at h2
    obtain ⟨⟨_, h3⟩, rfl⟩ := h2; exact h3
  · intro h
    have h1 := mM_in t hi h
    exact ⟨j, by omega, by rw [mRow_nil, h]; simp [h1.1]⟩
theorem mRow_two {x : Tx} {t : MT} {q : List MT} {i j : Nat} : mRow x (t :: q) i j = true ↔ ∃ k, k ≤ x.n ∧ i ≤ k ∧ mM x t i k = true ∧ mRow x q k j = true := by
  rw [mRow_cons, any_range]
  constructor
  · rintro ⟨k, h1, h2⟩
    simp only [Bool.and_eq_true, decide_eq_true_eq] at h2
    exact ⟨k, by omega, h2.1.1, h2.1.2, h2.2⟩
  · rintro ⟨k, h1, h2, h3, h4⟩
    exact ⟨k, by omega, by simp [h2, h3, h4]⟩
theorem mM_anch {x : Tx} {t : MT} {s : Nat → Int} {a b c : Int} {v : Value} {i j : Nat} (hi : i ≤ x.n) : mM x (.mk 2 s a b c v [begM, t, endM]) i j = true ↔ i = 0 ∧ x.bg = true ∧ mM x t 0 x.n = true ∧ j = x.n := by
  rw [mM_mk, if_neg (by decide), if_neg (by decide), if_neg (by decide), if_pos rfl, mRow_two]
  constructor
  · rintro ⟨k, h1, h2, h3, h4⟩
    obtain ⟨rfl, hb, rfl⟩ := mM_beg.1 h3
    obtain ⟨k, h5, h6, h7, h8⟩ := mRow_two.1 h4
    rw [mRow_one h5] at h8
    obtain ⟨rfl, rfl⟩ := mM_end.1 h8
    exact ⟨rfl, hb, h7, rfl⟩
  · rintro ⟨rfl, hb, h1, rfl⟩
    exact ⟨0, Nat.zero_le _, Nat.le_refl _, mM_beg.2 ⟨rfl, hb, rfl⟩, mRow_two.2 ⟨x.n, Nat.le_refl _, Nat.zero_le _, h1, by rw [mRow_one (Nat.le_refl _)]; exact mM_end.2 ⟨rfl, rfl⟩⟩⟩
theorem anch_yes {x : Tx} {t : MT} {s : Nat → Int} {a b c : Int} {v : Value} (hn : x.n ≤ 1024) (hb : x.bg = true) (h : mM x t 0 x.n = true) : ∃ r : Spn × Bool, findR x (.mk 2 s a b c v [begM, t, endM]) 0 = r ∧ r.2 = true ∧ (r.1 0).1 = 0 ∧ (r.1 0).2 = x.n := by
  have h1 := findR_yes (x := x) (t := .mk 2 s a b c v [begM, t, endM]) (f := 0) (i := 0) (j := x.n) hn ⟨Nat.le_refl _, Nat.zero_le _, (mM_anch (Nat.zero_le _)).2 ⟨rfl, hb, h, rfl⟩, fun p q h1 h2 => by omega, fun q hq => false_of fun h5 => ?_⟩
  · refine ⟨_, h1, rfl, ?_, ?_⟩ <;> dsimp only <;> rw [gM_0] <;> rfl
  · have := ((mM_anch (Nat.zero_le _)).1 h5).2.2.2; omega
theorem anch_no {x : Tx} {t : MT} {s : Nat → Int} {a b c : Int} {v : Value} (h : ¬ (x.bg = true ∧ mM x t 0 x.n = true)) : findR x (.mk 2 s a b c v [begM, t, endM]) 0 = (m0, false) :=
  findR_no (f := 0) fun p q _ hp => false_of fun h5 => by
    have h6 := (mM_anch hp).1 h5
    exact h ⟨h6.2.1, h6.2.2.1⟩
theorem isS_whole {x : Tx} {t : MT} : isS x t 0 x.n = mM x t 0 x.n := by
  unfold isS
  rw [decide_eq_true (by omega), Bool.true_and]; rfl
/-- Nodes that lie in a block of their own. -/
theorem rd_cells {w : World} {b : Nat} {ty : TypeId} {q : List MT} (h : w.heap[b]? = some (.cells (q.flatMap nC).toArray ty (0, 0))) : RdSl w (some ⟨b, 0, none⟩) q.length 9 (fun i j => ((nC (q.getD i default))[j]?).getD default) := by
  refine ⟨fun _ => rfl, fun _ => lt_of_some h, fun i j hi hj => ?_⟩
  have e : ((some (⟨b, 0, none⟩ : Addr)).getD default).add (i * 9 + j) = ⟨b, i * 9 + j, none⟩ := by simp [Addr.add_mid]
  rw [e, cell_of_row w b _ _ ty (0, 0) h, List.getElem?_toArray, fm_get nC 9 nC_len q i j (q.getD i default) (by rw [List.getD_eq_getElem?_getD, List.getElem?_eq_getElem hi]; rfl) hj]
  rw [List.getElem?_eq_getElem (by rw [nC_len]; exact hj)]; rfl
theorem rd_leaf {w : World} {k : Int} {s : Nat → Int} {a b c : Int} : (MT.mk k s a b c nilS []).rd w := rd_mk.2 ⟨⟨none, 0, rfl, fun h => absurd h (by decide), fun h => absurd h (by decide), fun i j h => absurd h (Nat.not_lt_zero _)⟩, rdL_nil⟩
theorem wT_three {k : Int} {s : Nat → Int} {a b c : Int} {v : Value} {t : MT} : wT (.mk k s a b c v [begM, t, endM]) = wT t + 3 := by
  unfold begM endM
  simp only [wT_mk, wL]; omega
theorem rd_node {w : World} {b : Nat} {ty : TypeId} {q : List MT} {cs : List Value} {k : Int} {s : Nat → Int} {mi ma nu : Int} {c : Nat} (hc : cs = q.flatMap nC) (h : w.heap[b]? = some (.cells cs.toArray ty (0, 0))) (hq : rdL w q) : (MT.mk k s mi ma nu (.slice (some ⟨b, 0, none⟩) q.length c) q).rd w := by
  subst hc
  exact rd_mk.2 ⟨⟨_, _, rfl, rd_cells h⟩, hq⟩

set_option maxRecDepth 100000 in
theorem manch_any (p l : List UInt8) (bg : Bool) (hp : p.length ≤ maxLen) (hl : l.length ≤ maxLen) (w : World) (hz : MaxHere w) :
    Calls Try.prog 11 #[st8 p, st8 l, .bool bg] w fun e w' => e = .returned (.bool true) ∧ Below w.heap.size w w' := by
 have hmax : maxLen = 9223372036854775807 := rfl
 refine fn_intro Try.func11 rfl Try.ntmps11 rfl rfl ?_
 refine s_ ?_
 cases bg
 ·refine o_ ?_
  refine xg 1 [] rfl rfl ?_
  refine ntso_ ?_
  refine xg 1 [] rfl rfl ?_
  refine g_callNew (fun x : {x : MT × Int // parX true p x} => .tuple #[.agg (nC x.1.1).toArray, .int .i64 x.1.2]) (fun x => [.forest [x.1.1]]) rfl rfl rfl Try.call16 (fun w hS => parse_xe p w (hS.maxHere hz (by simp))) ?_
  rintro ⟨⟨t, ern⟩, hpar⟩
  obtain ⟨nk, ns, nm, nx, nu, nv, nq⟩ := t
  refine g_kids 0 rfl (fun pv cv hv => ?_)
  cases hv
  dsimp only
  simp only [List.cons_append, List.nil_append]
  refine xg 3 [] rfl rfl ?_
  refine g_alloc rfl rfl Try.zeroValue28 rfl (fun b1 => ?_)
  refine xg 2 [0] rfl (by omega) ?_
  refine n_ (t_ (s_ (s_ (o_ ?_))))
  refine xg 1 [] rfl rfl ?_
  refine g_val (v := .int .i64 (p.length : Int)) rfl rfl rfl (y_val (y_slen rfl Try.underlying9) (by rw [size_mk])) ?_
  refine xg 2 [0] rfl rfl ?_
  refine g_casep 21 rfl (fun h1 => ?_) fun h1 => ?_
  ·refine xg 8 [] rfl rfl ?_
   refine n_ (t_ (g_cond_t rfl (s_ (o_ ?_))))
   refine g_call1 rfl rfl rfl Try.call13 (fun w hS => alive_any w (hS.maxHere hz (by simp))) ?_
   refine xg 1 [] rfl rfl ?_
   refine n_ (t_ (g_ret (g_then_ret ?_)))
   refine g_end1 Try.results11 rfl ?_
   exact fun w hS => ⟨rfl, hS.below⟩
  refine xg 4 [0] rfl rfl ?_
  refine g_casep 25 rfl (fun h2 => ?_) fun h2 => ?_
  ·refine xg 4 [] rfl rfl ?_
   refine n_ (t_ (g_cond_t rfl (s_ (o_ ?_))))
   refine g_call1 rfl rfl rfl Try.call13 (fun w hS => alive_any w (hS.maxHere hz (by simp))) ?_
   refine xg 1 [] rfl rfl ?_
   refine n_ (t_ (g_ret (g_then_ret ?_)))
   refine g_end1 Try.results11 rfl ?_
   exact fun w hS => ⟨rfl, hS.below⟩
  refine xg 1 [] rfl rfl ?_
  refine g_val (v := .int .i64 (l.length : Int)) rfl rfl rfl (y_val (y_slen rfl Try.underlying9) (by rw [size_mk])) ?_
  refine xg 2 [0] rfl rfl ?_
  refine n_ (t_ ?_)
  refine g_casep 29 rfl (fun h3 => ?_) fun h3 => ?_
  ·refine g_cond_t rfl (s_ (o_ ?_))
   refine g_call1 rfl rfl rfl Try.call13 (fun w hS => alive_any w (hS.maxHere hz (by simp))) ?_
   refine xg 1 [] rfl rfl ?_
   refine n_ (t_ (g_ret (g_then_ret ?_)))
   refine g_end1 Try.results11 rfl ?_
   exact fun w hS => ⟨rfl, hS.below⟩
  refine g_cond_f rfl (g_skip (t_ (s_ ?_)))
  obtain rfl : ern = 0 := by omega
  refine o_ ?_
  refine xg 3 [0] rfl (by omega) ?_
  refine g_buildSlice (offs := [0, 9, 18]) rfl rfl Try.underlying26 rfl Try.zeroValue28 (by kernel_rfl) (fun b2 => ?_)
  refine xg 1 [] rfl rfl ?_
  refine g_alloc rfl rfl Try.zeroValue28 rfl (fun b3 => ?_)
  refine xg 1 [0] rfl (by omega) ?_
  refine ntso_ ?_
  refine xg 3 [0] rfl (by omega) ?_
  refine g_c1 (m_find ⟨l, false⟩ (.mk 2 s0 0 0 0 (.slice (some ⟨b2, 0, none⟩) 3 3) [begM, (.mk nk ns nm nx nu (.slice pv nq.length cv) nq), endM]) 0 (by show l.length ≤ _; omega) (by rw [wT_three]; have := parX_size hpar; dsimp only at this; omega)) (fun w hS => rd_node rfl (hS.cells (i := 1) rfl) (rdL_cons.2 ⟨rd_leaf, rdL_cons.2 ⟨forest_rd hS (i := 3) rfl, rdL_cons.2 ⟨rd_leaf, rdL_nil⟩⟩⟩)) rfl rfl rfl ?_
  rw [anch_no (fun h => Bool.noConfusion h.1), sp_none]
  refine xg 3 [] rfl rfl ?_
  refine g_alloc rfl rfl Try.zeroValue36 rfl (fun b4 => ?_)
  refine xg 2 [0] rfl (by omega) ?_
  refine ntso_ ?_
  refine xg 3 [3] rfl (by omega) ?_
  refine g_val (v := .int .i64 (l.length : Int)) rfl rfl rfl (y_val (y_slen rfl Try.underlying9) (by rw [size_mk])) ?_
  refine xg 1 [] rfl rfl ?_
  refine g_c1 (m_is ⟨l, false⟩ (.mk nk ns nm nx nu (.slice pv nq.length cv) nq) 0 (l.length : Int) (by show l.length ≤ _; omega) (by have := parX_size hpar; dsimp only at this; omega)) (fun w hS => forest_rd hS (i := 4) rfl) rfl rfl rfl ?_
  rw [show isS ⟨l, false⟩ (.mk nk ns nm nx nu (.slice pv nq.length cv) nq) 0 (l.length : Int) = mM ⟨l, false⟩ (.mk nk ns nm nx nu (.slice pv nq.length cv) nq) 0 l.length from isS_whole (x := ⟨l, false⟩)]
  refine xg 1 [] rfl rfl ?_
  refine n_ (t_ (s_ (s_ (o_ ?_))))
  refine xg 3 [] rfl rfl ?_
  first | refine g_casep 51 rfl (fun h4 => ?_) fun h4 => ?_ | refine g_caseb 51 rfl (fun h4 => ?_) fun h4 => ?_
  ·refine xg 2 [] rfl rfl ?_
   refine g_val rfl rfl rfl (y_lit false (y_bne rfl rfl (by kernel_rfl)) (rfl)) ?_
   refine n_ (t_ (g_cond_f rfl (g_skip (t_ (s_ (o_ ?_))))))
   refine g_call1 rfl rfl rfl Try.call13 (fun w hS => alive_any w (hS.maxHere hz (by simp))) ?_
   refine xg 19 [] rfl rfl ?_
   refine n_ (t_ (g_ret ?_))
   refine g_end1 Try.results11 rfl ?_
   exact fun w hS => ⟨rfl, hS.below⟩
  refine xg 2 [] rfl rfl ?_
  refine g_val rfl rfl rfl (y_lit false (y_bne rfl rfl (by kernel_rfl)) (rfl)) ?_
  refine n_ (t_ (g_cond_f rfl (g_skip (t_ (s_ (o_ ?_))))))
  refine g_call1 rfl rfl rfl Try.call13 (fun w hS => alive_any w (hS.maxHere hz (by simp))) ?_
  refine xg 19 [] rfl rfl ?_
  refine n_ (t_ (g_ret ?_))
  refine g_end1 Try.results11 rfl ?_
  exact fun w hS => ⟨rfl, hS.below⟩
 refine o_ ?_
 refine xg 1 [] rfl rfl ?_
 refine ntso_ ?_
 refine xg 1 [] rfl rfl ?_
 refine g_callNew (fun x : {x : MT × Int // parX true p x} => .tuple #[.agg (nC x.1.1).toArray, .int .i64 x.1.2]) (fun x => [.forest [x.1.1]]) rfl rfl rfl Try.call16 (fun w hS => parse_xe p w (hS.maxHere hz (by simp))) ?_
 rintro ⟨⟨t, ern⟩, hpar⟩
 obtain ⟨nk, ns, nm, nx, nu, nv, nq⟩ := t
 refine g_kids 0 rfl (fun pv cv hv => ?_)
 cases hv
 dsimp only
 simp only [List.cons_append, List.nil_append]
 refine xg 3 [] rfl rfl ?_
 refine g_alloc rfl rfl Try.zeroValue28 rfl (fun b5 => ?_)
 refine xg 2 [0] rfl (by omega) ?_
 refine n_ (t_ (s_ (s_ (o_ ?_))))
 refine xg 1 [] rfl rfl ?_
 refine g_val (v := .int .i64 (p.length : Int)) rfl rfl rfl (y_val (y_slen rfl Try.underlying9) (by rw [size_mk])) ?_
 refine xg 2 [0] rfl rfl ?_
 refine g_casep 21 rfl (fun h5 => ?_) fun h5 => ?_
 ·refine xg 8 [] rfl rfl ?_
  refine n_ (t_ (g_cond_t rfl (s_ (o_ ?_))))
  refine g_call1 rfl rfl rfl Try.call13 (fun w hS => alive_any w (hS.maxHere hz (by simp))) ?_
  refine xg 1 [] rfl rfl ?_
  refine n_ (t_ (g_ret (g_then_ret ?_)))
  refine g_end1 Try.results11 rfl ?_
  exact fun w hS => ⟨rfl, hS.below⟩
 refine xg 4 [0] rfl rfl ?_
 refine g_casep 25 rfl (fun h6 => ?_) fun h6 => ?_
 ·refine xg 4 [] rfl rfl ?_
  refine n_ (t_ (g_cond_t rfl (s_ (o_ ?_))))
  refine g_call1 rfl rfl rfl Try.call13 (fun w hS => alive_any w (hS.maxHere hz (by simp))) ?_
  refine xg 1 [] rfl rfl ?_
  refine n_ (t_ (g_ret (g_then_ret ?_)))
  refine g_end1 Try.results11 rfl ?_
  exact fun w hS => ⟨rfl, hS.below⟩
 refine xg 1 [] rfl rfl ?_
 refine g_val (v := .int .i64 (l.length : Int)) rfl rfl rfl (y_val (y_slen rfl Try.underlying9) (by rw [size_mk])) ?_
 refine xg 2 [0] rfl rfl ?_
 refine n_ (t_ ?_)
 refine g_casep 29 rfl (fun h7 => ?_) fun h7 => ?_
 ·refine g_cond_t rfl (s_ (o_ ?_))
  refine g_call1 rfl rfl rfl Try.call13 (fun w hS => alive_any w (hS.maxHere hz (by simp))) ?_
  refine xg 1 [] rfl rfl ?_
  refine n_ (t_ (g_ret (g_then_ret ?_)))
  refine g_end1 Try.results11 rfl ?_
  exact fun w hS => ⟨rfl, hS.below⟩
 refine g_cond_f rfl (g_skip (t_ (s_ ?_)))
 obtain rfl : ern = 0 := by omega
 cases hm : mM ⟨l, true⟩ (.mk nk ns nm nx nu (.slice pv nq.length cv) nq) 0 l.length
 ·refine o_ ?_
  refine xg 3 [0] rfl (by omega) ?_
  refine g_buildSlice (offs := [0, 9, 18]) rfl rfl Try.underlying26 rfl Try.zeroValue28 (by kernel_rfl) (fun b6 => ?_)
  refine xg 1 [] rfl rfl ?_
  refine g_alloc rfl rfl Try.zeroValue28 rfl (fun b7 => ?_)
  refine xg 1 [0] rfl (by omega) ?_
  refine ntso_ ?_
  refine xg 3 [0] rfl (by omega) ?_
  refine g_c1 (m_find ⟨l, true⟩ (.mk 2 s0 0 0 0 (.slice (some ⟨b6, 0, none⟩) 3 3) [begM, (.mk nk ns nm nx nu (.slice pv nq.length cv) nq), endM]) 0 (by show l.length ≤ _; omega) (by rw [wT_three]; have := parX_size hpar; dsimp only at this; omega)) (fun w hS => rd_node rfl (hS.cells (i := 1) rfl) (rdL_cons.2 ⟨rd_leaf, rdL_cons.2 ⟨forest_rd hS (i := 3) rfl, rdL_cons.2 ⟨rd_leaf, rdL_nil⟩⟩⟩)) rfl rfl rfl ?_
  rw [anch_no (fun h => by rw [show mM ⟨l, true⟩ (.mk nk ns nm nx nu (.slice pv nq.length cv) nq) 0 (Tx.n ⟨l, true⟩) = false from hm] at h; exact absurd h.2 (by decide)), sp_none]
  refine xg 3 [] rfl rfl ?_
  refine g_alloc rfl rfl Try.zeroValue36 rfl (fun b8 => ?_)
  refine xg 2 [0] rfl (by omega) ?_
  refine ntso_ ?_
  refine xg 3 [3] rfl (by omega) ?_
  refine g_val (v := .int .i64 (l.length : Int)) rfl rfl rfl (y_val (y_slen rfl Try.underlying9) (by rw [size_mk])) ?_
  refine xg 1 [] rfl rfl ?_
  refine g_c1 (m_is ⟨l, true⟩ (.mk nk ns nm nx nu (.slice pv nq.length cv) nq) 0 (l.length : Int) (by show l.length ≤ _; omega) (by have := parX_size hpar; dsimp only at this; omega)) (fun w hS => forest_rd hS (i := 4) rfl) rfl rfl rfl ?_
  rw [show isS ⟨l, true⟩ (.mk nk ns nm nx nu (.slice pv nq.length cv) nq) 0 (l.length : Int) = mM ⟨l, true⟩ (.mk nk ns nm nx nu (.slice pv nq.length cv) nq) 0 l.length from isS_whole (x := ⟨l, true⟩)]
  rw [hm]
  refine xg 1 [] rfl rfl ?_
  refine n_ (t_ (s_ (s_ (o_ ?_))))
  refine xg 5 [] rfl rfl ?_
  refine g_val rfl rfl rfl (y_lit false (y_bne rfl rfl (by kernel_rfl)) (rfl)) ?_
  refine n_ (t_ (g_cond_f rfl (g_skip (t_ (s_ (o_ ?_))))))
  refine g_call1 rfl rfl rfl Try.call13 (fun w hS => alive_any w (hS.maxHere hz (by simp))) ?_
  refine xg 19 [] rfl rfl ?_
  refine n_ (t_ (g_ret ?_))
  refine g_end1 Try.results11 rfl ?_
  exact fun w hS => ⟨rfl, hS.below⟩
 refine o_ ?_
 refine xg 3 [0] rfl (by omega) ?_
 refine g_buildSlice (offs := [0, 9, 18]) rfl rfl Try.underlying26 rfl Try.zeroValue28 (by kernel_rfl) (fun b9 => ?_)
 refine xg 1 [] rfl rfl ?_
 refine g_alloc rfl rfl Try.zeroValue28 rfl (fun b10 => ?_)
 refine xg 1 [0] rfl (by omega) ?_
 refine ntso_ ?_
 refine xg 3 [0] rfl (by omega) ?_
 refine g_c1 (m_find ⟨l, true⟩ (.mk 2 s0 0 0 0 (.slice (some ⟨b9, 0, none⟩) 3 3) [begM, (.mk nk ns nm nx nu (.slice pv nq.length cv) nq), endM]) 0 (by show l.length ≤ _; omega) (by rw [wT_three]; have := parX_size hpar; dsimp only at this; omega)) (fun w hS => rd_node rfl (hS.cells (i := 1) rfl) (rdL_cons.2 ⟨rd_leaf, rdL_cons.2 ⟨forest_rd hS (i := 3) rfl, rdL_cons.2 ⟨rd_leaf, rdL_nil⟩⟩⟩)) rfl rfl rfl ?_
 obtain ⟨r, hr, r0, r1, r2⟩ := anch_yes (x := ⟨l, true⟩) (t := (.mk nk ns nm nx nu (.slice pv nq.length cv) nq)) (s := s0) (a := 0) (b := 0) (c := 0) (v := .slice (some ⟨b9, 0, none⟩) 3 3) (show l.length ≤ 1024 by omega) rfl hm
 have r3 : (r.1 0).2 = l.length := r2
 rw [hr, r0]
 refine xg 3 [] rfl rfl ?_
 refine g_alloc rfl rfl Try.zeroValue36 rfl (fun b11 => ?_)
 refine xg 2 [0] rfl (by omega) ?_
 refine ntso_ ?_
 refine xg 3 [3] rfl (by omega) ?_
 refine g_val (v := .int .i64 (l.length : Int)) rfl rfl rfl (y_val (y_slen rfl Try.underlying9) (by rw [size_mk])) ?_
 refine xg 1 [] rfl rfl ?_
 refine g_c1 (m_is ⟨l, true⟩ (.mk nk ns nm nx nu (.slice pv nq.length cv) nq) 0 (l.length : Int) (by show l.length ≤ _; omega) (by have := parX_size hpar; dsimp only at this; omega)) (fun w hS => forest_rd hS (i := 4) rfl) rfl rfl rfl ?_
 rw [show isS ⟨l, true⟩ (.mk nk ns nm nx nu (.slice pv nq.length cv) nq) 0 (l.length : Int) = mM ⟨l, true⟩ (.mk nk ns nm nx nu (.slice pv nq.length cv) nq) 0 l.length from isS_whole (x := ⟨l, true⟩)]
 rw [hm]
 refine xg 1 [] rfl rfl ?_
 refine n_ (t_ (s_ (s_ (o_ ?_))))
 refine xg 5 [] rfl rfl ?_
 refine g_val rfl rfl rfl (y_lit false (y_bne rfl rfl (by kernel_rfl)) (rfl)) ?_
 refine n_ (t_ (g_cond_f rfl (g_skip (t_ (s_ (o_ ?_))))))
 refine g_call1 rfl rfl rfl Try.call13 (fun w hS => alive_any w (hS.maxHere hz (by simp))) ?_
 refine xg 13 [0,1,0] rfl (by omega) ?_
 refine g_val (v := .int .i64 (l.length : Int)) rfl rfl rfl (y_val (y_slen rfl Try.underlying9) (by rw [size_mk])) ?_
 refine xg 5 [1] rfl (by omega) ?_
 refine n_ (t_ (g_ret ?_))
 refine g_end1 Try.results11 rfl ?_
 exact fun w hS => ⟨rfl, hS.below⟩

theorem manch_law (s t : ByteArray) (b : Bool) (hs : s.size ≤ maxLen) (ht : t.size ≤ maxLen) (w : World) (hsh : w.ShapedOpen Try.prog) : Calls Try.prog 11 #[.string s, .string t, .bool b] w fun e w' => e = .returned (.bool true) ∧ Below w.heap.size w w' := by
  have h := manch_any s.data.toList t.data.toList b (by rw [Array.length_toList]; exact hs) (by rw [Array.length_toList]; exact ht) w (maxHere_of hsh)
  unfold st8 at h
  rw [Array.toArray_toList, Array.toArray_toList] at h
  exact h
end Go.Proofs.Ytfcamlkbkehlnaa

/- MatchEither. -/
namespace Go.Proofs.Ytfcamlkbkehlnaa
open Go Go.RowKit

theorem run_eqSp (a b c e : Int) (w : World) : (Op.equalIn 10000 34 (.agg #[.int .i64 a, .int .i64 b]) (.agg #[.int .i64 c, .int .i64 e])).run Try.prog w = .ok (a == c && b == e) w := by
  have u3 := Try.underlying3
  rw [show (10000 : Nat) = 9999 + 1 from rfl, Op.equalIn]
  simp only [Sem.run_bind, run_underlying Try.underlying34, Result.andThen_ok]
  go_simp
  by_cases h1 : a = c <;> by_cases h2 : b = e <;> simp [h1, h2]
theorem run_eqMt (m : Spn) (w : World) : (Op.equalIn 10000 36 (.agg (spC m).toArray) (.agg (spC m).toArray)).run Try.prog w = .ok true w := by
  rw [show (10000 : Nat) = 9999 + 1 from rfl, Op.equalIn]
  unfold spC
  simp only [Sem.run_bind, run_underlying Try.underlying36, Result.andThen_ok]
  simp only [Std.Legacy.Range.forIn_eq_forIn_range', Std.Legacy.Range.size, Nat.sub_zero, Nat.add_sub_cancel, Nat.div_one, List.range'_succ, List.range'_zero, List.forIn_cons, List.forIn_nil]
  go_simp
section
variable {N : Nat} {R : Regs} {S : World → Prop} {dst : Option Tmp} {ty t' : TypeId} {pos : String} {af : Array Edge} {gd : Option (Nat × Bool)} {x y : Operand}
theorem y_spEq {a b c e : Int} (hx : ev R x = some (.agg #[.int .i64 a, .int .i64 b])) (hy : ev R y = some (.agg #[.int .i64 c, .int .i64 e])) : Yv Try.prog N R S ⟨dst, .binOp .eql 34 x y t', ty, pos, af, gd⟩ (.bool (a == c && b == e)) :=
  y_bin hx hy fun w => by
    rw [Sem.run_bind, run_eqGuard_agg w _ _ _ _ _ _ (by kernel_rfl), Result.andThen_ok, run_eql_struct, run_eqSp]; rfl
theorem y_spNe {a b c e : Int} (hx : ev R x = some (.agg #[.int .i64 a, .int .i64 b])) (hy : ev R y = some (.agg #[.int .i64 c, .int .i64 e])) : Yv Try.prog N R S ⟨dst, .binOp .neq 34 x y t', ty, pos, af, gd⟩ (.bool (!(a == c && b == e))) :=
  y_bin hx hy fun w => by
    rw [Sem.run_bind, run_eqGuard_agg w _ _ _ _ _ _ (by kernel_rfl), Result.andThen_ok, run_neq_struct, run_eqSp]; rfl
theorem y_mtEq (m : Spn) (hx : ev R x = some (.agg (spC m).toArray)) (hy : ev R y = some (.agg (spC m).toArray)) : Yv Try.prog N R S ⟨dst, .binOp .eql 36 x y t', ty, pos, af, gd⟩ (.bool true) :=
  y_bin hx hy fun w => by
    rw [Sem.run_bind, run_eqGuard_agg w _ _ _ _ _ _ (by kernel_rfl), Result.andThen_ok, run_eql_struct, run_eqMt]; rfl
end
theorem findR_v {x : Tx} {k : Int} {s : Nat → Int} {a b c : Int} {v : Value} (u : Value) {q : List MT} {fr : Int} : findR x (.mk k s a b c v q) fr = findR x (.mk k s a b c u q) fr := by rw [← findR_er, er_mk, ← findR_er x (.mk k s a b c u q), er_mk]
theorem mM_ei {x : Tx} {s : Nat → Int} {a b c : Int} {v : Value} {t u : MT} {i j : Nat} : mM x (.mk 3 s a b c v [t, u]) i j = (mM x t i j || mM x u i j) := by
  rw [mM_mk, if_neg (by decide), if_neg (by decide), if_neg (by decide), if_neg (by decide), if_pos rfl, mAny_cons, mAny_cons, mAny_nil, Bool.or_false]
/-- What is found of either of two, by what is found of each. -/
theorem eith (x : Tx) (t u : MT) (s : Nat → Int) (a b c : Int) (hn : x.n ≤ 1024) : ∃ r p q : Spn × Bool, findR x t 0 = r ∧ findR x u 0 = p ∧ findR x (.mk 3 s a b c nilS [t, u]) 0 = q ∧
    ((r.2 = true ∧ p.2 = true ∧ q.2 = true ∧ (r.1 0).1 < (p.1 0).1 ∧ q.1 0 = r.1 0) ∨
    (r.2 = true ∧ p.2 = true ∧ q.2 = true ∧ (p.1 0).1 < (r.1 0).1 ∧ q.1 0 = p.1 0) ∨
    (r.2 = true ∧ p.2 = true ∧ q.2 = true ∧ (p.1 0).1 = (r.1 0).1 ∧ (r.1 0).2 < (p.1 0).2 ∧ q.1 0 = p.1 0) ∨
    (r.2 = true ∧ p.2 = true ∧ q.2 = true ∧ (p.1 0).1 = (r.1 0).1 ∧ (p.1 0).2 ≤ (r.1 0).2 ∧ q.1 0 = r.1 0) ∨
    (r.2 = true ∧ p.2 = false ∧ q.2 = true ∧ q.1 0 = r.1 0) ∨ (r.2 = false ∧ p.2 = true ∧ q.2 = true ∧ q.1 0 = p.1 0) ∨ (r.2 = false ∧ p.2 = false ∧ q.2 = false)) := by
  have key : ∀ i j, First x (.mk 3 s a b c nilS [t, u]) 0 i j → ∃ m : Spn, findR x (.mk 3 s a b c nilS [t, u]) 0 = (m, true) ∧ m 0 = ((i : Int), (j : Int)) := fun i j h => ⟨_, findR_yes (f := 0) hn h, by rw [gM_0]; rfl⟩
  have f0 : ∀ {w : MT} {i j : Nat}, (gM x w i j (setS mN 0 ((i : Int), (j : Int)))) 0 = ((i : Int), (j : Int)) := by intro w i j; rw [gM_0]; rfl
  have fst : ∀ {w v : MT} {i j : Nat}, First x w 0 i j → (∀ p q, p < i → mM x v p q = false) → (∀ q, j < q → mM x v i q = false) → ∀ z, (∀ p q, mM x z p q = (mM x w p q || mM x v p q)) → First x z 0 i j := by
    intro w v i j h h1 h2 z hz
    exact ⟨h.1, h.2.1, by rw [hz, h.2.2.1]; rfl, fun p q h3 h4 => by rw [hz, h.2.2.2.1 p q h3 h4, h1 p q h4]; rfl, fun q h3 => by rw [hz, h.2.2.2.2 q h3, h2 q h3]; rfl⟩
  have z1 : ∀ p q, mM x (.mk 3 s a b c nilS [t, u]) p q = (mM x t p q || mM x u p q) := fun p q => mM_ei
  have z2 : ∀ p q, mM x (.mk 3 s a b c nilS [t, u]) p q = (mM x u p q || mM x t p q) := fun p q => by rw [mM_ei, Bool.or_comm]
  rcases findR_cases x t 0 (Nat.zero_le _) hn with ⟨i, j, hA, eA⟩ | ⟨hA, eA⟩ <;> rcases findR_cases x u 0 (Nat.zero_le _) hn with ⟨i', j', hB, eB⟩ | ⟨hB, eB⟩
  · rcases Nat.lt_trichotomy i i' with hlt | heq | hgt
    · obtain ⟨m, e1, e2⟩ := key i j (fst hA (fun p q hp => hB.2.2.2.1 p q (Nat.zero_le _) (by omega)) (fun q hq => hB.2.2.2.1 i q (Nat.zero_le _) hlt) _ z1)
      refine ⟨_, _, _, eA, eB, e1, .inl ⟨rfl, rfl, rfl, ?_, ?_⟩⟩
      · dsimp only; rw [f0, f0]; dsimp only; omega
      · dsimp only; rw [f0, e2]
    · subst heq
      by_cases hj : j < j'
      · obtain ⟨m, e1, e2⟩ := key i j' (fst hB (fun p q hp => hA.2.2.2.1 p q (Nat.zero_le _) (by omega)) (fun q hq => hA.2.2.2.2 q (by omega)) _ z2)
        refine ⟨_, _, _, eA, eB, e1, .inr (.inr (.inl ⟨rfl, rfl, rfl, ?_, ?_, ?_⟩))⟩
        · dsimp only; rw [f0, f0]
        · dsimp only; rw [f0, f0]; dsimp only; omega
        · dsimp only; rw [f0, e2]
      · obtain ⟨m, e1, e2⟩ := key i j (fst hA (fun p q hp => hB.2.2.2.1 p q (Nat.zero_le _) (by omega)) (fun q hq => hB.2.2.2.2 q (by omega)) _ z1)
        refine ⟨_, _, _, eA, eB, e1, .inr (.inr (.inr (.inl ⟨rfl, rfl, rfl, ?_, ?_, ?_⟩)))⟩
        · dsimp only; rw [f0, f0]
        · dsimp only; rw [f0, f0]; dsimp only; omega
        · dsimp only; rw [f0, e2]
    · obtain ⟨m, e1, e2⟩ := key i' j' (fst hB (fun p q hp => hA.2.2.2.1 p q (Nat.zero_le _) (by omega)) (fun q hq => hA.2.2.2.1 i' q (Nat.zero_le _) hgt) _ z2)
      refine ⟨_, _, _, eA, eB, e1, .inr (.inl ⟨rfl, rfl, rfl, ?_, ?_⟩)⟩
      · dsimp only; rw [f0, f0]; dsimp only; omega
      · dsimp only; rw [f0, e2]
  · obtain ⟨m, e1, e2⟩ := key i j (fst hA (fun p q hp => hB p q (Nat.zero_le _) (by have := hA.2.1; omega)) (fun q hq => hB i q (Nat.zero_le _) hA.2.1) _ z1)
    exact ⟨_, _, _, eA, eB, e1, .inr (.inr (.inr (.inr (.inl ⟨rfl, rfl, rfl, by dsimp only; rw [f0, e2]⟩))))⟩
  · obtain ⟨m, e1, e2⟩ := key i' j' (fst hB (fun p q hp => hA p q (Nat.zero_le _) (by have := hB.2.1; omega)) (fun q hq => hA i' q (Nat.zero_le _) hB.2.1) _ z2)
    exact ⟨_, _, _, eA, eB, e1, .inr (.inr (.inr (.inr (.inr (.inl ⟨rfl, rfl, rfl, by dsimp only; rw [f0, e2]⟩)))))⟩
  · exact ⟨_, _, _, eA, eB, findR_no (f := 0) (fun p q hp hq => by rw [z1, hA p q hp hq, hB p q hp hq]; rfl), .inr (.inr (.inr (.inr (.inr (.inr ⟨rfl, rfl, rfl⟩)))))⟩
theorem wT_two {k : Int} {s : Nat → Int} {a b c : Int} {v : Value} {t u : MT} : wT (.mk k s a b c v [t, u]) = wT t + wT u + 1 := by
  simp only [wT_mk, wL]; omega

set_option maxRecDepth 100000 in
theorem meith_any (a b l : List UInt8) (ha : a.length ≤ maxLen) (hb : b.length ≤ maxLen) (hl : l.length ≤ maxLen) (w : World) (hz : MaxHere w) :
    Calls Try.prog 7 #[.agg #[st8 a, st8 b], st8 l] w fun e w' => e = .returned (.bool true) ∧ Below w.heap.size w w' := by
 have hmax : maxLen = 9223372036854775807 := rfl
 refine fn_intro Try.func7 rfl Try.ntmps7 rfl rfl ?_
 refine s_ (o_ ?_)
 refine g_box rfl rfl rfl rfl (fun b1 => ?_)
 refine xg 1 [] rfl rfl ?_
 refine ntso_ ?_
 refine xg 2 [0] rfl (by omega) ?_
 refine g_callNew (fun x : {x : MT × Int // parX true a x} => .tuple #[.agg (nC x.1.1).toArray, .int .i64 x.1.2]) (fun x => [.forest [x.1.1]]) rfl rfl rfl Try.call16 (fun w hS => parse_xe a w (hS.maxHere hz (by simp))) ?_
 rintro ⟨⟨ta, erna⟩, hpara⟩
 obtain ⟨nka, nsa, nma, nxa, nua, nva, nqa⟩ := ta
 refine g_kids 0 rfl (fun pva cva hva => ?_)
 cases hva
 dsimp only
 simp only [List.cons_append, List.nil_append]
 refine xg 3 [] rfl rfl ?_
 refine g_alloc rfl rfl Try.zeroValue28 rfl (fun b2 => ?_)
 refine xg 2 [0] rfl (by omega) ?_
 refine ntso_ ?_
 refine xg 2 [2] rfl (by omega) ?_
 refine g_callNew (fun x : {x : MT × Int // parX true b x} => .tuple #[.agg (nC x.1.1).toArray, .int .i64 x.1.2]) (fun x => [.forest [x.1.1]]) rfl rfl rfl Try.call16 (fun w hS => parse_xe b w (hS.maxHere hz (by simp))) ?_
 rintro ⟨⟨tb, ernb⟩, hparb⟩
 obtain ⟨nkb, nsb, nmb, nxb, nub, nvb, nqb⟩ := tb
 refine g_kids 0 rfl (fun pvb cvb hvb => ?_)
 cases hvb
 dsimp only
 simp only [List.cons_append, List.nil_append]
 refine xg 3 [] rfl rfl ?_
 refine g_alloc rfl rfl Try.zeroValue28 rfl (fun b3 => ?_)
 refine xg 2 [0] rfl (by omega) ?_
 refine n_ (t_ (s_ (s_ (o_ ?_))))
 refine xg 2 [4] rfl (by omega) ?_
 refine g_val (v := .int .i64 (a.length : Int)) rfl rfl rfl (y_val (y_slen rfl Try.underlying9) (by rw [size_mk])) ?_
 refine xg 2 [0] rfl rfl ?_
 refine g_casep 32 rfl (fun h1 => ?_) fun h1 => ?_
 ·refine xg 18 [] rfl rfl ?_
  refine n_ (t_ (g_cond_t rfl (s_ (o_ ?_))))
  refine g_call1 rfl rfl rfl Try.call13 (fun w hS => alive_any w (hS.maxHere hz (by simp))) ?_
  refine xg 1 [] rfl rfl ?_
  refine n_ (t_ (g_ret (g_then_ret ?_)))
  refine g_end1 Try.results7 rfl ?_
  exact fun w hS => ⟨rfl, hS.below⟩
 refine xg 2 [4] rfl (by omega) ?_
 refine g_val (v := .int .i64 (b.length : Int)) rfl rfl rfl (y_val (y_slen rfl Try.underlying9) (by rw [size_mk])) ?_
 refine xg 3 [0] rfl rfl ?_
 refine g_casep 38 rfl (fun h2 => ?_) fun h2 => ?_
 ·refine xg 12 [] rfl rfl ?_
  refine n_ (t_ (g_cond_t rfl (s_ (o_ ?_))))
  refine g_call1 rfl rfl rfl Try.call13 (fun w hS => alive_any w (hS.maxHere hz (by simp))) ?_
  refine xg 1 [] rfl rfl ?_
  refine n_ (t_ (g_ret (g_then_ret ?_)))
  refine g_end1 Try.results7 rfl ?_
  exact fun w hS => ⟨rfl, hS.below⟩
 refine xg 4 [0] rfl rfl ?_
 refine g_casep 42 rfl (fun h3 => ?_) fun h3 => ?_
 ·refine xg 8 [] rfl rfl ?_
  refine n_ (t_ (g_cond_t rfl (s_ (o_ ?_))))
  refine g_call1 rfl rfl rfl Try.call13 (fun w hS => alive_any w (hS.maxHere hz (by simp))) ?_
  refine xg 1 [] rfl rfl ?_
  refine n_ (t_ (g_ret (g_then_ret ?_)))
  refine g_end1 Try.results7 rfl ?_
  exact fun w hS => ⟨rfl, hS.below⟩
 refine xg 4 [0] rfl rfl ?_
 refine g_casep 46 rfl (fun h4 => ?_) fun h4 => ?_
 ·refine xg 4 [] rfl rfl ?_
  refine n_ (t_ (g_cond_t rfl (s_ (o_ ?_))))
  refine g_call1 rfl rfl rfl Try.call13 (fun w hS => alive_any w (hS.maxHere hz (by simp))) ?_
  refine xg 1 [] rfl rfl ?_
  refine n_ (t_ (g_ret (g_then_ret ?_)))
  refine g_end1 Try.results7 rfl ?_
  exact fun w hS => ⟨rfl, hS.below⟩
 refine xg 1 [] rfl rfl ?_
 refine g_val (v := .int .i64 (l.length : Int)) rfl rfl rfl (y_val (y_slen rfl Try.underlying9) (by rw [size_mk])) ?_
 refine xg 2 [0] rfl rfl ?_
 refine n_ (t_ ?_)
 refine g_casep 50 rfl (fun h5 => ?_) fun h5 => ?_
 ·refine g_cond_t rfl (s_ (o_ ?_))
  refine g_call1 rfl rfl rfl Try.call13 (fun w hS => alive_any w (hS.maxHere hz (by simp))) ?_
  refine xg 1 [] rfl rfl ?_
  refine n_ (t_ (g_ret (g_then_ret ?_)))
  refine g_end1 Try.results7 rfl ?_
  exact fun w hS => ⟨rfl, hS.below⟩
 refine g_cond_f rfl (g_skip (t_ (s_ ?_)))
 obtain rfl : erna = 0 := by omega
 obtain rfl : ernb = 0 := by omega
 obtain ⟨r, p, z, er, ep, ez, hc⟩ := eith ⟨l, true⟩ (.mk nka nsa nma nxa nua (.slice pva nqa.length cva) nqa) (.mk nkb nsb nmb nxb nub (.slice pvb nqb.length cvb) nqb) s0 0 0 0 (show l.length ≤ 1024 by omega)
 rcases hc with ⟨r2, p2, z2, c1, c2⟩ | ⟨r2, p2, z2, c1, c2⟩ | ⟨r2, p2, z2, c1, c3, c2⟩ | ⟨r2, p2, z2, c1, c3, c2⟩ | ⟨r2, p2, z2, c2⟩ | ⟨r2, p2, z2, c2⟩ | ⟨r2, p2, z2⟩
 ·have c4 := congrArg Prod.fst c2
  have c5 := congrArg Prod.snd c2
  refine o_ ?_
  refine xg 2 [2] rfl (by omega) ?_
  refine g_c1 (m_find ⟨l, true⟩ (.mk nka nsa nma nxa nua (.slice pva nqa.length cva) nqa) 0 (by show l.length ≤ _; omega) (by have := parX_size hpara; dsimp only at this; omega)) (fun w hS => forest_rd hS (i := 3) rfl) rfl rfl rfl ?_
  rw [er, r2]
  refine xg 3 [] rfl rfl ?_
  refine g_alloc rfl rfl Try.zeroValue36 rfl (fun b4 => ?_)
  refine xg 2 [0] rfl (by omega) ?_
  refine ntso_ ?_
  refine xg 2 [1] rfl (by omega) ?_
  refine g_c1 (m_find ⟨l, true⟩ (.mk nkb nsb nmb nxb nub (.slice pvb nqb.length cvb) nqb) 0 (by show l.length ≤ _; omega) (by have := parX_size hparb; dsimp only at this; omega)) (fun w hS => forest_rd hS (i := 2) rfl) rfl rfl rfl ?_
  rw [ep, p2]
  refine xg 3 [] rfl rfl ?_
  refine g_alloc rfl rfl Try.zeroValue36 rfl (fun b5 => ?_)
  refine xg 2 [0] rfl (by omega) ?_
  refine ntso_ ?_
  refine xg 2 [4,2] rfl (by omega) ?_
  refine g_buildSlice (offs := [0, 9]) rfl rfl Try.underlying26 rfl Try.zeroValue28 (by kernel_rfl) (fun b6 => ?_)
  refine xg 2 [] rfl rfl ?_
  refine g_c1 (m_find ⟨l, true⟩ (.mk 3 s0 0 0 0 (.slice (some ⟨b6, 0, none⟩) 2 2) [(.mk nka nsa nma nxa nua (.slice pva nqa.length cva) nqa), (.mk nkb nsb nmb nxb nub (.slice pvb nqb.length cvb) nqb)]) 0 (by show l.length ≤ _; omega) (by rw [wT_two]; have h1 := parX_size hpara; dsimp only at h1; have h2 := parX_size hparb; dsimp only at h2; omega)) (fun w hS => rd_node rfl (hS.cells (i := 0) rfl) (rdL_cons.2 ⟨forest_rd hS (i := 6) rfl, rdL_cons.2 ⟨forest_rd hS (i := 4) rfl, rdL_nil⟩⟩)) rfl rfl rfl ?_
  rw [findR_v nilS, ez, z2]
  refine xg 3 [] rfl rfl ?_
  refine g_alloc rfl rfl Try.zeroValue36 rfl (fun b7 => ?_)
  refine xg 2 [0] rfl (by omega) ?_
  refine ntso_ ?_
  refine xg 2 [3] rfl (by omega) ?_
  refine g_alloc rfl rfl Try.zeroValue34 rfl (fun b8 => ?_)
  refine xg 1 [0] rfl (by omega) ?_
  refine n_ (t_ (s_ (s_ (o_ ?_))))
  refine xg 29 [3,0,2,3,0,2] rfl (by omega) ?_
  refine n_ (t_ (g_cond_f rfl (g_skip (t_ (s_ (o_ ?_))))))
  refine g_call1 rfl rfl rfl Try.call13 (fun w hS => alive_any w (hS.maxHere hz (by simp))) ?_
  refine xg 6 [] rfl rfl ?_
  refine g_val rfl rfl rfl (y_lit true (y_beq rfl rfl (by kernel_rfl)) (rfl)) ?_
  refine xg 8 [1,0] rfl (by omega) ?_
  refine g_val (v := .bool true) rfl rfl rfl (y_val (y_spEq rfl rfl) (by rw [show ((z.1 0).1 == (r.1 0).1) = true from beq_iff_eq.2 (by omega), show ((z.1 0).2 == (r.1 0).2) = true from beq_iff_eq.2 (by omega)]; rfl)) ?_
  refine xg 3 [] rfl rfl ?_
  refine n_ (t_ (g_ret ?_))
  refine g_end1 Try.results7 rfl ?_
  exact fun w hS => ⟨rfl, hS.below⟩
 ·have c4 := congrArg Prod.fst c2
  have c5 := congrArg Prod.snd c2
  refine o_ ?_
  refine xg 2 [2] rfl (by omega) ?_
  refine g_c1 (m_find ⟨l, true⟩ (.mk nka nsa nma nxa nua (.slice pva nqa.length cva) nqa) 0 (by show l.length ≤ _; omega) (by have := parX_size hpara; dsimp only at this; omega)) (fun w hS => forest_rd hS (i := 3) rfl) rfl rfl rfl ?_
  rw [er, r2]
  refine xg 3 [] rfl rfl ?_
  refine g_alloc rfl rfl Try.zeroValue36 rfl (fun b9 => ?_)
  refine xg 2 [0] rfl (by omega) ?_
  refine ntso_ ?_
  refine xg 2 [1] rfl (by omega) ?_
  refine g_c1 (m_find ⟨l, true⟩ (.mk nkb nsb nmb nxb nub (.slice pvb nqb.length cvb) nqb) 0 (by show l.length ≤ _; omega) (by have := parX_size hparb; dsimp only at this; omega)) (fun w hS => forest_rd hS (i := 2) rfl) rfl rfl rfl ?_
  rw [ep, p2]
  refine xg 3 [] rfl rfl ?_
  refine g_alloc rfl rfl Try.zeroValue36 rfl (fun b10 => ?_)
  refine xg 2 [0] rfl (by omega) ?_
  refine ntso_ ?_
  refine xg 2 [4,2] rfl (by omega) ?_
  refine g_buildSlice (offs := [0, 9]) rfl rfl Try.underlying26 rfl Try.zeroValue28 (by kernel_rfl) (fun b11 => ?_)
  refine xg 2 [] rfl rfl ?_
  refine g_c1 (m_find ⟨l, true⟩ (.mk 3 s0 0 0 0 (.slice (some ⟨b11, 0, none⟩) 2 2) [(.mk nka nsa nma nxa nua (.slice pva nqa.length cva) nqa), (.mk nkb nsb nmb nxb nub (.slice pvb nqb.length cvb) nqb)]) 0 (by show l.length ≤ _; omega) (by rw [wT_two]; have h1 := parX_size hpara; dsimp only at h1; have h2 := parX_size hparb; dsimp only at h2; omega)) (fun w hS => rd_node rfl (hS.cells (i := 0) rfl) (rdL_cons.2 ⟨forest_rd hS (i := 6) rfl, rdL_cons.2 ⟨forest_rd hS (i := 4) rfl, rdL_nil⟩⟩)) rfl rfl rfl ?_
  rw [findR_v nilS, ez, z2]
  refine xg 3 [] rfl rfl ?_
  refine g_alloc rfl rfl Try.zeroValue36 rfl (fun b12 => ?_)
  refine xg 2 [0] rfl (by omega) ?_
  refine ntso_ ?_
  refine xg 2 [3] rfl (by omega) ?_
  refine g_alloc rfl rfl Try.zeroValue34 rfl (fun b13 => ?_)
  refine xg 1 [0] rfl (by omega) ?_
  refine n_ (t_ (s_ (s_ (o_ ?_))))
  refine xg 29 [3,0,1] rfl (by omega) ?_
  refine n_ (t_ (g_cond_t rfl (o_ ?_)))
  refine xg 3 [3,0] rfl (by omega) ?_
  refine ntso_ ?_
  refine g_call1 rfl rfl rfl Try.call13 (fun w hS => alive_any w (hS.maxHere hz (by simp))) ?_
  refine xg 6 [] rfl rfl ?_
  refine g_val rfl rfl rfl (y_lit true (y_beq rfl rfl (by kernel_rfl)) (rfl)) ?_
  refine xg 8 [1,0] rfl (by omega) ?_
  refine g_val (v := .bool true) rfl rfl rfl (y_val (y_spEq rfl rfl) (by rw [show ((z.1 0).1 == (p.1 0).1) = true from beq_iff_eq.2 (by omega), show ((z.1 0).2 == (p.1 0).2) = true from beq_iff_eq.2 (by omega)]; rfl)) ?_
  refine xg 3 [] rfl rfl ?_
  refine n_ (t_ (g_ret ?_))
  refine g_end1 Try.results7 rfl ?_
  exact fun w hS => ⟨rfl, hS.below⟩
 ·have c4 := congrArg Prod.fst c2
  have c5 := congrArg Prod.snd c2
  refine o_ ?_
  refine xg 2 [2] rfl (by omega) ?_
  refine g_c1 (m_find ⟨l, true⟩ (.mk nka nsa nma nxa nua (.slice pva nqa.length cva) nqa) 0 (by show l.length ≤ _; omega) (by have := parX_size hpara; dsimp only at this; omega)) (fun w hS => forest_rd hS (i := 3) rfl) rfl rfl rfl ?_
  rw [er, r2]
  refine xg 3 [] rfl rfl ?_
  refine g_alloc rfl rfl Try.zeroValue36 rfl (fun b14 => ?_)
  refine xg 2 [0] rfl (by omega) ?_
  refine ntso_ ?_
  refine xg 2 [1] rfl (by omega) ?_
  refine g_c1 (m_find ⟨l, true⟩ (.mk nkb nsb nmb nxb nub (.slice pvb nqb.length cvb) nqb) 0 (by show l.length ≤ _; omega) (by have := parX_size hparb; dsimp only at this; omega)) (fun w hS => forest_rd hS (i := 2) rfl) rfl rfl rfl ?_
  rw [ep, p2]
  refine xg 3 [] rfl rfl ?_
  refine g_alloc rfl rfl Try.zeroValue36 rfl (fun b15 => ?_)
  refine xg 2 [0] rfl (by omega) ?_
  refine ntso_ ?_
  refine xg 2 [4,2] rfl (by omega) ?_
  refine g_buildSlice (offs := [0, 9]) rfl rfl Try.underlying26 rfl Try.zeroValue28 (by kernel_rfl) (fun b16 => ?_)
  refine xg 2 [] rfl rfl ?_
  refine g_c1 (m_find ⟨l, true⟩ (.mk 3 s0 0 0 0 (.slice (some ⟨b16, 0, none⟩) 2 2) [(.mk nka nsa nma nxa nua (.slice pva nqa.length cva) nqa), (.mk nkb nsb nmb nxb nub (.slice pvb nqb.length cvb) nqb)]) 0 (by show l.length ≤ _; omega) (by rw [wT_two]; have h1 := parX_size hpara; dsimp only at h1; have h2 := parX_size hparb; dsimp only at h2; omega)) (fun w hS => rd_node rfl (hS.cells (i := 0) rfl) (rdL_cons.2 ⟨forest_rd hS (i := 6) rfl, rdL_cons.2 ⟨forest_rd hS (i := 4) rfl, rdL_nil⟩⟩)) rfl rfl rfl ?_
  rw [findR_v nilS, ez, z2]
  refine xg 3 [] rfl rfl ?_
  refine g_alloc rfl rfl Try.zeroValue36 rfl (fun b17 => ?_)
  refine xg 2 [0] rfl (by omega) ?_
  refine ntso_ ?_
  refine xg 2 [3] rfl (by omega) ?_
  refine g_alloc rfl rfl Try.zeroValue34 rfl (fun b18 => ?_)
  refine xg 1 [0] rfl (by omega) ?_
  refine n_ (t_ (s_ (s_ (o_ ?_))))
  refine xg 29 [3,0,2,3,0,1,3,0,1] rfl (by omega) ?_
  refine n_ (t_ (g_cond_t rfl (o_ ?_)))
  refine xg 3 [3,0] rfl (by omega) ?_
  refine ntso_ ?_
  refine g_call1 rfl rfl rfl Try.call13 (fun w hS => alive_any w (hS.maxHere hz (by simp))) ?_
  refine xg 6 [] rfl rfl ?_
  refine g_val rfl rfl rfl (y_lit true (y_beq rfl rfl (by kernel_rfl)) (rfl)) ?_
  refine xg 8 [1,0] rfl (by omega) ?_
  refine g_val (v := .bool true) rfl rfl rfl (y_val (y_spEq rfl rfl) (by rw [show ((z.1 0).1 == (p.1 0).1) = true from beq_iff_eq.2 (by omega), show ((z.1 0).2 == (p.1 0).2) = true from beq_iff_eq.2 (by omega)]; rfl)) ?_
  refine xg 3 [] rfl rfl ?_
  refine n_ (t_ (g_ret ?_))
  refine g_end1 Try.results7 rfl ?_
  exact fun w hS => ⟨rfl, hS.below⟩
 ·have c4 := congrArg Prod.fst c2
  have c5 := congrArg Prod.snd c2
  refine o_ ?_
  refine xg 2 [2] rfl (by omega) ?_
  refine g_c1 (m_find ⟨l, true⟩ (.mk nka nsa nma nxa nua (.slice pva nqa.length cva) nqa) 0 (by show l.length ≤ _; omega) (by have := parX_size hpara; dsimp only at this; omega)) (fun w hS => forest_rd hS (i := 3) rfl) rfl rfl rfl ?_
  rw [er, r2]
  refine xg 3 [] rfl rfl ?_
  refine g_alloc rfl rfl Try.zeroValue36 rfl (fun b19 => ?_)
  refine xg 2 [0] rfl (by omega) ?_
  refine ntso_ ?_
  refine xg 2 [1] rfl (by omega) ?_
  refine g_c1 (m_find ⟨l, true⟩ (.mk nkb nsb nmb nxb nub (.slice pvb nqb.length cvb) nqb) 0 (by show l.length ≤ _; omega) (by have := parX_size hparb; dsimp only at this; omega)) (fun w hS => forest_rd hS (i := 2) rfl) rfl rfl rfl ?_
  rw [ep, p2]
  refine xg 3 [] rfl rfl ?_
  refine g_alloc rfl rfl Try.zeroValue36 rfl (fun b20 => ?_)
  refine xg 2 [0] rfl (by omega) ?_
  refine ntso_ ?_
  refine xg 2 [4,2] rfl (by omega) ?_
  refine g_buildSlice (offs := [0, 9]) rfl rfl Try.underlying26 rfl Try.zeroValue28 (by kernel_rfl) (fun b21 => ?_)
  refine xg 2 [] rfl rfl ?_
  refine g_c1 (m_find ⟨l, true⟩ (.mk 3 s0 0 0 0 (.slice (some ⟨b21, 0, none⟩) 2 2) [(.mk nka nsa nma nxa nua (.slice pva nqa.length cva) nqa), (.mk nkb nsb nmb nxb nub (.slice pvb nqb.length cvb) nqb)]) 0 (by show l.length ≤ _; omega) (by rw [wT_two]; have h1 := parX_size hpara; dsimp only at h1; have h2 := parX_size hparb; dsimp only at h2; omega)) (fun w hS => rd_node rfl (hS.cells (i := 0) rfl) (rdL_cons.2 ⟨forest_rd hS (i := 6) rfl, rdL_cons.2 ⟨forest_rd hS (i := 4) rfl, rdL_nil⟩⟩)) rfl rfl rfl ?_
  rw [findR_v nilS, ez, z2]
  refine xg 3 [] rfl rfl ?_
  refine g_alloc rfl rfl Try.zeroValue36 rfl (fun b22 => ?_)
  refine xg 2 [0] rfl (by omega) ?_
  refine ntso_ ?_
  refine xg 2 [3] rfl (by omega) ?_
  refine g_alloc rfl rfl Try.zeroValue34 rfl (fun b23 => ?_)
  refine xg 1 [0] rfl (by omega) ?_
  refine n_ (t_ (s_ (s_ (o_ ?_))))
  refine xg 29 [3,0,2,3,0,1,3,0,2] rfl (by omega) ?_
  refine n_ (t_ (g_cond_f rfl (g_skip (t_ (s_ (o_ ?_))))))
  refine g_call1 rfl rfl rfl Try.call13 (fun w hS => alive_any w (hS.maxHere hz (by simp))) ?_
  refine xg 6 [] rfl rfl ?_
  refine g_val rfl rfl rfl (y_lit true (y_beq rfl rfl (by kernel_rfl)) (rfl)) ?_
  refine xg 8 [1,0] rfl (by omega) ?_
  refine g_val (v := .bool true) rfl rfl rfl (y_val (y_spEq rfl rfl) (by rw [show ((z.1 0).1 == (r.1 0).1) = true from beq_iff_eq.2 (by omega), show ((z.1 0).2 == (r.1 0).2) = true from beq_iff_eq.2 (by omega)]; rfl)) ?_
  refine xg 3 [] rfl rfl ?_
  refine n_ (t_ (g_ret ?_))
  refine g_end1 Try.results7 rfl ?_
  exact fun w hS => ⟨rfl, hS.below⟩
 ·have c4 := congrArg Prod.fst c2
  have c5 := congrArg Prod.snd c2
  refine o_ ?_
  refine xg 2 [2] rfl (by omega) ?_
  refine g_c1 (m_find ⟨l, true⟩ (.mk nka nsa nma nxa nua (.slice pva nqa.length cva) nqa) 0 (by show l.length ≤ _; omega) (by have := parX_size hpara; dsimp only at this; omega)) (fun w hS => forest_rd hS (i := 3) rfl) rfl rfl rfl ?_
  rw [er, r2]
  refine xg 3 [] rfl rfl ?_
  refine g_alloc rfl rfl Try.zeroValue36 rfl (fun b24 => ?_)
  refine xg 2 [0] rfl (by omega) ?_
  refine ntso_ ?_
  refine xg 2 [1] rfl (by omega) ?_
  refine g_c1 (m_find ⟨l, true⟩ (.mk nkb nsb nmb nxb nub (.slice pvb nqb.length cvb) nqb) 0 (by show l.length ≤ _; omega) (by have := parX_size hparb; dsimp only at this; omega)) (fun w hS => forest_rd hS (i := 2) rfl) rfl rfl rfl ?_
  rw [ep, p2]
  refine xg 3 [] rfl rfl ?_
  refine g_alloc rfl rfl Try.zeroValue36 rfl (fun b25 => ?_)
  refine xg 2 [0] rfl (by omega) ?_
  refine ntso_ ?_
  refine xg 2 [4,2] rfl (by omega) ?_
  refine g_buildSlice (offs := [0, 9]) rfl rfl Try.underlying26 rfl Try.zeroValue28 (by kernel_rfl) (fun b26 => ?_)
  refine xg 2 [] rfl rfl ?_
  refine g_c1 (m_find ⟨l, true⟩ (.mk 3 s0 0 0 0 (.slice (some ⟨b26, 0, none⟩) 2 2) [(.mk nka nsa nma nxa nua (.slice pva nqa.length cva) nqa), (.mk nkb nsb nmb nxb nub (.slice pvb nqb.length cvb) nqb)]) 0 (by show l.length ≤ _; omega) (by rw [wT_two]; have h1 := parX_size hpara; dsimp only at h1; have h2 := parX_size hparb; dsimp only at h2; omega)) (fun w hS => rd_node rfl (hS.cells (i := 0) rfl) (rdL_cons.2 ⟨forest_rd hS (i := 6) rfl, rdL_cons.2 ⟨forest_rd hS (i := 4) rfl, rdL_nil⟩⟩)) rfl rfl rfl ?_
  rw [findR_v nilS, ez, z2]
  refine xg 3 [] rfl rfl ?_
  refine g_alloc rfl rfl Try.zeroValue36 rfl (fun b27 => ?_)
  refine xg 2 [0] rfl (by omega) ?_
  refine ntso_ ?_
  refine xg 2 [3] rfl (by omega) ?_
  refine g_alloc rfl rfl Try.zeroValue34 rfl (fun b28 => ?_)
  refine xg 1 [0] rfl (by omega) ?_
  refine n_ (t_ (s_ (s_ (o_ ?_))))
  refine xg 29 [] rfl rfl ?_
  refine n_ (t_ (g_cond_f rfl (g_skip (t_ (s_ (o_ ?_))))))
  refine g_call1 rfl rfl rfl Try.call13 (fun w hS => alive_any w (hS.maxHere hz (by simp))) ?_
  refine xg 6 [] rfl rfl ?_
  refine g_val rfl rfl rfl (y_lit true (y_beq rfl rfl (by kernel_rfl)) (rfl)) ?_
  refine xg 8 [1,0] rfl (by omega) ?_
  refine g_val (v := .bool true) rfl rfl rfl (y_val (y_spEq rfl rfl) (by rw [show ((z.1 0).1 == (r.1 0).1) = true from beq_iff_eq.2 (by omega), show ((z.1 0).2 == (r.1 0).2) = true from beq_iff_eq.2 (by omega)]; rfl)) ?_
  refine xg 3 [] rfl rfl ?_
  refine n_ (t_ (g_ret ?_))
  refine g_end1 Try.results7 rfl ?_
  exact fun w hS => ⟨rfl, hS.below⟩
 ·have c4 := congrArg Prod.fst c2
  have c5 := congrArg Prod.snd c2
  refine o_ ?_
  refine xg 2 [2] rfl (by omega) ?_
  refine g_c1 (m_find ⟨l, true⟩ (.mk nka nsa nma nxa nua (.slice pva nqa.length cva) nqa) 0 (by show l.length ≤ _; omega) (by have := parX_size hpara; dsimp only at this; omega)) (fun w hS => forest_rd hS (i := 3) rfl) rfl rfl rfl ?_
  rw [er, r2]
  refine xg 3 [] rfl rfl ?_
  refine g_alloc rfl rfl Try.zeroValue36 rfl (fun b29 => ?_)
  refine xg 2 [0] rfl (by omega) ?_
  refine ntso_ ?_
  refine xg 2 [1] rfl (by omega) ?_
  refine g_c1 (m_find ⟨l, true⟩ (.mk nkb nsb nmb nxb nub (.slice pvb nqb.length cvb) nqb) 0 (by show l.length ≤ _; omega) (by have := parX_size hparb; dsimp only at this; omega)) (fun w hS => forest_rd hS (i := 2) rfl) rfl rfl rfl ?_
  rw [ep, p2]
  refine xg 3 [] rfl rfl ?_
  refine g_alloc rfl rfl Try.zeroValue36 rfl (fun b30 => ?_)
  refine xg 2 [0] rfl (by omega) ?_
  refine ntso_ ?_
  refine xg 2 [4,2] rfl (by omega) ?_
  refine g_buildSlice (offs := [0, 9]) rfl rfl Try.underlying26 rfl Try.zeroValue28 (by kernel_rfl) (fun b31 => ?_)
  refine xg 2 [] rfl rfl ?_
  refine g_c1 (m_find ⟨l, true⟩ (.mk 3 s0 0 0 0 (.slice (some ⟨b31, 0, none⟩) 2 2) [(.mk nka nsa nma nxa nua (.slice pva nqa.length cva) nqa), (.mk nkb nsb nmb nxb nub (.slice pvb nqb.length cvb) nqb)]) 0 (by show l.length ≤ _; omega) (by rw [wT_two]; have h1 := parX_size hpara; dsimp only at h1; have h2 := parX_size hparb; dsimp only at h2; omega)) (fun w hS => rd_node rfl (hS.cells (i := 0) rfl) (rdL_cons.2 ⟨forest_rd hS (i := 6) rfl, rdL_cons.2 ⟨forest_rd hS (i := 4) rfl, rdL_nil⟩⟩)) rfl rfl rfl ?_
  rw [findR_v nilS, ez, z2]
  refine xg 3 [] rfl rfl ?_
  refine g_alloc rfl rfl Try.zeroValue36 rfl (fun b32 => ?_)
  refine xg 2 [0] rfl (by omega) ?_
  refine ntso_ ?_
  refine xg 2 [3] rfl (by omega) ?_
  refine g_alloc rfl rfl Try.zeroValue34 rfl (fun b33 => ?_)
  refine xg 1 [0] rfl (by omega) ?_
  refine n_ (t_ (s_ (s_ (o_ ?_))))
  refine xg 29 [] rfl rfl ?_
  refine n_ (t_ (g_cond_t rfl (o_ ?_)))
  refine xg 3 [3,0] rfl (by omega) ?_
  refine ntso_ ?_
  refine g_call1 rfl rfl rfl Try.call13 (fun w hS => alive_any w (hS.maxHere hz (by simp))) ?_
  refine xg 6 [] rfl rfl ?_
  refine g_val rfl rfl rfl (y_lit true (y_beq rfl rfl (by kernel_rfl)) (rfl)) ?_
  refine xg 8 [1,0] rfl (by omega) ?_
  refine g_val (v := .bool true) rfl rfl rfl (y_val (y_spEq rfl rfl) (by rw [show ((z.1 0).1 == (p.1 0).1) = true from beq_iff_eq.2 (by omega), show ((z.1 0).2 == (p.1 0).2) = true from beq_iff_eq.2 (by omega)]; rfl)) ?_
  refine xg 3 [] rfl rfl ?_
  refine n_ (t_ (g_ret ?_))
  refine g_end1 Try.results7 rfl ?_
  exact fun w hS => ⟨rfl, hS.below⟩
 refine o_ ?_
 refine xg 2 [2] rfl (by omega) ?_
 refine g_c1 (m_find ⟨l, true⟩ (.mk nka nsa nma nxa nua (.slice pva nqa.length cva) nqa) 0 (by show l.length ≤ _; omega) (by have := parX_size hpara; dsimp only at this; omega)) (fun w hS => forest_rd hS (i := 3) rfl) rfl rfl rfl ?_
 rw [er, r2]
 refine xg 3 [] rfl rfl ?_
 refine g_alloc rfl rfl Try.zeroValue36 rfl (fun b34 => ?_)
 refine xg 2 [0] rfl (by omega) ?_
 refine ntso_ ?_
 refine xg 2 [1] rfl (by omega) ?_
 refine g_c1 (m_find ⟨l, true⟩ (.mk nkb nsb nmb nxb nub (.slice pvb nqb.length cvb) nqb) 0 (by show l.length ≤ _; omega) (by have := parX_size hparb; dsimp only at this; omega)) (fun w hS => forest_rd hS (i := 2) rfl) rfl rfl rfl ?_
 rw [ep, p2]
 refine xg 3 [] rfl rfl ?_
 refine g_alloc rfl rfl Try.zeroValue36 rfl (fun b35 => ?_)
 refine xg 2 [0] rfl (by omega) ?_
 refine ntso_ ?_
 refine xg 2 [4,2] rfl (by omega) ?_
 refine g_buildSlice (offs := [0, 9]) rfl rfl Try.underlying26 rfl Try.zeroValue28 (by kernel_rfl) (fun b36 => ?_)
 refine xg 2 [] rfl rfl ?_
 refine g_c1 (m_find ⟨l, true⟩ (.mk 3 s0 0 0 0 (.slice (some ⟨b36, 0, none⟩) 2 2) [(.mk nka nsa nma nxa nua (.slice pva nqa.length cva) nqa), (.mk nkb nsb nmb nxb nub (.slice pvb nqb.length cvb) nqb)]) 0 (by show l.length ≤ _; omega) (by rw [wT_two]; have h1 := parX_size hpara; dsimp only at h1; have h2 := parX_size hparb; dsimp only at h2; omega)) (fun w hS => rd_node rfl (hS.cells (i := 0) rfl) (rdL_cons.2 ⟨forest_rd hS (i := 6) rfl, rdL_cons.2 ⟨forest_rd hS (i := 4) rfl, rdL_nil⟩⟩)) rfl rfl rfl ?_
 rw [findR_v nilS, ez, z2]
 refine xg 3 [] rfl rfl ?_
 refine g_alloc rfl rfl Try.zeroValue36 rfl (fun b37 => ?_)
 refine xg 2 [0] rfl (by omega) ?_
 refine ntso_ ?_
 refine xg 2 [3] rfl (by omega) ?_
 refine g_alloc rfl rfl Try.zeroValue34 rfl (fun b38 => ?_)
 refine xg 1 [0] rfl (by omega) ?_
 refine n_ (t_ (s_ (s_ (o_ ?_))))
 refine xg 29 [] rfl rfl ?_
 refine n_ (t_ (g_cond_t rfl (o_ ?_)))
 refine xg 3 [3,0] rfl (by omega) ?_
 refine ntso_ ?_
 refine g_call1 rfl rfl rfl Try.call13 (fun w hS => alive_any w (hS.maxHere hz (by simp))) ?_
 refine xg 6 [] rfl rfl ?_
 refine g_val rfl rfl rfl (y_lit true (y_beq rfl rfl (by kernel_rfl)) (rfl)) ?_
 refine xg 12 [] rfl rfl ?_
 refine n_ (t_ (g_ret ?_))
 refine g_end1 Try.results7 rfl ?_
 exact fun w hS => ⟨rfl, hS.below⟩

theorem meith_law (s u t : ByteArray) (hs : s.size ≤ maxLen) (hu : u.size ≤ maxLen) (ht : t.size ≤ maxLen) (w : World) (hsh : w.ShapedOpen Try.prog) : Calls Try.prog 7 #[.agg #[.string s, .string u], .string t] w fun e w' => e = .returned (.bool true) ∧ Below w.heap.size w w' := by
  have h := meith_any s.data.toList u.data.toList t.data.toList (by rw [Array.length_toList]; exact hs) (by rw [Array.length_toList]; exact hu) (by rw [Array.length_toList]; exact ht) w (maxHere_of hsh)
  unfold st8 at h
  rw [Array.toArray_toList, Array.toArray_toList, Array.toArray_toList] at h
  exact h
end Go.Proofs.Ytfcamlkbkehlnaa

/- A tree as an argument, read; few, count. -/
namespace Go.Proofs.Ytfcamlkbkehlnaa
open Go Go.RowKit
open Go.ChangeShapes Go.WideShapes Go.ChangeAt

section
variable {H : Type} {enc : TypeId × Value → H}
theorem trod_u64 {W : World} {base : Nat} {spare : Nat → Bool} {held : Bool} {n : Nat} {cs : List Value} {y : DataW H × List MemPlace} (h : DataW.trod enc Try.prog W base spare held n 23 cs = some y) : ∃ z, cs = [.int .u64 z] := by
  obtain ⟨z, h1, _⟩ := DataW.trod_int Try.underlying23 h; exact ⟨z, h1⟩
theorem fld_of {W : World} {base : Nat} {spare : Nat → Bool} {held : Bool} {n : Nat} {cs : List Value} {fs : Array Field} {xs : List (DataW H × List MemPlace)} (hlen : xs.length = fs.size) (hg : ∀ (i : Nat) (f : Field), fs[i]? = some f → DataW.trod enc Try.prog W base spare held n f.type ((cs.drop f.offset).take (Try.prog.cellsOf f.type)) = xs[i]?) :
    ∀ (i : Nat) (f : Field), fs[i]? = some f → ∀ o s ty, f.offset = o → Try.prog.cellsOf f.type = s → f.type = ty → ∃ y, DataW.trod enc Try.prog W base spare held n ty ((cs.drop o).take s) = some y := by
  intro i f hf o s ty ho hs hty
  subst ho hs hty
  have hil : i < fs.size := (Array.getElem?_eq_some_iff.1 hf).1
  exact ⟨xs[i]'(by omega), by rw [← List.getElem?_eq_getElem]; exact hg i f hf⟩
set_option maxRecDepth 100000 in
/-- A tree that is read as data can be read as a tree. -/
theorem tree_read {W : World} {base : Nat} {spare : Nat → Bool} {held : Bool} : ∀ (fuel : Nat) (cs : List Value) (y : DataW H × List MemPlace), DataW.trod enc Try.prog W base spare held fuel 28 cs = some y → ∃ t : MT, cs = nC t ∧ t.rd W := by
  intro fuel
  induction fuel using Nat.strongRecOn with
  | _ fuel ih =>
  intro cs y h
  obtain ⟨xs, n, hn, _, hl, hlen, hg⟩ := DataW.trod_struct Try.underlying28 h
  have hc : Try.prog.cellsOf 28 = 9 := by kernel_rfl
  rw [hc] at hl
  obtain ⟨c0, c1, c2, c3, c4, c5, c6, c7, c8, rfl⟩ : ∃ a b c d e f g h i, cs = [a, b, c, d, e, f, g, h, i] := by
    match cs, hl with | [a, b, c, d, e, f, g, h, i], _ => exact ⟨a, b, c, d, e, f, g, h, i, rfl⟩
  have fld := fld_of hlen hg
  obtain ⟨y0, e0⟩ := fld 0 _ rfl 0 1 22 rfl (by kernel_rfl) rfl
  obtain ⟨y1, e1⟩ := fld 1 _ rfl 1 4 25 rfl (by kernel_rfl) rfl
  obtain ⟨y2, e2⟩ := fld 2 _ rfl 5 1 3 rfl (by kernel_rfl) rfl
  obtain ⟨y3, e3⟩ := fld 3 _ rfl 6 1 3 rfl (by kernel_rfl) rfl
  obtain ⟨y4, e4⟩ := fld 4 _ rfl 7 1 3 rfl (by kernel_rfl) rfl
  obtain ⟨y5, e5⟩ := fld 5 _ rfl 8 1 26 rfl (by kernel_rfl) rfl
  obtain ⟨k, z0, _⟩ := DataW.trod_int Try.underlying22 e0
  obtain ⟨mi, z2, _⟩ := DataW.trod_int Try.underlying3 e2
  obtain ⟨ma, z3, _⟩ := DataW.trod_int Try.underlying3 e3
  obtain ⟨nu, z4, _⟩ := DataW.trod_int Try.underlying3 e4
  obtain ⟨m, ha⟩ := rd_array2 Try.underlying25 e1
  obtain ⟨x0, f0⟩ := ha 0 (by decide) 0 1 23 (by kernel_rfl) (by kernel_rfl) rfl
  obtain ⟨x1, f1⟩ := ha 1 (by decide) 1 1 23 (by kernel_rfl) (by kernel_rfl) rfl
  obtain ⟨x2, f2⟩ := ha 2 (by decide) 2 1 23 (by kernel_rfl) (by kernel_rfl) rfl
  obtain ⟨x3, f3⟩ := ha 3 (by decide) 3 1 23 (by kernel_rfl) (by kernel_rfl) rfl
  obtain ⟨a0, w0⟩ := trod_u64 f0
  obtain ⟨a1, w1⟩ := trod_u64 f1
  obtain ⟨a2, w2⟩ := trod_u64 f2
  obtain ⟨a3, w3⟩ := trod_u64 f3
  simp only [List.drop_succ_cons, List.drop_zero, List.take_succ_cons, List.take_zero, List.cons.injEq, and_true] at z0 z2 z3 z4 w0 w1 w2 w3
  subst z0 z2 z3 z4 w0 w1 w2 w3
  have key : ∃ q : List MT, rdV W c8 q ∧ rdL W q := by
    rcases DataW.trod_slice Try.underlying26 e5 with ⟨h5, _⟩ | ⟨a, len, cap, elems, rest, n', hn', h5, _, _, _, _, hel, hi, _, _⟩
    · have : c8 = .slice none 0 0 := by simpa using h5
      subst this
      exact ⟨[], ⟨none, 0, rfl, fun h => absurd h (by decide), fun h => absurd h (by decide), fun i j h => absurd h (Nat.not_lt_zero _)⟩, rdL_nil⟩
    · have : c8 = .slice (some a) len cap := by simpa using h5
      subst this
      have each : ∀ i, i < len → ∃ t : MT, (∀ j, j < 9 → W.cell? (a.add (i * 9 + j)) = (nC t)[j]?) ∧ t.rd W := by
        intro i hil
        have h6 := hi i hil
        rw [List.getElem?_eq_getElem (by omega)] at h6
        obtain ⟨cs', h7, h8⟩ := Option.bind_eq_some_iff.1 h6
        obtain ⟨t, rfl, ht⟩ := ih n' (by omega) cs' _ h8
        rw [hc] at h7
        obtain ⟨_, _, h9⟩ := World.cells?_some h7
        refine ⟨t, fun j hj => ?_, ht⟩
        have := h9 j (by omega)
        rw [Addr.add_add] at this
        exact this
      refine ⟨(List.range len).map fun i => if hlt : i < len then Classical.choose (each i hlt) else zMT, ⟨some a, cap, by simp, fun _ => rfl, fun h0 => ?_, fun i j hi' hj => ?_⟩, ?_⟩
      · have h1 := (Classical.choose_spec (each 0 (by simpa using h0))).1 0 (by decide)
        rw [List.getElem?_eq_getElem (by rw [nC_len]; decide)] at h1
        have := block_lt_of_cell h1
        rwa [block_add] at this
      · have hil : i < len := by simpa using hi'
        have h1 := (Classical.choose_spec (each i hil)).1 j hj
        rw [Option.getD_some, h1, List.getElem?_eq_getElem (by rw [nC_len]; exact hj)]
        have e : (List.map (fun i => if hlt : i < len then Classical.choose (each i hlt) else zMT) (List.range len)).getD i default = Classical.choose (each i hil) := by
          rw [List.getD_eq_getElem?_getD, List.getElem?_map, List.getElem?_range hil]
          simp [hil]
        rw [e, List.getElem?_eq_getElem (by rw [nC_len]; exact hj)]; rfl
      · have all : ∀ q : List MT, (∀ t ∈ q, t.rd W) → rdL W q := by
          intro q
          induction q with
          | nil => intro _; exact rdL_nil
          | cons t q ihq => intro hq; exact rdL_cons.2 ⟨hq t (List.mem_cons_self ..), ihq fun u hu => hq u (List.mem_cons_of_mem _ hu)⟩
        refine all _ fun t ht => ?_
        obtain ⟨i, hi', rfl⟩ := List.mem_map.1 ht
        rw [dif_pos (List.mem_range.1 hi')]
        exact (Classical.choose_spec (each i (List.mem_range.1 hi'))).2
  obtain ⟨q, hq1, hq2⟩ := key
  exact ⟨.mk k (fun j => if j = 0 then a0 else if j = 1 then a1 else if j = 2 then a2 else a3) mi ma nu c8 q, rfl, rd_mk.2 ⟨hq1, hq2⟩⟩
set_option maxRecDepth 100000 in
theorem rd_tree {r : Reach} {b0 base : Nat} {spare : Nat → Bool} {held : Bool} {W : World} {v : Value} {d : DataW H} {p : List MemPlace} (hv : Value.okWide Try.prog W r b0 28 v) (h : DataW.Trod enc Try.prog W base spare held 28 v d p) : ∃ t : MT, v = .agg (nC t).toArray ∧ t.rd W := by
  obtain ⟨cs, rfl, hsz⟩ := okWide_struct Try.underlying28 hv
  obtain ⟨fuel, hf⟩ := h
  obtain ⟨t, h1, h2⟩ := tree_read fuel _ _ hf
  refine ⟨t, ?_, h2⟩
  have h3 : cs.toList = nC t := h1
  rw [← h3]
end
/-! ### few -/
theorem wL_take2 {q : List MT} {i : Nat} {u : MT} (h : q[i]? = some u) : wL (q.take (i + 1)) = wL (q.take i) + wT u := by
  rw [List.take_add_one, h, wL_app]
  show _ + wL [u] = _
  rw [wL_one]
theorem wT_pos (t : MT) : 1 ≤ wT t := by cases t; rw [wT_mk]; omega

set_option maxRecDepth 100000 in
theorem count_any (k : Int) (s : Nat → Int) (nmi nma nnu : Int) (pq : Option Addr) (cq : Nat) (q : List MT) (lim : Int) (hl1 : 1 ≤ lim) (hl2 : lim ≤ 1000) (ih : ∀ u, u ∈ q → ∀ (lim : Int), 1 ≤ lim → lim ≤ 1000 → ∀ w, u.rd w → Calls Try.prog 32 #[.agg (nC u).toArray, .int .i64 lim] w fun e w' => e = .returned (.int .i64 (min (wT u : Int) lim)) ∧ Below w.heap.size w w') (w : World) (hok : MT.rd w (MT.mk k s nmi nma nnu (Value.slice pq q.length cq) q)) :
    Calls Try.prog 32 #[.agg (nC (MT.mk k s nmi nma nnu (Value.slice pq q.length cq) q)).toArray, .int .i64 lim] w fun e w' => e = .returned (.int .i64 (min (wT (MT.mk k s nmi nma nnu (Value.slice pq q.length cq) q) : Int) lim)) ∧ Below w.heap.size w w' := by
 obtain ⟨hrq, _, hqk⟩ := rd_facts (F := []) hok (fun _ _ => List.not_mem_nil)
 have hmax : maxLen = 9223372036854775807 := rfl
 have hwq := wT_mk (k := k) (s := s) (mi := nmi) (ma := nma) (nu := nnu) (v := .slice pq q.length cq) (q := q)
 refine fn_intro Try.func32 rfl Try.ntmps32 rfl rfl ?_
 refine s_ (o_ ?_)
 refine g_box rfl rfl rfl rfl (fun b1 => ?_)
 refine xg 1 [] rfl rfl ?_
 refine ntso_ ?_
 refine xg 1 [] rfl rfl ?_
 refine n_ (t_ (s_ (s_ (o_ ?_))))
 refine xg 1 [] rfl rfl ?_
 refine n_ (t_ (g_block ?_))
 refine g_loop (α := {x : Nat × Int // x.1 ≤ q.length ∧ x.2 = min (1 + wL (q.take x.1) : Int) lim}) (fun x => [(1, .int .i64 lim), (2, .pointer (some ⟨b1, 0, none⟩)), (5, .int .i64 x.1.2), (6, .int .i64 (x.1.1 : Int))]) (fun x => St w [] [.cells b1 28 (nC (MT.mk k s nmi nma nnu (Value.slice pq q.length cq) q))]) (fun x => q.length - x.1.1) ⟨(0, 1), Nat.zero_le _, by show (1 : Int) = min (1 + ((wL (q.take 0) : Nat) : Int)) lim; rw [List.take_zero, wL]; omega⟩ [1, 2, 5, 6] rfl (fun w h => h.pick [0] rfl) ?_
 rintro ⟨⟨i, c⟩, hi, hc⟩
 dsimp only
 dsimp only at hi hc
 have hil : i ≤ wL (q.take i) := by
   have := wL_len (q.take i); rw [List.length_take] at this; omega
 refine s_ (s_ (o_ ?_))
 refine xg 3 [0] rfl (by omega) ?_
 refine g_val (v := .int .i64 ((q.length : Nat) : Int)) rfl rfl rfl (y_llen rfl Try.underlying26) ?_
 refine xg 2 [0] rfl rfl ?_
 refine g_casep 12 rfl (fun h1 => ?_) fun h1 => ?_
 ·refine xg 4 [0] rfl rfl ?_
  refine n_ (t_ ?_)
  refine g_casep 16 rfl (fun h2 => ?_) fun h2 => ?_
  ·refine g_cond_t rfl (g_skip (t_ (s_ (g_block (o_ ?_)))))
   refine xg 4 [0] rfl (by omega) ?_
   refine g_val rfl rfl rfl (y_rdAddr hrq rfl rfl Try.underlying26 Try.sizeOf28 (by omega) (by omega)) ?_
   obtain ⟨u, hu⟩ : ∃ u, q[i]? = some u := ⟨_, List.getElem?_eq_getElem (by omega)⟩
   have huk := (hqk i u hu).1
   have hupos := wT_pos u
   have hnx := wL_take2 hu
   refine g_val (v := .agg (nC u).toArray) rfl rfl rfl (y_rdAggF (i := (i : Int)) (vs := nC u) hrq List.not_mem_nil rfl Try.isAgg28 Try.sizeOf28 (by omega) (by omega) (nC_len _) (fun jj hjj => by rw [Int.toNat_natCast, List.getD_eq_getElem?_getD, hu]; rw [Option.getD_some, List.getElem?_eq_getElem (show jj < (nC u).length by rw [nC_len]; exact hjj)]; rfl)) ?_
   refine xg 3 [] rfl (by omega) ?_
   refine g_call1 (v := .int .i64 (min (wT u : Int) (lim - c))) rfl rfl rfl Try.call32 (fun w1 hS => ih u (List.mem_of_getElem? hu) (lim - c) (by omega) (by omega) w1 (hS.okOf huk (fun _ _ => List.not_mem_nil))) ?_
   refine xg 2 [] rfl (by omega) ?_
   refine n_ (g_in_normal (t_ (o_ ?_)))
   refine xg 3 [] rfl (by omega) ?_
   refine n_ ?_
   exact g_again ⟨(i + 1, c + min (wT u : Int) (lim - c)), by dsimp only; omega, by dsimp only; omega⟩ [1, 2, 5, 6] (by dsimp only; omega) rfl (fun w h => h.pick [0] rfl)
  refine g_cond_f rfl (g_exit (g_then_exit (g_then_exit (g_in_exit (t_ (s_ (o_ ?_)))))))
  refine xg 2 [] rfl rfl ?_
  refine n_ (t_ (g_ret ?_))
  refine g_end1 Try.results32 rfl ?_
  have htk : wL (q.take i) ≤ wL q := wL_take i
  have htl : i = q.length → wL (q.take i) = wL q := fun h => by rw [h, List.take_length]
  rw [show min ((wT (MT.mk k s nmi nma nnu (Value.slice pq q.length cq) q) : Nat) : Int) lim = c by omega]
  exact fun w hS => ⟨rfl, hS.below⟩
 refine xg 4 [] rfl rfl ?_
 refine n_ (t_ (g_cond_f rfl (g_exit (g_then_exit (g_then_exit (g_in_exit (t_ (s_ (o_ ?_)))))))))
 refine xg 2 [] rfl rfl ?_
 refine n_ (t_ (g_ret ?_))
 refine g_end1 Try.results32 rfl ?_
 have htk : wL (q.take i) ≤ wL q := wL_take i
 have htl : i = q.length → wL (q.take i) = wL q := fun h => by rw [h, List.take_length]
 rw [show min ((wT (MT.mk k s nmi nma nnu (Value.slice pq q.length cq) q) : Nat) : Int) lim = c by omega]
 exact fun w hS => ⟨rfl, hS.below⟩

theorem count_t : ∀ (D : Nat) (t : MT), wT t ≤ D → ∀ (lim : Int), 1 ≤ lim → lim ≤ 1000 → ∀ w, t.rd w → Calls Try.prog 32 #[.agg (nC t).toArray, .int .i64 lim] w fun e w' => e = .returned (.int .i64 (min (wT t : Int) lim)) ∧ Below w.heap.size w w' := by
  intro D
  induction D with
  | zero => intro t h; have := wT_pos t; omega
  | succ D ihD =>
    intro t hD lim h1 h2 w hok
    obtain ⟨k, s, mi, ma, nu, p, c, q, rfl⟩ := rd_v hok
    rw [wT_mk] at hD
    exact count_any k s mi ma nu p c q lim h1 h2 (fun u hu => ihD u (by have := wT_mem hu; omega)) w hok

set_option maxRecDepth 100000 in
theorem few_any (t : MT) (w : World) (hok : t.rd w) :
    Calls Try.prog 19 #[.agg (nC t).toArray] w fun e w' => e = .returned (.bool (decide ((wT t : Int) ≤ 30))) ∧ Below w.heap.size w w' := by
 obtain ⟨k, s, mi, ma, nu, p, c, q, rfl⟩ := rd_v hok
 refine fn_intro Try.func19 rfl Try.ntmps19 rfl rfl ?_
 refine s_ (o_ ?_)
 refine g_box rfl rfl rfl rfl (fun b1 => ?_)
 refine xg 1 [] rfl rfl ?_
 refine ntso_ ?_
 refine xg 1 [0] rfl (by omega) ?_
 refine g_call1 (v := .int .i64 (min (wT (.mk k s mi ma nu (.slice p q.length c) q) : Int) 31)) rfl rfl rfl Try.call32 (fun w1 hS => count_t _ _ (Nat.le_refl _) 31 (by decide) (by decide) w1 (hS.okOf hok (fun _ _ => List.not_mem_nil))) ?_
 refine xg 2 [0] rfl rfl ?_
 refine n_ (t_ (g_ret ?_))
 refine g_end1 Try.results19 rfl ?_
 rw [show decide ((wT (.mk k s mi ma nu (.slice p q.length c) q) : Int) ≤ 30) = decide (min (wT (.mk k s mi ma nu (.slice p q.length c) q) : Int) 31 ≤ 30) by congr 1; apply propext; omega]
 exact fun w hS => ⟨rfl, hS.below⟩

theorem m_few (t : MT) : Meets Try.prog (fun w => t.rd w) 19 [.agg (nC t).toArray] (fun _ : Unit => .bool (decide ((wT t : Int) ≤ 30))) [] (fun _ => []) := meets1 Try.call19 (fun w hI => few_any t w hI)
end Go.Proofs.Ytfcamlkbkehlnaa

/- MatchFinds. -/
namespace Go.Proofs.Ytfcamlkbkehlnaa
open Go Go.RowKit
open Go.ChangeShapes Go.WideShapes Go.ChangeAt

section
variable {H : Type} {enc : TypeId × Value → H}
theorem u64_nn {a : Int} (h : (Lit.int .u64 a).wf = true) : 0 ≤ a := by
  simp only [Lit.wf, Bool.and_eq_true, decide_eq_true_eq] at h
  have e : IntKind.u64.min = 0 := rfl
  omega
theorem i64_in' {a : Int} (h : (Lit.int .i64 a).wf = true) : -9223372036854775808 ≤ a ∧ a ≤ 9223372036854775807 := by
  simp only [Lit.wf, Bool.and_eq_true, decide_eq_true_eq] at h
  have e : IntKind.i64.min = -9223372036854775808 := rfl
  have e2 : IntKind.i64.max = 9223372036854775807 := rfl
  omega
set_option maxRecDepth 100000 in
/-- A tree that is read as data: its bounds, too. -/
theorem tree_readC {W : World} {base : Nat} {spare : Nat → Bool} {held : Bool} : ∀ (fuel : Nat) (cs : List Value) (y : DataW H × List MemPlace), DataW.trod enc Try.prog W base spare held fuel 28 cs = some y → ∀ t : MT, cs = nC t → t.rd W → t.cp := by
  intro fuel
  induction fuel using Nat.strongRecOn with
  | _ fuel ih =>
  intro cs y h t ht hrd
  obtain ⟨xs, n, hn, _, hl, hlen, hg⟩ := DataW.trod_struct Try.underlying28 h
  have hc : Try.prog.cellsOf 28 = 9 := by kernel_rfl
  have fld := fld_of hlen hg
  cases t with | mk k s mi ma nu v q =>
  subst ht
  obtain ⟨y1, e1⟩ := fld 1 _ rfl 1 4 25 rfl (by kernel_rfl) rfl
  obtain ⟨y2, e2⟩ := fld 2 _ rfl 5 1 3 rfl (by kernel_rfl) rfl
  obtain ⟨y3, e3⟩ := fld 3 _ rfl 6 1 3 rfl (by kernel_rfl) rfl
  obtain ⟨y5, e5⟩ := fld 5 _ rfl 8 1 26 rfl (by kernel_rfl) rfl
  obtain ⟨z2, z2e, _, w2⟩ := DataW.trod_int Try.underlying3 e2
  obtain ⟨z3, z3e, _, w3⟩ := DataW.trod_int Try.underlying3 e3
  obtain ⟨m, ha⟩ := rd_array2 Try.underlying25 e1
  obtain ⟨x0, f0⟩ := ha 0 (by decide) 0 1 23 (by kernel_rfl) (by kernel_rfl) rfl
  obtain ⟨x1, f1⟩ := ha 1 (by decide) 1 1 23 (by kernel_rfl) (by kernel_rfl) rfl
  obtain ⟨x2, f2⟩ := ha 2 (by decide) 2 1 23 (by kernel_rfl) (by kernel_rfl) rfl
  obtain ⟨x3, f3⟩ := ha 3 (by decide) 3 1 23 (by kernel_rfl) (by kernel_rfl) rfl
  obtain ⟨a0, v0, _, u0⟩ := DataW.trod_int Try.underlying23 f0
  obtain ⟨a1, v1, _, u1⟩ := DataW.trod_int Try.underlying23 f1
  obtain ⟨a2, v2, _, u2⟩ := DataW.trod_int Try.underlying23 f2
  obtain ⟨a3, v3, _, u3⟩ := DataW.trod_int Try.underlying23 f3
  simp only [nC, List.drop_succ_cons, List.drop_zero, List.take_succ_cons, List.take_zero, List.cons.injEq, and_true, Value.int.injEq, true_and] at z2e z3e v0 v1 v2 v3
  obtain ⟨⟨p, c, hv, hr⟩, hrq⟩ := rd_mk.1 hrd
  have hq : capV v ∧ ∀ (i : Nat) (u : MT), q[i]? = some u → u.cp := by
    rcases DataW.trod_slice Try.underlying26 e5 with ⟨h5, _⟩ | ⟨a, len, cap, elems, rest, n', hn', h5, _, _, h6, h7, hel, hi, _, _⟩
    · have h8 : v = .slice none 0 0 := by simpa [nC] using h5
      refine ⟨fun p' n'' c' e => ?_, fun i u hu => ?_⟩
      · rw [h8] at e; cases e; exact ⟨Nat.le_refl _, Nat.zero_le _⟩
      · rw [h8] at hv
        have : q.length = 0 := by simp only [Value.slice.injEq] at hv; omega
        have := (List.getElem?_eq_some_iff.1 hu).1
        omega
    · have h8 : v = .slice (some a) len cap := by simpa [nC] using h5
      rw [h8] at hv
      have hpa : p = some a := by cases hv; rfl
      have hlen' : len = q.length := by cases hv; rfl
      refine ⟨fun p' n'' c' e => ?_, fun i u hu => ?_⟩
      · rw [h8] at e; cases e; exact ⟨h6, h7⟩
      · have hil := (List.getElem?_eq_some_iff.1 hu).1
        have h9 := hi i (by omega)
        rw [List.getElem?_eq_getElem (by omega)] at h9
        obtain ⟨cs', h10, h11⟩ := Option.bind_eq_some_iff.1 h9
        rw [hc] at h10
        obtain ⟨_, h12, h13⟩ := World.cells?_some h10
        refine ih n' (by omega) cs' _ h11 u ?_ (rdL_mem hrq (List.mem_of_getElem? hu))
        refine List.ext_getElem? fun j => ?_
        by_cases hj : j < 9
        · rw [← h13 j hj, Addr.add_add]
          have h14 := hr.cell i j hil hj
          rw [hpa] at h14
          have h15 : W.cell? (a.add (i * 9 + j)) = _ := h14
          rw [h15, List.getD_eq_getElem?_getD, hu, Option.getD_some, List.getElem?_eq_getElem (by rw [nC_len]; exact hj)]; rfl
        · rw [List.getElem?_eq_none (by omega), List.getElem?_eq_none (by rw [nC_len]; omega)]
  have all : ∀ r : List MT, (∀ t ∈ r, t.cp) → cpL r := by
    intro r
    induction r with
    | nil => intro _; exact cpL_nil
    | cons t r ihr => intro hr; exact cpL_cons.2 ⟨hr t (List.mem_cons_self ..), ihr fun u hu => hr u (List.mem_cons_of_mem _ hu)⟩
  refine cp_mk.2 ⟨⟨hq.1, fun j hj => ?_, ?_⟩, all q fun u hu => ?_⟩
  · match j, hj with
    | 0, _ => rw [v0]; exact u64_nn u0
    | 1, _ => rw [v1]; exact u64_nn u1
    | 2, _ => rw [v2]; exact u64_nn u2
    | 3, _ => rw [v3]; exact u64_nn u3
  · have b2 := i64_in' w2
    have b3 := i64_in' w3
    rw [z2e, z3e]
    exact ⟨b2.1, b2.2, b3.1, b3.2⟩
  · obtain ⟨i, hi⟩ := List.getElem?_of_mem hu
    exact hq.2 i u hi
set_option maxRecDepth 100000 in
theorem rd_treeC {r : Reach} {b0 base : Nat} {spare : Nat → Bool} {held : Bool} {W : World} {v : Value} {d : DataW H} {p : List MemPlace} (hv : Value.okWide Try.prog W r b0 28 v) (h : DataW.Trod enc Try.prog W base spare held 28 v d p) : ∃ t : MT, v = .agg (nC t).toArray ∧ t.rd W ∧ t.cp := by
  obtain ⟨t, rfl, ht⟩ := rd_tree hv h
  obtain ⟨fuel, hf⟩ := h
  exact ⟨t, rfl, ht, tree_readC fuel _ _ hf t rfl ht⟩
end

set_option maxHeartbeats 8000000 in
set_option maxRecDepth 100000 in
theorem mfinds_any (nk : Int) (ns : Nat → Int) (nm nx nu : Int) (pv : Option Addr) (cv : Nat) (nq : List MT) (l : List UInt8) (fr to : Int) (bg : Bool) (hl : l.length ≤ maxLen) (w : World) (hz : MaxHere w) (hok : MT.rd w (MT.mk nk ns nm nx nu (.slice pv nq.length cv) nq)) (hcp : MT.cp (MT.mk nk ns nm nx nu (.slice pv nq.length cv) nq)) :
    Calls Try.prog 9 #[.agg (nC (MT.mk nk ns nm nx nu (.slice pv nq.length cv) nq)).toArray, st8 l, .agg #[.int .i64 fr, .int .i64 to, .bool bg]] w fun e w' => e = .returned (.bool true) ∧ Below w.heap.size w w' := by
 have hmax : maxLen = 9223372036854775807 := rfl
 refine fn_intro Try.func9 rfl Try.ntmps9 rfl rfl ?_
 refine s_ (o_ ?_)
 refine g_box rfl rfl rfl rfl (fun b1 => ?_)
 refine g_box rfl rfl rfl rfl (fun b2 => ?_)
 refine xg 1 [] rfl rfl ?_
 refine ntso_ ?_
 refine xg 1 [1] rfl (by omega) ?_
 refine g_c1 (m_few (MT.mk nk ns nm nx nu (.slice pv nq.length cv) nq)) (fun w hS => hS.okOf hok (fun _ _ => List.not_mem_nil)) rfl rfl rfl ?_
 refine xg 1 [] rfl rfl ?_
 refine n_ (t_ (s_ (s_ (o_ ?_))))
 refine xg 3 [] rfl rfl ?_
 first | refine g_casep 16 rfl (fun h1 => ?_) fun h1 => ?_ | refine g_caseb 16 rfl (fun h1 => ?_) fun h1 => ?_
 ·refine xg 4 [] rfl rfl ?_
  refine n_ (t_ (g_cond_t rfl (s_ (o_ ?_))))
  refine g_call1 rfl rfl rfl Try.call13 (fun w hS => alive_any w (hS.maxHere hz (by simp))) ?_
  refine xg 1 [] rfl rfl ?_
  refine n_ (t_ (g_ret (g_then_ret ?_)))
  refine g_end1 Try.results9 rfl ?_
  exact fun w hS => ⟨rfl, hS.below⟩
 refine xg 1 [] rfl rfl ?_
 refine g_val (v := .int .i64 (l.length : Int)) rfl rfl rfl (y_val (y_slen rfl Try.underlying9) (by rw [size_mk])) ?_
 refine xg 2 [0] rfl rfl ?_
 refine n_ (t_ ?_)
 refine g_casep 20 rfl (fun h2 => ?_) fun h2 => ?_
 ·refine g_cond_t rfl (s_ (o_ ?_))
  refine g_call1 rfl rfl rfl Try.call13 (fun w hS => alive_any w (hS.maxHere hz (by simp))) ?_
  refine xg 1 [] rfl rfl ?_
  refine n_ (t_ (g_ret (g_then_ret ?_)))
  refine g_end1 Try.results9 rfl ?_
  exact fun w hS => ⟨rfl, hS.below⟩
 refine g_cond_f rfl (g_skip (t_ (s_ ?_)))
 have hsz30 : (wT (MT.mk nk ns nm nx nu (.slice pv nq.length cv) nq) : Int) ≤ 30 := by simpa using ‹(!decide ((wT (MT.mk nk ns nm nx nu (.slice pv nq.length cv) nq) : Int) ≤ 30)) = false›
 obtain ⟨r, er⟩ : ∃ r, findR ⟨l, bg⟩ (MT.mk nk ns nm nx nu (.slice pv nq.length cv) nq) fr = r := ⟨_, rfl⟩
 refine o_ ?_
 refine xg 6 [1,0,0] rfl (by omega) ?_
 refine g_c1 (m_find ⟨l, bg⟩ (MT.mk nk ns nm nx nu (.slice pv nq.length cv) nq) fr (by show l.length ≤ _; omega) (by omega)) (fun w hS => hS.okOf hok (fun _ _ => List.not_mem_nil)) rfl rfl rfl ?_
 rw [er]
 refine xg 3 [] rfl rfl ?_
 refine g_alloc rfl rfl Try.zeroValue36 rfl (fun b3 => ?_)
 refine xg 2 [0] rfl (by omega) ?_
 refine ntso_ ?_
 refine xg 6 [2,1,1] rfl (by omega) ?_
 refine g_c1 (m_find10 ⟨l, bg⟩ (MT.mk nk ns nm nx nu (.slice pv nq.length cv) nq) fr (by show l.length ≤ _; omega) hcp) (fun w hS => hS.okOf hok (fun _ _ => List.not_mem_nil)) rfl rfl rfl ?_
 rw [er]
 refine xg 3 [] rfl rfl ?_
 refine g_alloc rfl rfl Try.zeroValue36 rfl (fun b4 => ?_)
 refine xg 2 [0] rfl (by omega) ?_
 refine n_ (t_ (s_ ?_))
 refine g_quiet (by kernel_rfl) (by kernel_rfl) ?_
 refine q_call1 rfl rfl rfl Try.call13 (fun w hS => alive_any w (hS.maxHere hz (by simp))) ?_
 refine xq 3 [1,0] rfl (by omega) ?_
 refine q_val (v := .bool true) rfl rfl rfl (y_mtEq r.1 rfl rfl) ?_
 refine xq 4 [] rfl rfl ?_
 refine q_val rfl rfl rfl (y_lit true (y_beq rfl rfl (by kernel_rfl)) (beq_self_eq_true _)) ?_
 refine xq 10 [3,2,2,2] rfl (by omega) ?_
 refine q_c1 (m_is ⟨l, bg⟩ (MT.mk nk ns nm nx nu (.slice pv nq.length cv) nq) fr to (by show l.length ≤ _; omega) (by omega)) (fun w hS => hS.okOf hok (fun _ _ => List.not_mem_nil)) rfl rfl rfl ?_
 refine xq 8 [3,2,2,2] rfl (by omega) ?_
 refine q_c1 (m_is10 ⟨l, bg⟩ (MT.mk nk ns nm nx nu (.slice pv nq.length cv) nq) fr to (by show l.length ≤ _; omega) hcp) (fun w hS => hS.okOf hok (fun _ _ => List.not_mem_nil)) rfl rfl rfl ?_
 refine q_val rfl rfl rfl (y_lit true (y_beq rfl rfl (by kernel_rfl)) (beq_self_eq_true _)) ?_
 refine xq 2 [] rfl rfl ?_
 refine q_nil (t_ (g_ret ?_))
 refine g_end1 Try.results9 rfl ?_
 exact fun w hS => ⟨rfl, hS.below⟩

theorem list3 {l : List Value} (h : l.length = 3) : ∃ a b c, l = [a, b, c] := by
  match l, h with
  | [a, b, c], _ => exact ⟨a, b, c, rfl⟩
theorem mfinds_law (t : MT) (s : ByteArray) (fr to : Int) (bg : Bool) (hs : s.size ≤ maxLen) (w : World) (hsh : w.ShapedOpen Try.prog) (ht : t.rd w ∧ t.cp) : Calls Try.prog 9 #[.agg (nC t).toArray, .string s, .agg #[.int .i64 fr, .int .i64 to, .bool bg]] w fun e w' => e = .returned (.bool true) ∧ Below w.heap.size w w' := by
  obtain ⟨ht, hcp⟩ := ht
  obtain ⟨nk, ns, nm, nx, nu, pv, cv, nq, rfl⟩ := rd_v ht
  have h := mfinds_any nk ns nm nx nu pv cv nq s.data.toList fr to bg (by rw [Array.length_toList]; exact hs) w (maxHere_of hsh) ht hcp
  unfold st8 at h
  rw [Array.toArray_toList] at h
  exact h
end Go.Proofs.Ytfcamlkbkehlnaa

