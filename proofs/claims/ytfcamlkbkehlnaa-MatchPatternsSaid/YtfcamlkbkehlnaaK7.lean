/- The texts that the proof leans on, one behind the other (7 of 7). -/
import Derived.Handed
import Derived.Laws.StructEq
import Derived.Test.YtfcamlkbkehlnaaK6
/- Of: the plain law. -/
namespace Go.Proofs.Ytfcamlkbkehlnaa
open Go Go.RowKit

def MT.kd : MT → Int
  | .mk k _ _ _ _ _ _ => k
/-- How deep Of may go. -/
def muT (t : MT) : Nat := 2 * wT t + (if t.kd = 0 then 0 else 1)
theorem wT_one10 (t : MT) : 1 ≤ wT t := by cases t; rw [wT_mk]; omega
theorem muT_mk {k : Int} {s : Nat → Int} {mi ma nu : Int} {v : Value} {q : List MT} : muT (.mk k s mi ma nu v q) = 2 * (1 + wL q) + (if k = 0 then 0 else 1) := by unfold muT; rw [wT_mk]; rfl
theorem muT_le (t : MT) : muT t ≤ 2 * wT t + 1 := by unfold muT; split <;> omega
theorem muT_mem {k : Int} {s : Nat → Int} {mi ma nu : Int} {v : Value} {q : List MT} {u : MT} (h : u ∈ q) : muT u < muT (.mk k s mi ma nu v q) := by
  have h1 := muT_le u
  have h2 := wT_mem h
  rw [muT_mk]; omega
theorem muT_zero {k : Int} {s : Nat → Int} {mi ma nu : Int} {v : Value} {q : List MT} (hk : k ≠ 0) : muT zMT < muT (.mk k s mi ma nu v q) := by
  rw [muT_mk, if_neg hk]
  have : muT zMT = 2 := rfl
  omega
theorem muT_kid {k : Int} {s : Nat → Int} {mi ma nu : Int} {v : Value} {q : List MT} (hk : k ≠ 0) : muT (kidT q) < muT (.mk k s mi ma nu v q) := by
  cases q with
  | nil => exact muT_zero hk
  | cons t q => exact muT_mem (List.mem_cons_self ..)
theorem muT_rest {k : Int} {s : Nat → Int} {mi ma nu : Int} {v : Value} {p : Option Addr} {c : Nat} {q : List MT} (h : 1 ≤ q.length) : muT (restT p c q) < muT (.mk k s mi ma nu v q) := by
  cases q with
  | nil => cases h
  | cons t q =>
    unfold restT
    rw [muT_mk, muT_mk]
    have h1 := wT_one10 t
    have h2 : wL (t :: q) = wT t + wL q := by rw [wL]
    rw [h2, List.tail_cons]
    split <;> split <;> omega
section
variable {x : Tx} {k nmi nma nnu : Int} {s : Nat → Int} {v : Value} {q : List MT} {p r i j n m : Nat} {ch : UInt8} {b w : Bool} {u : MT}
def mOne (x : Tx) (s : Nat → Int) (p r : Nat) : Bool := decide (r = p + 1) && (match x.l[p]? with
  | some c => hasB s c.toNat
  | none => false)
def oneC (x : Tx) (s : Nat → Int) (i : Nat) : Nat → Nat → Bool := fun p r => decide (p < i) && mOne x s p r
theorem one_zero : oneC x s 0 p r = false := by simp [oneC]
theorem one_step (h : x.l[i]? = some ch) : upT (oneC x s i) i (i + 1) (hasB s ch.toNat) p r = oneC x s (i + 1) p r := by
  unfold upT oneC
  by_cases h1 : p = i
  · subst h1
    by_cases h2 : r = p + 1
    · subst h2
      rw [if_pos ⟨rfl, rfl⟩]
      simp [mOne, h]
    · rw [if_neg fun h => h2 h.2]
      simp [mOne, h2]
  · rw [if_neg fun h => h1 h.1, show decide (p < i + 1) = decide (p < i) by congr 1; apply propext; omega]
theorem of_one (hk : k = 1) (hi : ¬ i < x.n) : oneC x s i p r = mM x (.mk k s nmi nma nnu v q) p r := by
  rw [mM_mk, if_pos hk]
  show _ = mOne x s p r
  unfold oneC
  by_cases h : p < i
  · rw [decide_eq_true h, Bool.true_and]
  · have : x.l[p]? = none := List.getElem?_eq_none (by unfold Tx.n at hi; omega)
    simp [mOne, this]
theorem of_beg (hk : k = 6) : upT (fun _ _ => false) 0 0 x.bg p r = mM x (.mk k s nmi nma nnu v q) p r := by
  rw [mM_mk, if_neg (by omega), if_pos hk]
  unfold upT
  by_cases h : p = 0 ∧ r = 0
  · rw [if_pos h]; simp [h.1, h.2]
  · rw [if_neg h]
    by_cases h1 : p = 0
    · have : r ≠ 0 := fun h2 => h ⟨h1, h2⟩
      simp [this]
    · simp [h1]
theorem of_end (hk : k = 7) : upT (fun _ _ => false) x.n x.n true p r = mM x (.mk k s nmi nma nnu v q) p r := by
  rw [mM_mk, if_neg (by omega), if_neg (by omega), if_pos hk]
  unfold upT
  by_cases h : p = x.n ∧ r = x.n
  · rw [if_pos h]; simp [h.1, h.2]
  · rw [if_neg h]
    by_cases h1 : p = x.n
    · subst h1
      have : r ≠ x.n := fun h2 => h ⟨rfl, h2⟩
      simp [this]
    · simp [h1]
def diC (i : Nat) : Nat → Nat → Bool := fun p r => decide (p < i) && decide (r = p)
theorem di_zero : diC 0 p r = false := by simp [diC]
theorem di_step : upT (diC i) i i true p r = diC (i + 1) p r := by
  unfold upT diC
  by_cases h1 : p = i
  · subst h1
    by_cases h2 : r = p
    · subst h2; simp
    · simp [h2]
  · rw [if_neg fun h => h1 h.1, show decide (p < i + 1) = decide (p < i) by congr 1; apply propext; omega]
theorem of_other (h1 : k ≠ 1) (h2 : k ≠ 6) (h3 : k ≠ 7) (h4 : k ≠ 2) (h5 : k ≠ 3) (h6 : k ≠ 5) (h7 : k ≠ 4) (hp : p < i) : diC i p r = mM x (.mk k s nmi nma nnu v q) p r := by
  rw [mM_mk, if_neg h1, if_neg h2, if_neg h3, if_neg h4, if_neg h5, if_neg h6, if_neg h7]
  simp [diC, hp]
theorem mM_zMT : mM x zMT p r = decide (r = p) := by
  unfold zMT
  rw [mM_mk, if_neg (by decide), if_neg (by decide), if_neg (by decide), if_neg (by decide), if_neg (by decide), if_neg (by decide), if_neg (by decide)]
theorem mM_row (hk : k = 2) : mM x (.mk k s nmi nma nnu v q) p r = mRow x q p r := by
  rw [mM_mk, if_neg (by omega), if_neg (by omega), if_neg (by omega), if_pos hk]
theorem mM_kid (hk : k = 5) : mM x (.mk k s nmi nma nnu v q) p r = mKid x q p r := by
  rw [mM_mk, if_neg (by omega), if_neg (by omega), if_neg (by omega), if_neg (by omega), if_neg (by omega), if_pos hk]
theorem mM_any (hk : k = 3) : mM x (.mk k s nmi nma nnu v q) p r = mAny x q p r := by
  rw [mM_mk, if_neg (by omega), if_neg (by omega), if_neg (by omega), if_neg (by omega), if_pos hk]
theorem mM_rep (hk : k = 4) : mM x (.mk k s nmi nma nnu v q) p r = rep x.n (fun a b => mKid x q a b) (x.n + 1) (cLo x.n nmi) (cHi x.n nma) p r := by
  rw [mM_mk, if_neg (by omega), if_neg (by omega), if_neg (by omega), if_neg (by omega), if_neg (by omega), if_neg (by omega), if_pos hk]
theorem mM_kidT : mM x (kidT q) p r = mKid x q p r := by
  cases q with
  | nil => rw [mKid_nil]; exact mM_zMT
  | cons t q => rw [mKid_cons]; rfl
theorem of_row0 (hk : k = 2) (hq : ¬ 0 < q.length) : mM x zMT p r = mM x (.mk k s nmi nma nnu v q) p r := by
  obtain rfl : q = [] := List.length_eq_zero_iff.1 (by omega)
  rw [mM_row hk, mRow_nil, mM_zMT]
theorem of_row {pa : Option Addr} {c : Nat} (hk : k = 2) (hu : q[0]? = some u) (hp : p ≤ x.n) : thC x.n (fun i j => mM x u i j) (fun i j => mM x (restT pa c q) i j) p r = mM x (.mk k s nmi nma nnu v q) p r := by
  cases q with
  | nil => cases hu
  | cons t q =>
    obtain rfl : t = u := by simpa using hu
    rw [mM_row hk, mRow_cons]
    unfold thC restT
    rw [List.tail_cons]
    congr 1
    funext m
    dsimp only
    rw [mM_row (x := x) (k := 2) rfl]
    cases h1 : mM x t p m with
    | false => simp
    | true =>
      have h2 := mM_in t hp h1
      cases h3 : mRow x q m r with
      | false => simp
      | true => have := mRow_in q h2.2 h3; simp [h2.1, this.1]
theorem of_kid (hk : k = 5) : mM x (kidT q) p r = mM x (.mk k s nmi nma nnu v q) p r := by rw [mM_kid hk, mM_kidT]
theorem of_rep (hk : k = 4) : RP x.n (fun i j => mM x (kidT q) i j) (max nmi 0) nma p r = mM x (.mk k s nmi nma nnu v q) p r := by
  rw [mM_rep hk]
  unfold RP cLo cHi
  have e : (fun i j => mM x (kidT q) i j) = fun a b => mKid x q a b := by funext i j; exact mM_kidT
  rw [e]
def eiK (x : Tx) (q : List MT) (m : Nat) : Nat → Nat → Bool := fun p r => mAny x (q.take m) p r
def eiC (x : Tx) (q : List MT) (m : Nat) (u : MT) (i j : Nat) : Nat → Nat → Bool := fun p r => mAny x (q.take m) p r || (mM x u p r && (decide (p < i) || (decide (p = i) && decide (r < j))))
theorem ei_zero : eiK x q 0 p r = false := by unfold eiK; rw [List.take_zero, mAny_nil]
theorem ei_start : eiK x q m p r = eiC x q m u 0 0 p r := by simp [eiK, eiC]
theorem ei_step (hw : w = (eiC x q m u i j i j || mM x u i j)) : upT (eiC x q m u i j) i j w p r = eiC x q m u i (j + 1) p r := by
  unfold upT
  by_cases h : p = i ∧ r = j
  · obtain ⟨rfl, rfl⟩ := h
    rw [if_pos ⟨rfl, rfl⟩, hw]
    simp [eiC]
  · rw [if_neg h]
    unfold eiC
    by_cases hp : p = i
    · have : r ≠ j := fun q => h ⟨hp, q⟩
      rw [show decide (r < j + 1) = decide (r < j) by congr 1; apply propext; omega]
    · simp [hp]
theorem ei_row (hj : j = x.n + 1) (hp : p < x.n + 1) (hr : r < x.n + 1) : eiC x q m u i j p r = eiC x q m u (i + 1) (i + 1) p r := by
  subst hj
  unfold eiC
  congr 1
  cases h : mM x u p r with
  | false => rfl
  | true =>
    have h1 := mM_in u (by omega) h
    rw [Bool.true_and, Bool.true_and]
    by_cases h2 : p < i
    · simp [h2, show p < i + 1 by omega]
    · by_cases h3 : p = i
      · subst h3; simp [hr]
      · by_cases h4 : p = i + 1
        · subst h4; simp [show ¬ r < i + 1 by omega]
        · simp [h2, h3, h4, show ¬ p < i + 1 by omega]
theorem ei_done (hi : i = x.n + 1) (hu : q[m]? = some u) (hp : p < x.n + 1) : eiC x q m u i j p r = eiK x q (m + 1) p r := by
  unfold eiC eiK
  rw [List.take_add_one, hu, mAny_append, show mAny x (some u).toList p r = mM x u p r by
    show mAny x [u] p r = _
    rw [mAny_cons, mAny_nil, Bool.or_false]]
  simp [show p < i by omega]
theorem of_any (hk : k = 3) (hm : ¬ (m : Int) < q.length) : eiK x q m p r = mM x (.mk k s nmi nma nnu v q) p r := by
  rw [mM_any hk]
  unfold eiK
  rw [List.take_of_length_le (by omega)]
end
theorem St.brsTo {W0 w : World} {F : List Nat} {e : Ent} {gs : List Nat} {n : Nat} {c d : Nat → Nat → Bool} (h : St W0 F [e, .brs gs n c] w) (h0 : ∀ i j, i < gs.length → j < n → c i j = d i j) : St W0 F [e, .brs gs n d] w :=
  h.write (i := 1) rfl rfl rfl rfl (Nat.le_refl _) (fun _ _ _ => rfl) (show brsOk gs n d w from brs_congr h0 (h.get (i := 1) rfl)) (fun _ hk => .inl hk)
/-- Of answers for a tree. -/
def OfOk (tx : Tx) (u : MT) : Prop := ∀ w, u.rd w → u.cp → Calls Try.prog 28 #[.agg [st8 tx.l, .bool tx.bg].toArray, .agg (nC u).toArray] w fun e w' => ∃ y : {y : TbX // y.gs.length = tx.n + 1}, e = .returned (y.1.v (tx.n + 1)) ∧ St w [] [y.1.o (tx.n + 1), .brs y.1.gs (tx.n + 1) (fun i j => mM tx u i j)] w'

end Go.Proofs.Ytfcamlkbkehlnaa

/- Of. -/
namespace Go.Proofs.Ytfcamlkbkehlnaa
open Go Go.RowKit

set_option maxHeartbeats 8000000 in
set_option maxRecDepth 100000 in
theorem of_any10 (tx : Tx) (hn : tx.n ≤ 100000) (k : Int) (s : Nat → Int) (nmi nma nnu : Int) (pq : Option Addr) (cq : Nat) (q : List MT) (ih : ∀ u, muT u < muT (MT.mk k s nmi nma nnu (Value.slice pq q.length cq) q) → OfOk tx u) (w : World) (hok : MT.rd w (MT.mk k s nmi nma nnu (Value.slice pq q.length cq) q)) (hcp : MT.cp (MT.mk k s nmi nma nnu (Value.slice pq q.length cq) q)) :
    Calls Try.prog 28 #[.agg [st8 tx.l, .bool tx.bg].toArray, .agg (nC (MT.mk k s nmi nma nnu (Value.slice pq q.length cq) q)).toArray] w fun e w' => ∃ y : {y : TbX // y.gs.length = tx.n + 1}, e = .returned (y.1.v (tx.n + 1)) ∧ St w [] [y.1.o (tx.n + 1), .brs y.1.gs (tx.n + 1) (fun i j => mM tx (MT.mk k s nmi nma nnu (Value.slice pq q.length cq) q) i j)] w' := by
 obtain ⟨hrq, _, hqk⟩ := rd_facts (F := []) hok (fun _ _ => List.not_mem_nil)
 have hrl := (rd_mk.1 hok).2
 obtain ⟨⟨hcv, hsw, hb1, hb2, hb3, hb4⟩, hcq⟩ := cp_mk.1 hcp
 have hcap := hcv _ _ _ rfl
 have hmax : maxLen = 9223372036854775807 := rfl
 refine fn_intro Try.func28 rfl Try.ntmps28 rfl rfl ?_
 refine s_ (o_ ?_)
 refine g_box rfl rfl rfl rfl (fun b1 => ?_)
 refine g_box rfl rfl rfl rfl (fun b2 => ?_)
 refine xg 1 [] rfl rfl ?_
 refine ntso_ ?_
 refine xg 2 [1] rfl (by omega) ?_
 refine g_val (v := .int .i64 (tx.n : Int)) rfl rfl rfl (y_val (y_slen rfl Try.underlying9) (by rw [size_mk]; rfl)) ?_
 refine xg 1 [] rfl rfl ?_
 refine ntso_ ?_
 refine xg 1 [] rfl rfl ?_
 refine g_callOwn (L0 := []) (fun y : {y : TbX // y.gs.length = tx.n + 1} => y.1.v (tx.n + 1)) (fun y => [y.1.o (tx.n + 1), .brs y.1.gs (tx.n + 1) (fun _ _ => false)]) rfl rfl rfl Try.call47 (fun w hS => empty_any tx.n hn w) ?_
 rintro ⟨T, hgT⟩
 dsimp only
 simp only [List.cons_append, List.nil_append]
 refine xg 1 [] rfl rfl ?_
 refine n_ (t_ (s_ (s_ (o_ ?_))))
 refine xg 2 [2] rfl (by omega) ?_
 refine n_ (t_ (g_block (s_ (o_ ?_))))
 refine xg 2 [0] rfl rfl ?_
 refine n_ (t_ ?_)
 refine g_casep 31 rfl (fun h1 => ?_) fun h1 => ?_
 ·refine g_cond_t rfl (s_ (o_ ?_))
  refine xg 1 [] rfl rfl ?_
  refine n_ (t_ (g_block ?_))
  refine g_brsEq (d := (oneC tx s 0)) 1 rfl (fun p r hp hr => one_zero.symm) ?_
  simp only [List.set_cons_zero, List.set_cons_succ]
  refine g_loop (α := {x : Nat // x ≤ tx.n}) (fun x => [(2, .pointer (some ⟨b1, 0, none⟩)), (3, .pointer (some ⟨b2, 0, none⟩)), (5, .int .i64 (tx.n : Int)), (6, T.v (tx.n + 1)), (7, .int .i64 (x.1 : Int))]) (fun x => St w [] [.cells b1 71 [st8 tx.l, .bool tx.bg], .cells b2 28 (nC (MT.mk k s nmi nma nnu (Value.slice pq q.length cq) q)), T.o (tx.n + 1), .brs T.gs (tx.n + 1) (oneC tx s x.1)]) (fun x => tx.n - x.1) ⟨0, Nat.zero_le _⟩ [2, 3, 5, 6, 7] rfl (fun w h => h.pick [3,2,0,0] rfl) ?_
  rintro ⟨i, hi⟩
  dsimp only
  refine s_ (s_ (o_ ?_))
  refine xg 3 [0] rfl rfl ?_
  refine n_ (t_ ?_)
  refine g_casep 35 rfl (fun h2 => ?_) fun h2 => ?_
  ·refine g_cond_t rfl (g_skip (t_ (s_ (g_block ?_))))
   obtain ⟨ch, hch, hch8⟩ := st8_get (l := tx.l) (i := i) (by have : tx.n = tx.l.length := rfl; omega)
   have hch9 := ch.toNat_lt
   refine k_go [0,0,0] rfl (by kernel_rfl) (fun _ _ _ _ _ h => h) fun hQ => ?_
   refine k_x 0 [0,0,0] [] hQ (by kernel_rfl) rfl rfl rfl rfl rfl rfl ?_
   refine k_x 1 [0,0,0] [] hQ (by kernel_rfl) rfl rfl rfl rfl rfl rfl ?_
   refine k_take (v := .pointer (some ⟨T.tb, i, none⟩)) 2 rfl (by kernel_rfl) hQ rfl rfl rfl (fun _ h => h.pick [0,0,0] rfl) (y_idxAddr (m := i) rfl rfl Try.underlying73 Try.sizeOf75 (by omega) (by omega) (by omega)) ?_
   refine k_take (v := slW (tx.n + 1) (T.gs.getD i 0)) 3 rfl (by kernel_rfl) hQ rfl rfl rfl (fun _ h => h.pick [0,0,0] rfl) (y_ldR (off := i) 2 rfl Try.isAgg75 rfl (gt_get (n := tx.n + 1) (by omega))) ?_
   refine k_x 4 [0,0,0] [] hQ (by kernel_rfl) rfl rfl rfl rfl rfl rfl ?_
   refine k_xc 5 [0,0,0] [] hQ (by kernel_rfl) rfl rfl rfl rfl rfl rfl (by omega) ?_
   refine k_x 6 [0,0,0] [] hQ (by kernel_rfl) rfl rfl rfl rfl rfl rfl ?_
   refine k_xc 7 [0,0,0] [1] hQ (by kernel_rfl) rfl rfl rfl rfl rfl rfl (by omega) ?_
   refine k_x 8 [0,0,0] [] hQ (by kernel_rfl) rfl rfl rfl rfl rfl rfl ?_
   refine k_xc 9 [0,0,0] [0] hQ (by kernel_rfl) rfl rfl rfl rfl rfl rfl (by omega) ?_
   refine k_x 10 [0,0,0] [] hQ (by kernel_rfl) rfl rfl rfl rfl rfl rfl ?_
   refine k_take (v := .int .u8 (ch.toNat : Int)) 11 rfl (by kernel_rfl) hQ rfl rfl rfl (fun _ h => h.pick [0,0,0] rfl) (y_sidx (i := i) rfl rfl Try.underlying9 hch8) ?_
   refine k_call 12 (m_has10 s hsw ch.toNat (by omega)) any_I rfl (by kernel_rfl) hQ rfl rfl rfl (fun _ h => h.pick [0,0,0] rfl) ?_
   refine k_take (v := .pointer (some ⟨T.gs.getD i 0, (i + 1), none⟩)) 13 rfl (by kernel_rfl) hQ rfl rfl rfl (fun _ h => h.pick [0,0,0] rfl) (y_idxAddr (m := (i + 1)) rfl rfl Try.underlying75 Try.sizeOf4 (by omega) (by omega) (by omega)) ?_
   refine k_one 14 (by kernel_rfl) ?_
   refine k_op 14 rfl ?_
   refine g_stB (i := i) (j := (i + 1)) 3 rfl rfl rfl Try.sizeOf4 rfl (gt_at (by omega)) (by omega) ?_
   simp only [List.set_cons_zero, List.set_cons_succ]
   refine n_ ?_
   refine k_end (fun _ h => h.pick [0,0,0] rfl) ?_
   refine k_done (by kernel_rfl) ?_
   refine g_in_normal (t_ (o_ ?_))
   refine xg 3 [] rfl (by omega) ?_
   refine n_ ?_
   refine g_brsEq (d := (oneC tx s (i + 1))) 3 rfl (fun p r hp hr => one_step hch) ?_
   simp only [List.set_cons_zero, List.set_cons_succ]
   exact g_again ⟨i + 1, by omega⟩ [2, 3, 5, 6, 7] (by dsimp only; omega) rfl (fun w h => h.pick [0,0,0,0] rfl)
  refine g_cond_f rfl (g_exit (g_then_exit (g_then_exit (g_in_exit (g_in_normal (t_ (s_ (o_ ?_))))))))
  refine xg 2 [] rfl rfl ?_
  refine n_ (t_ (g_ret ?_))
  refine g_end1 Try.results28 rfl ?_
  exact fun w hS => ⟨⟨T, hgT⟩, rfl, (hS.pick [2,2] rfl).brsTo (fun p r hp hr => of_one ‹k = 1› (by omega))⟩
 refine g_cond_f rfl (s_ (o_ ?_))
 refine xg 2 [0] rfl rfl ?_
 refine n_ (t_ ?_)
 refine g_casep 52 rfl (fun h3 => ?_) fun h3 => ?_
 ·refine g_cond_t rfl ?_
  refine k_go [3,2,0] rfl (by kernel_rfl) (fun _ _ _ _ _ h => h) fun hQ => ?_
  refine k_x 0 [3,2,0] [] hQ (by kernel_rfl) rfl rfl rfl rfl rfl rfl ?_
  refine k_take (v := .pointer (some ⟨T.tb, 0, none⟩)) 1 rfl (by kernel_rfl) hQ rfl rfl rfl (fun _ h => h.pick [3,2,0] rfl) (y_idxAddr (m := 0) rfl rfl Try.underlying73 Try.sizeOf75 (by omega) (by omega) (by omega)) ?_
  refine k_take (v := slW (tx.n + 1) (T.gs.getD 0 0)) 2 rfl (by kernel_rfl) hQ rfl rfl rfl (fun _ h => h.pick [3,2,0] rfl) (y_ldR (off := 0) 2 rfl Try.isAgg75 rfl (gt_get (n := tx.n + 1) (by omega))) ?_
  refine k_x 3 [3,2,0] [] hQ (by kernel_rfl) rfl rfl rfl rfl rfl rfl ?_
  refine k_xc 4 [3,2,0] [0] hQ (by kernel_rfl) rfl rfl rfl rfl rfl rfl (by omega) ?_
  refine k_take (v := .pointer (some ⟨T.gs.getD 0 0, 0, none⟩)) 5 rfl (by kernel_rfl) hQ rfl rfl rfl (fun _ h => h.pick [3,2,0] rfl) (y_idxAddr (m := 0) rfl rfl Try.underlying75 Try.sizeOf4 (by omega) (by omega) (by omega)) ?_
  refine k_one 6 (by kernel_rfl) ?_
  refine k_op 6 rfl ?_
  refine g_stB (i := 0) (j := 0) 1 rfl rfl rfl Try.sizeOf4 rfl (gt_at (by omega)) (by omega) ?_
  simp only [List.set_cons_zero, List.set_cons_succ]
  refine n_ ?_
  refine k_end (fun _ h => h.pick [3,2,0] rfl) ?_
  refine k_done (by kernel_rfl) ?_
  refine g_in_normal (t_ (s_ (o_ ?_)))
  refine xg 2 [] rfl rfl ?_
  refine n_ (t_ (g_ret ?_))
  refine g_end1 Try.results28 rfl ?_
  exact fun w hS => ⟨⟨T, hgT⟩, rfl, (hS.pick [0,0] rfl).brsTo (fun p r hp hr => of_beg ‹k = 6›)⟩
 refine g_cond_f rfl (s_ (o_ ?_))
 refine xg 2 [0] rfl rfl ?_
 refine n_ (t_ ?_)
 refine g_casep 60 rfl (fun h4 => ?_) fun h4 => ?_
 ·refine g_cond_t rfl (o_ ?_)
  refine xg 2 [] rfl rfl ?_
  refine g_val (v := .pointer (some ⟨T.tb, tx.n, none⟩)) rfl rfl rfl (y_idxAddr (m := tx.n) rfl rfl Try.underlying73 Try.sizeOf75 (by omega) (by omega) (by omega)) ?_
  refine g_val (v := slW (tx.n + 1) (T.gs.getD tx.n 0)) rfl rfl rfl (y_ldR (off := tx.n) 0 rfl Try.isAgg75 rfl (gt_get (n := tx.n + 1) (by omega))) ?_
  refine xg 1 [] rfl rfl ?_
  refine g_val (v := .pointer (some ⟨T.gs.getD tx.n 0, tx.n, none⟩)) rfl rfl rfl (y_idxAddr (m := tx.n) rfl rfl Try.underlying75 Try.sizeOf4 (by omega) (by omega) (by omega)) ?_
  refine g_stB (i := tx.n) (j := tx.n) 1 rfl rfl rfl Try.sizeOf4 rfl (gt_at (by omega)) (by omega) ?_
  simp only [List.set_cons_zero, List.set_cons_succ]
  refine n_ (g_in_normal (t_ (s_ (o_ ?_))))
  refine xg 2 [] rfl rfl ?_
  refine n_ (t_ (g_ret ?_))
  refine g_end1 Try.results28 rfl ?_
  exact fun w hS => ⟨⟨T, hgT⟩, rfl, (hS.pick [0,0] rfl).brsTo (fun p r hp hr => of_end ‹k = 7›)⟩
 refine g_cond_f rfl (s_ (o_ ?_))
 refine xg 2 [0] rfl rfl ?_
 refine n_ (t_ ?_)
 refine g_casep 68 rfl (fun h5 => ?_) fun h5 => ?_
 ·refine g_cond_t rfl (s_ (s_ (o_ ?_)))
  refine xg 4 [2,0] rfl (by omega) ?_
  refine n_ (t_ ?_)
  refine g_casep 73 rfl (fun h6 => ?_) fun h6 => ?_
  ·refine g_cond_t rfl (s_ ?_)
   obtain ⟨u, hu⟩ : ∃ u, q[0]? = some u := ⟨_, List.getElem?_eq_getElem (by omega)⟩
   have huk := hqk 0 u hu
   have huc : u.cp := cpL_mem hcq (List.mem_of_getElem? hu)
   refine k_go [3,2] rfl (by kernel_rfl) (fun _ _ _ _ _ h => h) fun hQ => ?_
   refine k_xc 0 [3,2] [0] hQ (by kernel_rfl) rfl rfl rfl rfl rfl rfl (by omega) ?_
   refine k_x 1 [3,2] [] hQ (by kernel_rfl) rfl rfl rfl rfl rfl rfl ?_
   refine k_xc 2 [3,2] [1] hQ (by kernel_rfl) rfl rfl rfl rfl rfl rfl (by omega) ?_
   refine k_take 3 rfl (by kernel_rfl) hQ rfl rfl rfl (fun _ h => h.pick [3,2] rfl) (y_rdAddr hrq rfl rfl Try.underlying26 Try.sizeOf28 (by omega) (by omega)) ?_
   refine k_take (v := .agg (nC u).toArray) 4 rfl (by kernel_rfl) hQ rfl rfl rfl (fun _ h => h.pick [3,2] rfl) (y_rdAggF (i := 0) (vs := nC u) hrq List.not_mem_nil rfl Try.isAgg28 Try.sizeOf28 (by omega) (by omega) (nC_len _) (fun jj hjj => by rw [show (0 : Int).toNat = 0 from rfl, List.getD_eq_getElem?_getD, hu]; rw [Option.getD_some, List.getElem?_eq_getElem (show jj < (nC u).length by rw [nC_len]; exact hjj)]; rfl)) ?_
   refine k_xc 6 [3,2] [0] hQ (by kernel_rfl) rfl rfl rfl rfl rfl rfl (by omega) ?_
   refine k_xc 7 [3,2] [1] hQ (by kernel_rfl) rfl rfl rfl rfl rfl rfl (by omega) ?_
   refine k_one 5 (by kernel_rfl) ?_
   refine k_op 5 rfl ?_
   refine g_callOwn (L0 := []) (fun y : {y : TbX // y.gs.length = tx.n + 1} => y.1.v (tx.n + 1)) (fun y => [y.1.o (tx.n + 1), .brs y.1.gs (tx.n + 1) (fun i j => mM tx u i j)]) rfl rfl rfl Try.call28 (fun w hS => ih u (muT_mem (List.mem_of_getElem? hu)) w (hS.okOf huk.1 (fun _ _ => List.not_mem_nil)) huc) ?_
   rintro ⟨Ya, hgYa⟩
   dsimp only
   simp only [List.cons_append, List.nil_append]
   refine n_ ?_
   refine k_end (fun _ h => h.pick [5,4] rfl) ?_
   refine k_call 8 (m_rest10 k s nmi nma nnu pq cq q (by omega)) any_I rfl (by kernel_rfl) hQ rfl rfl rfl (fun _ h => h.pick [5,4] rfl) ?_
   refine k_one 9 (by kernel_rfl) ?_
   refine k_op 9 rfl ?_
   refine g_callOwn (L0 := []) (fun y : {y : TbX // y.gs.length = tx.n + 1} => y.1.v (tx.n + 1)) (fun y => [y.1.o (tx.n + 1), .brs y.1.gs (tx.n + 1) (fun i j => mM tx (restT pq cq q) i j)]) rfl rfl rfl Try.call28 (fun w hS => ih (restT pq cq q) (muT_rest (by omega)) w (hS.okOf (restT_rd hcap.1 hrq hrl) (fun _ _ => List.not_mem_nil)) (restT_cp hcap hcq)) ?_
   rintro ⟨Yb, hgYb⟩
   dsimp only
   simp only [List.cons_append, List.nil_append]
   refine n_ ?_
   refine k_end (fun _ h => h.pick [7,6] rfl) ?_
   refine k_one 10 (by kernel_rfl) ?_
   refine k_op 10 rfl ?_
   refine g_callOwn (L0 := []) (fun y : {y : TbX // y.gs.length = tx.n + 1} => y.1.v (tx.n + 1)) (fun y => [y.1.o (tx.n + 1), .brs y.1.gs (tx.n + 1) (thC tx.n (fun i j => mM tx u i j) (fun i j => mM tx (restT pq cq q) i j))]) rfl rfl rfl Try.call49 (fun w hS => then_any tx.n hn Ya Yb _ _ w (rt_of (x := Ya) 2 3 hS (by omega) hgYa rfl rfl) (rt_of (x := Yb) 0 1 hS (by omega) hgYb rfl rfl)) ?_
   rintro ⟨Yc, hgYc⟩
   dsimp only
   simp only [List.cons_append, List.nil_append]
   refine n_ ?_
   refine k_end (fun _ h => h.pick [9,8] rfl) ?_
   refine k_x 11 [9,8] [] hQ (by kernel_rfl) rfl rfl rfl rfl rfl rfl ?_
   refine k_done (by kernel_rfl) ?_
   refine t_ (g_ret (g_then_ret (g_in_ret (g_then_ret ?_))))
   refine g_end1 Try.results28 rfl ?_
   exact fun w hS => ⟨⟨Yc, hgYc⟩, rfl, (hS.pick [0,0] rfl).brsTo (fun p r hp hr => of_row ‹k = 2› hu (by omega))⟩
  refine g_cond_f rfl (g_skip (t_ (s_ (o_ ?_))))
  refine xg 2 [3] rfl (by omega) ?_
  refine g_callOwn (L0 := []) (fun y : {y : TbX // y.gs.length = tx.n + 1} => y.1.v (tx.n + 1)) (fun y => [y.1.o (tx.n + 1), .brs y.1.gs (tx.n + 1) (fun i j => mM tx zMT i j)]) rfl rfl rfl Try.call28 (fun w hS => ih zMT (muT_zero (by omega)) w (hS.okOf (zMT_rd _) (fun _ _ => List.not_mem_nil)) zMT_cp) ?_
  rintro ⟨Ya, hgYa⟩
  dsimp only
  simp only [List.cons_append, List.nil_append]
  refine xg 1 [] rfl rfl ?_
  refine n_ (t_ (g_ret (g_in_ret (g_then_ret ?_))))
  refine g_end1 Try.results28 rfl ?_
  exact fun w hS => ⟨⟨Ya, hgYa⟩, rfl, (hS.pick [0,0] rfl).brsTo (fun p r hp hr => of_row0 ‹k = 2› (by omega))⟩
 refine g_cond_f rfl (s_ (o_ ?_))
 refine xg 2 [0] rfl rfl ?_
 refine n_ (t_ ?_)
 refine g_casep 88 rfl (fun h7 => ?_) fun h7 => ?_
 ·refine g_cond_t rfl (s_ (o_ ?_))
  refine xg 1 [] rfl rfl ?_
  refine n_ (t_ (g_block ?_))
  refine g_brsEq (d := (eiK tx q 0)) 1 rfl (fun p r hp hr => ei_zero.symm) ?_
  simp only [List.set_cons_zero, List.set_cons_succ]
  refine g_loop (α := {x : Nat // x ≤ q.length}) (fun x => [(2, .pointer (some ⟨b1, 0, none⟩)), (3, .pointer (some ⟨b2, 0, none⟩)), (5, .int .i64 (tx.n : Int)), (6, T.v (tx.n + 1)), (8, .int .i64 (x.1 : Int))]) (fun x => St w [] [.cells b1 71 [st8 tx.l, .bool tx.bg], .cells b2 28 (nC (MT.mk k s nmi nma nnu (Value.slice pq q.length cq) q)), T.o (tx.n + 1), .brs T.gs (tx.n + 1) (eiK tx q x.1)]) (fun x => q.length - x.1) ⟨0, Nat.zero_le _⟩ [2, 3, 5, 6, 8] rfl (fun w h => h.pick [3,2,0,0] rfl) ?_
  rintro ⟨m, hm⟩
  dsimp only
  refine s_ (s_ (o_ ?_))
  refine xg 5 [1,0] rfl (by omega) ?_
  refine n_ (t_ ?_)
  refine g_casep 94 rfl (fun h8 => ?_) fun h8 => ?_
  ·refine g_cond_t rfl (g_skip (t_ (s_ (g_block (s_ ?_)))))
   obtain ⟨u, hu⟩ : ∃ u, q[m]? = some u := ⟨_, List.getElem?_eq_getElem (by omega)⟩
   have huk := hqk m u hu
   have huc : u.cp := cpL_mem hcq (List.mem_of_getElem? hu)
   refine k_go [0,0] rfl (by kernel_rfl) (fun _ _ _ _ _ h => h) fun hQ => ?_
   refine k_xc 0 [0,0] [0] hQ (by kernel_rfl) rfl rfl rfl rfl rfl rfl (by omega) ?_
   refine k_x 1 [0,0] [] hQ (by kernel_rfl) rfl rfl rfl rfl rfl rfl ?_
   refine k_xc 2 [0,0] [1] hQ (by kernel_rfl) rfl rfl rfl rfl rfl rfl (by omega) ?_
   refine k_x 3 [0,0] [] hQ (by kernel_rfl) rfl rfl rfl rfl rfl rfl ?_
   refine k_take 4 rfl (by kernel_rfl) hQ rfl rfl rfl (fun _ h => h.pick [0,0] rfl) (y_rdAddr hrq rfl rfl Try.underlying26 Try.sizeOf28 (by omega) (by omega)) ?_
   refine k_take (v := .agg (nC u).toArray) 5 rfl (by kernel_rfl) hQ rfl rfl rfl (fun _ h => h.pick [0,0] rfl) (y_rdAggF (i := (m : Int)) (vs := nC u) hrq List.not_mem_nil rfl Try.isAgg28 Try.sizeOf28 (by omega) (by omega) (nC_len _) (fun jj hjj => by rw [Int.toNat_natCast, List.getD_eq_getElem?_getD, hu]; rw [Option.getD_some, List.getElem?_eq_getElem (show jj < (nC u).length by rw [nC_len]; exact hjj)]; rfl)) ?_
   refine k_one 6 (by kernel_rfl) ?_
   refine k_op 6 rfl ?_
   refine g_callOwn (L0 := []) (fun y : {y : TbX // y.gs.length = tx.n + 1} => y.1.v (tx.n + 1)) (fun y => [y.1.o (tx.n + 1), .brs y.1.gs (tx.n + 1) (fun i j => mM tx u i j)]) rfl rfl rfl Try.call28 (fun w hS => ih u (muT_mem (List.mem_of_getElem? hu)) w (hS.okOf huk.1 (fun _ _ => List.not_mem_nil)) huc) ?_
   rintro ⟨Xn, hgXn⟩
   dsimp only
   simp only [List.cons_append, List.nil_append]
   refine n_ ?_
   refine k_end (fun _ h => h.pick [2,2] rfl) ?_
   refine k_x 7 [2,2] [] hQ (by kernel_rfl) rfl rfl rfl rfl rfl rfl ?_
   refine k_done (by kernel_rfl) ?_
   refine t_ (s_ (o_ ?_))
   refine xg 1 [] rfl rfl ?_
   refine n_ (t_ (g_block ?_))
   refine g_brsEq (d := (eiC tx q m u 0 0)) 5 rfl (fun p r hp hr => ei_start) ?_
   simp only [List.set_cons_zero, List.set_cons_succ]
   refine g_loop (α := {x : Nat // x ≤ tx.n + 1}) (fun x => [(2, .pointer (some ⟨b1, 0, none⟩)), (3, .pointer (some ⟨b2, 0, none⟩)), (5, .int .i64 (tx.n : Int)), (6, T.v (tx.n + 1)), (9, Xn.v (tx.n + 1)), (8, .int .i64 (m : Int)), (10, .int .i64 (x.1 : Int))]) (fun x => St w [] [.cells b1 71 [st8 tx.l, .bool tx.bg], .cells b2 28 (nC (MT.mk k s nmi nma nnu (Value.slice pq q.length cq) q)), T.o (tx.n + 1), .brs T.gs (tx.n + 1) (eiC tx q m u x.1 x.1), Xn.o (tx.n + 1), .brs Xn.gs (tx.n + 1) (fun i j => mM tx u i j)]) (fun x => tx.n + 1 - x.1) ⟨0, Nat.zero_le _⟩ [2, 3, 5, 6, 9, 8, 10] rfl (fun w h => h.pick [2,2,2,2,0,0] rfl) ?_
   rintro ⟨i, hi⟩
   dsimp only
   refine s_ (s_ (o_ ?_))
   refine xg 3 [0] rfl rfl ?_
   refine n_ (t_ ?_)
   refine g_casep 106 rfl (fun h9 => ?_) fun h9 => ?_
   ·refine g_cond_t rfl (g_skip (t_ (s_ (g_block (s_ (o_ ?_))))))
    refine xg 2 [] rfl rfl ?_
    refine n_ (t_ (g_block ?_))
    refine g_loop (α := {x : Nat // i ≤ x ∧ x ≤ tx.n + 1}) (fun x => [(2, .pointer (some ⟨b1, 0, none⟩)), (3, .pointer (some ⟨b2, 0, none⟩)), (5, .int .i64 (tx.n : Int)), (6, T.v (tx.n + 1)), (9, Xn.v (tx.n + 1)), (8, .int .i64 (m : Int)), (10, .int .i64 (i : Int)), (11, .int .i64 (x.1 : Int))]) (fun x => St w [] [.cells b1 71 [st8 tx.l, .bool tx.bg], .cells b2 28 (nC (MT.mk k s nmi nma nnu (Value.slice pq q.length cq) q)), T.o (tx.n + 1), .brs T.gs (tx.n + 1) (eiC tx q m u i x.1), Xn.o (tx.n + 1), .brs Xn.gs (tx.n + 1) (fun i j => mM tx u i j)]) (fun x => tx.n + 1 - x.1) ⟨i, by omega, by omega⟩ [2, 3, 5, 6, 9, 8, 10, 11] rfl (fun w h => h.pick [0,0,0,0,0,0] rfl) ?_
    rintro ⟨j, hij, hj⟩
    dsimp only
    refine s_ (s_ (o_ ?_))
    refine xg 3 [0] rfl rfl ?_
    refine n_ (t_ ?_)
    refine g_casep 112 rfl (fun h10 => ?_) fun h10 => ?_
    ·refine g_cond_t rfl (g_skip (t_ (s_ (g_block ?_))))
     cases hc : eiC tx q m u i j i j
     ·refine k_go [2,3,3] rfl (by kernel_rfl) (fun _ _ _ _ _ h => h) fun hQ => ?_
      refine k_x 0 [2,3,3] [] hQ (by kernel_rfl) rfl rfl rfl rfl rfl rfl ?_
      refine k_x 1 [2,3,3] [] hQ (by kernel_rfl) rfl rfl rfl rfl rfl rfl ?_
      refine k_take (v := .pointer (some ⟨T.tb, i, none⟩)) 2 rfl (by kernel_rfl) hQ rfl rfl rfl (fun _ h => h.pick [2,3,3] rfl) (y_idxAddr (m := i) rfl rfl Try.underlying73 Try.sizeOf75 (by omega) (by omega) (by omega)) ?_
      refine k_take (v := slW (tx.n + 1) (T.gs.getD i 0)) 3 rfl (by kernel_rfl) hQ rfl rfl rfl (fun _ h => h.pick [2,3,3] rfl) (y_ldR (off := i) 0 rfl Try.isAgg75 rfl (gt_get (n := tx.n + 1) (by omega))) ?_
      refine k_x 4 [2,3,3] [] hQ (by kernel_rfl) rfl rfl rfl rfl rfl rfl ?_
      refine k_x 5 [2,3,3] [] hQ (by kernel_rfl) rfl rfl rfl rfl rfl rfl ?_
      refine k_x 6 [2,3,3] [] hQ (by kernel_rfl) rfl rfl rfl rfl rfl rfl ?_
      refine k_take (v := .pointer (some ⟨T.tb, i, none⟩)) 7 rfl (by kernel_rfl) hQ rfl rfl rfl (fun _ h => h.pick [2,3,3] rfl) (y_idxAddr (m := i) rfl rfl Try.underlying73 Try.sizeOf75 (by omega) (by omega) (by omega)) ?_
      refine k_take (v := slW (tx.n + 1) (T.gs.getD i 0)) 8 rfl (by kernel_rfl) hQ rfl rfl rfl (fun _ h => h.pick [2,3,3] rfl) (y_ldR (off := i) 0 rfl Try.isAgg75 rfl (gt_get (n := tx.n + 1) (by omega))) ?_
      refine k_x 9 [2,3,3] [] hQ (by kernel_rfl) rfl rfl rfl rfl rfl rfl ?_
      refine k_take (v := .pointer (some ⟨T.gs.getD i 0, j, none⟩)) 10 rfl (by kernel_rfl) hQ rfl rfl rfl (fun _ h => h.pick [2,3,3] rfl) (y_idxAddr (m := j) rfl rfl Try.underlying75 Try.sizeOf4 (by omega) (by omega) (by omega)) ?_
      refine k_one 11 (by kernel_rfl) ?_
      refine k_op 11 rfl ?_
      refine g_val (v := .bool false) rfl rfl rfl (y_val (y_ldB (i := i) (j := j) 3 rfl Try.isAgg4 rfl (gt_at (by omega)) (by omega)) (by rw [hc])) ?_
      refine n_ ?_
      refine k_end (fun _ h => h.pick [2,3,3] rfl) ?_
      refine k_x 12 [2,3,3] [] hQ (by kernel_rfl) rfl rfl rfl rfl rfl rfl ?_
      refine k_x 13 [2,3,3] [] hQ (by kernel_rfl) rfl rfl rfl rfl rfl rfl ?_
      refine k_x 14 [2,3,3] [] hQ (by kernel_rfl) rfl rfl rfl rfl rfl rfl ?_
      refine k_take (v := .pointer (some ⟨Xn.tb, i, none⟩)) 15 rfl (by kernel_rfl) hQ rfl rfl rfl (fun _ h => h.pick [2,3,3] rfl) (y_idxAddr (m := i) rfl rfl Try.underlying73 Try.sizeOf75 (by omega) (by omega) (by omega)) ?_
      refine k_take (v := slW (tx.n + 1) (Xn.gs.getD i 0)) 16 rfl (by kernel_rfl) hQ rfl rfl rfl (fun _ h => h.pick [2,3,3] rfl) (y_ldR (off := i) 1 rfl Try.isAgg75 rfl (gt_get (n := tx.n + 1) (by omega))) ?_
      refine k_x 17 [2,3,3] [] hQ (by kernel_rfl) rfl rfl rfl rfl rfl rfl ?_
      refine k_take (v := .pointer (some ⟨Xn.gs.getD i 0, j, none⟩)) 18 rfl (by kernel_rfl) hQ rfl rfl rfl (fun _ h => h.pick [2,3,3] rfl) (y_idxAddr (m := j) rfl rfl Try.underlying75 Try.sizeOf4 (by omega) (by omega) (by omega)) ?_
      refine k_take (v := .bool ((fun i j => mM tx u i j) i j)) 19 rfl (by kernel_rfl) hQ rfl rfl rfl (fun _ h => h.pick [2,3,3] rfl) (y_ldB (i := i) (j := j) 2 rfl Try.isAgg4 rfl (gt_at (by omega)) (by omega)) ?_
      refine k_x 20 [2,3,3] [] hQ (by kernel_rfl) rfl rfl rfl rfl rfl rfl ?_
      refine k_take (v := .pointer (some ⟨T.gs.getD i 0, j, none⟩)) 21 rfl (by kernel_rfl) hQ rfl rfl rfl (fun _ h => h.pick [2,3,3] rfl) (y_idxAddr (m := j) rfl rfl Try.underlying75 Try.sizeOf4 (by omega) (by omega) (by omega)) ?_
      refine k_one 22 (by kernel_rfl) ?_
      refine k_op 22 rfl ?_
      refine g_stB (i := i) (j := j) 3 rfl rfl rfl Try.sizeOf4 rfl (gt_at (by omega)) (by omega) ?_
      simp only [List.set_cons_zero, List.set_cons_succ]
      refine n_ ?_
      refine k_end (fun _ h => h.pick [2,3,3] rfl) ?_
      refine k_done (by kernel_rfl) ?_
      refine g_in_normal (t_ (o_ ?_))
      refine xg 3 [] rfl (by omega) ?_
      refine n_ ?_
      refine g_brsEq (d := (eiC tx q m u i (j + 1))) 3 rfl (fun p r hp hr => ei_step (by rw [hc]; rw [Bool.false_or])) ?_
      simp only [List.set_cons_zero, List.set_cons_succ]
      exact g_again ⟨j + 1, by omega, by omega⟩ [2, 3, 5, 6, 9, 8, 10, 11] (by dsimp only; omega) rfl (fun w h => h.pick [0,0,0,0,0,0] rfl)
     refine k_go [] rfl (by kernel_rfl) (fun _ _ _ _ _ h => h) fun hQ => ?_
     refine k_x 0 [] [] hQ (by kernel_rfl) rfl rfl rfl rfl rfl rfl ?_
     refine k_x 1 [] [] hQ (by kernel_rfl) rfl rfl rfl rfl rfl rfl ?_
     refine k_take (v := .pointer (some ⟨T.tb, i, none⟩)) 2 rfl (by kernel_rfl) hQ rfl rfl rfl (fun _ h => h.pick [] rfl) (y_idxAddr (m := i) rfl rfl Try.underlying73 Try.sizeOf75 (by omega) (by omega) (by omega)) ?_
     refine k_x 4 [] [] hQ (by kernel_rfl) rfl rfl rfl rfl rfl rfl ?_
     refine k_x 5 [] [] hQ (by kernel_rfl) rfl rfl rfl rfl rfl rfl ?_
     refine k_x 6 [] [] hQ (by kernel_rfl) rfl rfl rfl rfl rfl rfl ?_
     refine k_take (v := .pointer (some ⟨T.tb, i, none⟩)) 7 rfl (by kernel_rfl) hQ rfl rfl rfl (fun _ h => h.pick [] rfl) (y_idxAddr (m := i) rfl rfl Try.underlying73 Try.sizeOf75 (by omega) (by omega) (by omega)) ?_
     refine k_x 9 [] [] hQ (by kernel_rfl) rfl rfl rfl rfl rfl rfl ?_
     refine k_all [3,8] (by kernel_rfl) (by simp) ⟨?_, ?_, trivial⟩
     ·refine k_op 3 rfl ?_
      refine g_val (v := slW (tx.n + 1) (T.gs.getD i 0)) rfl rfl rfl (y_ldR (off := i) 2 rfl Try.isAgg75 rfl (gt_get (n := tx.n + 1) (by omega))) ?_
      refine n_ ?_
      refine k_end (fun _ h => h.pick [] rfl) ?_
      refine k_one 8 (by kernel_rfl) ?_
      refine k_op 8 rfl ?_
      refine g_val (v := slW (tx.n + 1) (T.gs.getD i 0)) rfl rfl rfl (y_ldR (off := i) 2 rfl Try.isAgg75 rfl (gt_get (n := tx.n + 1) (by omega))) ?_
      refine n_ ?_
      refine k_end (fun _ h => h.pick [] rfl) ?_
      refine k_take (v := .pointer (some ⟨T.gs.getD i 0, j, none⟩)) 10 rfl (by kernel_rfl) hQ rfl rfl rfl (fun _ h => h.pick [] rfl) (y_idxAddr (m := j) rfl rfl Try.underlying75 Try.sizeOf4 (by omega) (by omega) (by omega)) ?_
      refine k_one 11 (by kernel_rfl) ?_
      refine k_op 11 rfl ?_
      refine g_val (v := .bool true) rfl rfl rfl (y_val (y_ldB (i := i) (j := j) 3 rfl Try.isAgg4 rfl (gt_at (by omega)) (by omega)) (by rw [hc])) ?_
      refine n_ ?_
      refine k_end (fun _ h => h.pick [] rfl) ?_
      refine k_x 12 [] [] hQ (by kernel_rfl) rfl rfl rfl rfl rfl rfl ?_
      refine k_no 13 [] hQ (by kernel_rfl) rfl rfl rfl rfl rfl ?_
      refine k_no 14 [] hQ (by kernel_rfl) rfl rfl rfl rfl rfl ?_
      refine k_no 15 [] hQ (by kernel_rfl) rfl rfl rfl rfl rfl ?_
      refine k_no 16 [] hQ (by kernel_rfl) rfl rfl rfl rfl rfl ?_
      refine k_no 17 [] hQ (by kernel_rfl) rfl rfl rfl rfl rfl ?_
      refine k_no 18 [] hQ (by kernel_rfl) rfl rfl rfl rfl rfl ?_
      refine k_no 19 [] hQ (by kernel_rfl) rfl rfl rfl rfl rfl ?_
      refine k_x 20 [] [] hQ (by kernel_rfl) rfl rfl rfl rfl rfl rfl ?_
      refine k_take (v := .pointer (some ⟨T.gs.getD i 0, j, none⟩)) 21 rfl (by kernel_rfl) hQ rfl rfl rfl (fun _ h => h.pick [] rfl) (y_idxAddr (m := j) rfl rfl Try.underlying75 Try.sizeOf4 (by omega) (by omega) (by omega)) ?_
      refine k_one 22 (by kernel_rfl) ?_
      refine k_op 22 rfl ?_
      refine g_stB (i := i) (j := j) 3 rfl rfl rfl Try.sizeOf4 rfl (gt_at (by omega)) (by omega) ?_
      simp only [List.set_cons_zero, List.set_cons_succ]
      refine n_ ?_
      refine k_end (fun _ h => h.pick [] rfl) ?_
      refine k_done (by kernel_rfl) ?_
      refine g_in_normal (t_ (o_ ?_))
      refine xg 3 [] rfl (by omega) ?_
      refine n_ ?_
      refine g_brsEq (d := (eiC tx q m u i (j + 1))) 3 rfl (fun p r hp hr => ei_step (by rw [hc]; rfl)) ?_
      simp only [List.set_cons_zero, List.set_cons_succ]
      exact g_again ⟨j + 1, by omega, by omega⟩ [2, 3, 5, 6, 9, 8, 10, 11] (by dsimp only; omega) rfl (fun w h => h.pick [0,0,0,0,0,0] rfl)
     refine k_op 8 rfl ?_
     refine g_val (v := slW (tx.n + 1) (T.gs.getD i 0)) rfl rfl rfl (y_ldR (off := i) 2 rfl Try.isAgg75 rfl (gt_get (n := tx.n + 1) (by omega))) ?_
     refine n_ ?_
     refine k_end (fun _ h => h.pick [] rfl) ?_
     refine k_take (v := .pointer (some ⟨T.gs.getD i 0, j, none⟩)) 10 rfl (by kernel_rfl) hQ rfl rfl rfl (fun _ h => h.pick [] rfl) (y_idxAddr (m := j) rfl rfl Try.underlying75 Try.sizeOf4 (by omega) (by omega) (by omega)) ?_
     refine k_all [3,11] (by kernel_rfl) (by simp) ⟨?_, ?_, trivial⟩
     ·refine k_op 3 rfl ?_
      refine g_val (v := slW (tx.n + 1) (T.gs.getD i 0)) rfl rfl rfl (y_ldR (off := i) 2 rfl Try.isAgg75 rfl (gt_get (n := tx.n + 1) (by omega))) ?_
      refine n_ ?_
      refine k_end (fun _ h => h.pick [] rfl) ?_
      refine k_one 11 (by kernel_rfl) ?_
      refine k_op 11 rfl ?_
      refine g_val (v := .bool true) rfl rfl rfl (y_val (y_ldB (i := i) (j := j) 3 rfl Try.isAgg4 rfl (gt_at (by omega)) (by omega)) (by rw [hc])) ?_
      refine n_ ?_
      refine k_end (fun _ h => h.pick [] rfl) ?_
      refine k_x 12 [] [] hQ (by kernel_rfl) rfl rfl rfl rfl rfl rfl ?_
      refine k_no 13 [] hQ (by kernel_rfl) rfl rfl rfl rfl rfl ?_
      refine k_no 14 [] hQ (by kernel_rfl) rfl rfl rfl rfl rfl ?_
      refine k_no 15 [] hQ (by kernel_rfl) rfl rfl rfl rfl rfl ?_
      refine k_no 16 [] hQ (by kernel_rfl) rfl rfl rfl rfl rfl ?_
      refine k_no 17 [] hQ (by kernel_rfl) rfl rfl rfl rfl rfl ?_
      refine k_no 18 [] hQ (by kernel_rfl) rfl rfl rfl rfl rfl ?_
      refine k_no 19 [] hQ (by kernel_rfl) rfl rfl rfl rfl rfl ?_
      refine k_x 20 [] [] hQ (by kernel_rfl) rfl rfl rfl rfl rfl rfl ?_
      refine k_take (v := .pointer (some ⟨T.gs.getD i 0, j, none⟩)) 21 rfl (by kernel_rfl) hQ rfl rfl rfl (fun _ h => h.pick [] rfl) (y_idxAddr (m := j) rfl rfl Try.underlying75 Try.sizeOf4 (by omega) (by omega) (by omega)) ?_
      refine k_one 22 (by kernel_rfl) ?_
      refine k_op 22 rfl ?_
      refine g_stB (i := i) (j := j) 3 rfl rfl rfl Try.sizeOf4 rfl (gt_at (by omega)) (by omega) ?_
      simp only [List.set_cons_zero, List.set_cons_succ]
      refine n_ ?_
      refine k_end (fun _ h => h.pick [] rfl) ?_
      refine k_done (by kernel_rfl) ?_
      refine g_in_normal (t_ (o_ ?_))
      refine xg 3 [] rfl (by omega) ?_
      refine n_ ?_
      refine g_brsEq (d := (eiC tx q m u i (j + 1))) 3 rfl (fun p r hp hr => ei_step (by rw [hc]; rfl)) ?_
      simp only [List.set_cons_zero, List.set_cons_succ]
      exact g_again ⟨j + 1, by omega, by omega⟩ [2, 3, 5, 6, 9, 8, 10, 11] (by dsimp only; omega) rfl (fun w h => h.pick [0,0,0,0,0,0] rfl)
     refine k_op 11 rfl ?_
     refine g_val (v := .bool true) rfl rfl rfl (y_val (y_ldB (i := i) (j := j) 3 rfl Try.isAgg4 rfl (gt_at (by omega)) (by omega)) (by rw [hc])) ?_
     refine n_ ?_
     refine k_end (fun _ h => h.pick [] rfl) ?_
     refine k_x 12 [] [] hQ (by kernel_rfl) rfl rfl rfl rfl rfl rfl ?_
     refine k_no 13 [] hQ (by kernel_rfl) rfl rfl rfl rfl rfl ?_
     refine k_no 14 [] hQ (by kernel_rfl) rfl rfl rfl rfl rfl ?_
     refine k_no 15 [] hQ (by kernel_rfl) rfl rfl rfl rfl rfl ?_
     refine k_no 16 [] hQ (by kernel_rfl) rfl rfl rfl rfl rfl ?_
     refine k_no 17 [] hQ (by kernel_rfl) rfl rfl rfl rfl rfl ?_
     refine k_no 18 [] hQ (by kernel_rfl) rfl rfl rfl rfl rfl ?_
     refine k_no 19 [] hQ (by kernel_rfl) rfl rfl rfl rfl rfl ?_
     refine k_x 20 [] [] hQ (by kernel_rfl) rfl rfl rfl rfl rfl rfl ?_
     refine k_one 3 (by kernel_rfl) ?_
     refine k_op 3 rfl ?_
     refine g_val (v := slW (tx.n + 1) (T.gs.getD i 0)) rfl rfl rfl (y_ldR (off := i) 2 rfl Try.isAgg75 rfl (gt_get (n := tx.n + 1) (by omega))) ?_
     refine n_ ?_
     refine k_end (fun _ h => h.pick [] rfl) ?_
     refine k_take (v := .pointer (some ⟨T.gs.getD i 0, j, none⟩)) 21 rfl (by kernel_rfl) hQ rfl rfl rfl (fun _ h => h.pick [] rfl) (y_idxAddr (m := j) rfl rfl Try.underlying75 Try.sizeOf4 (by omega) (by omega) (by omega)) ?_
     refine k_one 22 (by kernel_rfl) ?_
     refine k_op 22 rfl ?_
     refine g_stB (i := i) (j := j) 3 rfl rfl rfl Try.sizeOf4 rfl (gt_at (by omega)) (by omega) ?_
     simp only [List.set_cons_zero, List.set_cons_succ]
     refine n_ ?_
     refine k_end (fun _ h => h.pick [] rfl) ?_
     refine k_done (by kernel_rfl) ?_
     refine g_in_normal (t_ (o_ ?_))
     refine xg 3 [] rfl (by omega) ?_
     refine n_ ?_
     refine g_brsEq (d := (eiC tx q m u i (j + 1))) 3 rfl (fun p r hp hr => ei_step (by rw [hc]; rfl)) ?_
     simp only [List.set_cons_zero, List.set_cons_succ]
     exact g_again ⟨j + 1, by omega, by omega⟩ [2, 3, 5, 6, 9, 8, 10, 11] (by dsimp only; omega) rfl (fun w h => h.pick [0,0,0,0,0,0] rfl)
    refine g_cond_f rfl (g_exit (g_then_exit (g_then_exit (g_in_exit (g_in_normal (t_ (o_ ?_)))))))
    refine xg 3 [] rfl (by omega) ?_
    refine n_ ?_
    refine g_brsEq (d := (eiC tx q m u (i + 1) (i + 1))) 3 rfl (fun p r hp hr => ei_row (by omega) (by omega) hr) ?_
    simp only [List.set_cons_zero, List.set_cons_succ]
    exact g_again ⟨i + 1, by omega⟩ [2, 3, 5, 6, 9, 8, 10] (by dsimp only; omega) rfl (fun w h => h.pick [0,0,0,0,0,0] rfl)
   refine g_cond_f rfl (g_exit (g_then_exit (g_then_exit (g_in_exit (g_in_normal (t_ (o_ ?_)))))))
   refine xg 3 [] rfl (by omega) ?_
   refine n_ ?_
   refine g_brsEq (d := (eiK tx q (m + 1))) 3 rfl (fun p r hp hr => ei_done (by omega) hu (by omega)) ?_
   simp only [List.set_cons_zero, List.set_cons_succ]
   exact g_again ⟨m + 1, by omega⟩ [2, 3, 5, 6, 8] (by dsimp only; omega) rfl (fun w h => h.pick [0,0,0,0] rfl)
  refine g_cond_f rfl (g_exit (g_then_exit (g_then_exit (g_in_exit (g_in_normal (t_ (s_ (o_ ?_))))))))
  refine xg 2 [] rfl rfl ?_
  refine n_ (t_ (g_ret ?_))
  refine g_end1 Try.results28 rfl ?_
  exact fun w hS => ⟨⟨T, hgT⟩, rfl, (hS.pick [2,2] rfl).brsTo (fun p r hp hr => of_any ‹k = 3› (by omega))⟩
 refine g_cond_f rfl (s_ (o_ ?_))
 refine xg 2 [0] rfl rfl ?_
 refine n_ (t_ ?_)
 refine g_casep 137 rfl (fun h11 => ?_) fun h11 => ?_
 ·refine g_cond_t rfl (s_ ?_)
  refine k_go [3,2] rfl (by kernel_rfl) (fun _ _ _ _ _ h => h) fun hQ => ?_
  refine k_xc 0 [3,2] [0] hQ (by kernel_rfl) rfl rfl rfl rfl rfl rfl (by omega) ?_
  refine k_xc 1 [3,2] [1] hQ (by kernel_rfl) rfl rfl rfl rfl rfl rfl (by omega) ?_
  refine k_call 2 (m_kid10 k s nmi nma nnu pq cq q) (fun w hS => hS.okOf hok (fun _ _ => List.not_mem_nil)) rfl (by kernel_rfl) hQ rfl rfl rfl (fun _ h => h.pick [3,2] rfl) ?_
  refine k_one 3 (by kernel_rfl) ?_
  refine k_op 3 rfl ?_
  refine g_callOwn (L0 := []) (fun y : {y : TbX // y.gs.length = tx.n + 1} => y.1.v (tx.n + 1)) (fun y => [y.1.o (tx.n + 1), .brs y.1.gs (tx.n + 1) (fun i j => mM tx (kidT q) i j)]) rfl rfl rfl Try.call28 (fun w hS => ih (kidT q) (muT_kid (by omega)) w (hS.okOf (kidT_rd hrl) (fun _ _ => List.not_mem_nil)) (kidT_cp hcq)) ?_
  rintro ⟨Ya, hgYa⟩
  dsimp only
  simp only [List.cons_append, List.nil_append]
  refine n_ ?_
  refine k_end (fun _ h => h.pick [5,4] rfl) ?_
  refine k_x 4 [5,4] [] hQ (by kernel_rfl) rfl rfl rfl rfl rfl rfl ?_
  refine k_done (by kernel_rfl) ?_
  refine t_ (g_ret (g_in_ret (g_then_ret ?_)))
  refine g_end1 Try.results28 rfl ?_
  exact fun w hS => ⟨⟨Ya, hgYa⟩, rfl, (hS.pick [0,0] rfl).brsTo (fun p r hp hr => of_kid ‹k = 5›)⟩
 refine g_cond_f rfl (s_ (o_ ?_))
 refine xg 2 [0] rfl rfl ?_
 refine n_ (t_ ?_)
 refine g_casep 143 rfl (fun h12 => ?_) fun h12 => ?_
 ·refine g_cond_t rfl (s_ ?_)
  refine k_go [3,2] rfl (by kernel_rfl) (fun _ _ _ _ _ h => h) fun hQ => ?_
  refine k_xc 0 [3,2] [0] hQ (by kernel_rfl) rfl rfl rfl rfl rfl rfl (by omega) ?_
  refine k_xc 1 [3,2] [1] hQ (by kernel_rfl) rfl rfl rfl rfl rfl rfl (by omega) ?_
  refine k_call 2 (m_kid10 k s nmi nma nnu pq cq q) (fun w hS => hS.okOf hok (fun _ _ => List.not_mem_nil)) rfl (by kernel_rfl) hQ rfl rfl rfl (fun _ h => h.pick [3,2] rfl) ?_
  refine k_x 4 [3,2] [] hQ (by kernel_rfl) rfl rfl rfl rfl rfl rfl ?_
  refine k_xc 5 [3,2] [1] hQ (by kernel_rfl) rfl rfl rfl rfl rfl rfl (by omega) ?_
  refine k_take (v := .int .i64 (max nmi 0)) 6 rfl (by kernel_rfl) hQ rfl rfl rfl (fun _ h => h.pick [3,2] rfl) (y_maxi rfl rfl) ?_
  refine k_x 7 [3,2] [] hQ (by kernel_rfl) rfl rfl rfl rfl rfl rfl ?_
  refine k_xc 8 [3,2] [1] hQ (by kernel_rfl) rfl rfl rfl rfl rfl rfl (by omega) ?_
  refine k_one 3 (by kernel_rfl) ?_
  refine k_op 3 rfl ?_
  refine g_callOwn (L0 := []) (fun y : {y : TbX // y.gs.length = tx.n + 1} => y.1.v (tx.n + 1)) (fun y => [y.1.o (tx.n + 1), .brs y.1.gs (tx.n + 1) (fun i j => mM tx (kidT q) i j)]) rfl rfl rfl Try.call28 (fun w hS => ih (kidT q) (muT_kid (by omega)) w (hS.okOf (kidT_rd hrl) (fun _ _ => List.not_mem_nil)) (kidT_cp hcq)) ?_
  rintro ⟨Ya, hgYa⟩
  dsimp only
  simp only [List.cons_append, List.nil_append]
  refine n_ ?_
  refine k_end (fun _ h => h.pick [5,4] rfl) ?_
  refine k_one 9 (by kernel_rfl) ?_
  refine k_op 9 rfl ?_
  refine g_callOwn (L0 := []) (fun y : {y : TbX // y.gs.length = tx.n + 1} => y.1.v (tx.n + 1)) (fun y => [y.1.o (tx.n + 1), .brs y.1.gs (tx.n + 1) (RP tx.n (fun i j => mM tx (kidT q) i j) (max nmi 0) nma)]) rfl rfl rfl Try.call52 (fun w hS => repeat_ok tx.n hn Ya _ (fun i j hi h => mM_in (kidT q) hi h) _ (max nmi 0) nma (by omega) (Nat.le_refl _) w (rt_of (x := Ya) 0 1 hS (by omega) hgYa rfl rfl)) ?_
  rintro ⟨Yc, hgYc⟩
  dsimp only
  simp only [List.cons_append, List.nil_append]
  refine n_ ?_
  refine k_end (fun _ h => h.pick [7,6] rfl) ?_
  refine k_x 10 [7,6] [] hQ (by kernel_rfl) rfl rfl rfl rfl rfl rfl ?_
  refine k_done (by kernel_rfl) ?_
  refine t_ (g_ret (g_in_ret (g_then_ret ?_)))
  refine g_end1 Try.results28 rfl ?_
  exact fun w hS => ⟨⟨Yc, hgYc⟩, rfl, (hS.pick [0,0] rfl).brsTo (fun p r hp hr => of_rep ‹k = 4›)⟩
 refine g_cond_f rfl (s_ (o_ ?_))
 refine xg 1 [] rfl rfl ?_
 refine n_ (t_ (g_block ?_))
 refine g_brsEq (d := (diC 0)) 1 rfl (fun p r hp hr => di_zero.symm) ?_
 simp only [List.set_cons_zero, List.set_cons_succ]
 refine g_loop (α := {x : Nat // x ≤ tx.n + 1}) (fun x => [(2, .pointer (some ⟨b1, 0, none⟩)), (3, .pointer (some ⟨b2, 0, none⟩)), (5, .int .i64 (tx.n : Int)), (6, T.v (tx.n + 1)), (12, .int .i64 (x.1 : Int))]) (fun x => St w [] [.cells b1 71 [st8 tx.l, .bool tx.bg], .cells b2 28 (nC (MT.mk k s nmi nma nnu (Value.slice pq q.length cq) q)), T.o (tx.n + 1), .brs T.gs (tx.n + 1) (diC x.1)]) (fun x => tx.n + 1 - x.1) ⟨0, Nat.zero_le _⟩ [2, 3, 5, 6, 12] rfl (fun w h => h.pick [3,2,0,0] rfl) ?_
 rintro ⟨i, hi⟩
 dsimp only
 refine s_ (s_ (o_ ?_))
 refine xg 3 [0] rfl rfl ?_
 refine n_ (t_ ?_)
 refine g_casep 22 rfl (fun h13 => ?_) fun h13 => ?_
 ·refine g_cond_t rfl (g_skip (t_ (s_ (g_block (o_ ?_)))))
  refine xg 2 [] rfl rfl ?_
  refine g_val (v := .pointer (some ⟨T.tb, i, none⟩)) rfl rfl rfl (y_idxAddr (m := i) rfl rfl Try.underlying73 Try.sizeOf75 (by omega) (by omega) (by omega)) ?_
  refine g_val (v := slW (tx.n + 1) (T.gs.getD i 0)) rfl rfl rfl (y_ldR (off := i) 2 rfl Try.isAgg75 rfl (gt_get (n := tx.n + 1) (by omega))) ?_
  refine xg 1 [] rfl rfl ?_
  refine g_val (v := .pointer (some ⟨T.gs.getD i 0, i, none⟩)) rfl rfl rfl (y_idxAddr (m := i) rfl rfl Try.underlying75 Try.sizeOf4 (by omega) (by omega) (by omega)) ?_
  refine g_stB (i := i) (j := i) 3 rfl rfl rfl Try.sizeOf4 rfl (gt_at (by omega)) (by omega) ?_
  simp only [List.set_cons_zero, List.set_cons_succ]
  refine n_ (g_in_normal (t_ (o_ ?_)))
  refine xg 3 [] rfl (by omega) ?_
  refine n_ ?_
  refine g_brsEq (d := (diC (i + 1))) 3 rfl (fun p r hp hr => di_step) ?_
  simp only [List.set_cons_zero, List.set_cons_succ]
  exact g_again ⟨i + 1, by omega⟩ [2, 3, 5, 6, 12] (by dsimp only; omega) rfl (fun w h => h.pick [0,0,0,0] rfl)
 refine g_cond_f rfl (g_exit (g_then_exit (g_then_exit (g_in_exit (g_in_normal (t_ (s_ (o_ ?_))))))))
 refine xg 2 [] rfl rfl ?_
 refine n_ (t_ (g_ret ?_))
 refine g_end1 Try.results28 rfl ?_
 exact fun w hS => ⟨⟨T, hgT⟩, rfl, (hS.pick [2,2] rfl).brsTo (fun p r hp hr => of_other (by assumption) (by assumption) (by assumption) (by assumption) (by assumption) (by assumption) (by assumption) (by omega))⟩

theorem of_ok (tx : Tx) (hn : tx.n ≤ 100000) : ∀ (D : Nat) (t : MT), muT t ≤ D → OfOk tx t := by
  intro D
  induction D with
  | zero =>
    intro t h
    have h1 := wT_one10 t
    unfold muT at h
    omega
  | succ D ih =>
    intro t h w hok hcp
    obtain ⟨k, s, mi, ma, nu, p, c, q, rfl⟩ := rd_v hok
    exact of_any10 tx hn k s mi ma nu p c q (fun u hu => ih u (by omega)) w hok hcp
end Go.Proofs.Ytfcamlkbkehlnaa

/- The groups as the document has them: the plain law. -/
namespace Go.Proofs.Ytfcamlkbkehlnaa
open Go Go.RowKit

theorem topK_congr {p p' : Nat → Bool} {lo : Nat} : ∀ {c : Nat}, (∀ k, lo ≤ k → k < c → p k = p' k) → topK p lo c = topK p' lo c
  | 0, _ => rfl
  | c + 1, h => by
    rw [topK, topK, topK_congr fun k h1 h2 => h k h1 (by omega)]
    by_cases h1 : lo ≤ c
    · rw [h c h1 (by omega)]
    · simp [h1]
theorem topK_down {p : Nat → Bool} {lo k : Nat} (h : p k = false) : topK p lo (k + 1) = topK p lo k := by
  rw [topK, h, Bool.and_false]; rfl
theorem topK_hit {p : Nat → Bool} {lo k : Nat} (h1 : lo ≤ k) (h : p k = true) : topK p lo (k + 1) = some k := by
  rw [topK, h, decide_eq_true h1]; rfl
theorem topK_out {p : Nat → Bool} {lo k : Nat} (h : k ≤ lo) : topK p lo k = none := topK_none fun j h1 h2 => by omega
/-- Numbers that no round can tell from one another. -/
def Cap (n i : Nat) (a b : Int) : Prop := a = b ∨ ((n : Int) - i < a ∧ (n : Int) - i < b)
theorem Cap.lo {n i m : Nat} {a b : Int} (h : Cap n i a b) (hm : i < m) : Cap n m (max (a - 1) 0) (max (b - 1) 0) := by
  unfold Cap at *; omega
theorem Cap.hi {n i m : Nat} {a b : Int} (h : Cap n i a b) (hm : i < m) (him : m ≤ n) : Cap n m (if 0 < a then a - 1 else a) (if 0 < b then b - 1 else b) := by
  unfold Cap at *
  rcases h with rfl | h
  · exact .inl rfl
  · rw [if_pos (by omega), if_pos (by omega)]; omega
theorem any_congr10 {l : List Nat} {p q : Nat → Bool} (h : ∀ m, m ∈ l → p m = q m) : l.any p = l.any q := by
  induction l with
  | nil => rfl
  | cons a l ih => rw [List.any_cons, List.any_cons, h a (List.mem_cons_self ..), ih fun m hm => h m (List.mem_cons_of_mem _ hm)]
theorem rep_cap {n : Nat} {K : Nat → Nat → Bool} : ∀ (f : Nat) (lo hi lo' hi' : Int) (i j : Nat), i ≤ n → Cap n i lo lo' → Cap n i hi hi' → rep n K f lo hi i j = rep n K f lo' hi' i j := by
  intro f
  induction f with
  | zero => intros; rfl
  | succ f ih =>
    intro lo hi lo' hi' i j hi1 h1 h2
    have e1 : decide (lo = 0) = decide (lo' = 0) := by congr 1; apply propext; unfold Cap at h1; omega
    have e2 : decide (hi ≠ 0) = decide (hi' ≠ 0) := by congr 1; apply propext; unfold Cap at h2; omega
    rw [rep, rep, e1, e2]
    congr 2
    refine any_congr10 fun m hm => ?_
    rw [List.mem_range] at hm
    by_cases h : i < m
    · rw [ih _ _ _ _ m j (by omega) (h1.lo h) (h2.hi h (by omega))]
    · simp [h]
theorem gRep_cap {n : Nat} {K : Nat → Nat → Bool} {g : Nat → Nat → Spn → Spn} : ∀ (f : Nat) (lo hi lo' hi' : Int) (i j : Nat) (m : Spn), i ≤ j → j ≤ n → Cap n i lo lo' → Cap n i hi hi' → gRep n K g f lo hi i j m = gRep n K g f lo' hi' i j m := by
  intro f
  induction f with
  | zero => intros; rfl
  | succ f ih =>
    intro lo hi lo' hi' i j m hij hj h1 h2
    rw [gRep, gRep]
    split
    · have e : (0 < lo) = (0 < lo') := by apply propext; unfold Cap at h1; omega
      simp only [e]
    · rw [topK_congr (p' := fun k => K i k && rep n K (n + 1) (max (lo' - 1) 0) (if 0 < hi' then hi' - 1 else hi') k j) fun k h3 h4 => by
        rw [rep_cap _ _ _ _ _ k j (by omega) (h1.lo (m := k) (by omega)) (h2.hi (m := k) (by omega) (by omega))]]
      split
      · rename_i k hk
        have hk' := topK_is hk
        exact ih _ _ _ _ k j _ (by omega) hj (h1.lo (by omega)) (h2.hi (by omega) (by omega))
      · rfl
section
variable {x : Tx} {k nmi nma nnu : Int} {s : Nat → Int} {v : Value} {q : List MT} {i j n kk : Nat} {m : Spn} {u : MT}
theorem gM_zMT : gM x zMT i j m = m := by
  unfold zMT
  rw [gM_mk, if_neg (by decide), if_neg (by decide), if_neg (by decide), if_neg (by decide)]
theorem gM_kidT : gM x (kidT q) i j m = gKid x q i j m := by
  cases q with
  | nil => rw [gKid_nil]; exact gM_zMT
  | cons t q => rw [gKid_cons]; rfl
theorem gM_row (hk : k = 2) : gM x (.mk k s nmi nma nnu v q) i j m = gRow x q i j m := by rw [gM_mk, if_pos hk]
theorem gr_row0 (hk : k = 2) (hq : (q.length : Int) = 0) : gM x (.mk k s nmi nma nnu v q) i j m = m := by
  obtain rfl : q = [] := List.length_eq_zero_iff.1 (by omega)
  rw [gM_row hk, gRow_nil]
theorem gr_row {pa : Option Addr} {c : Nat} (hk : k = 2) (hu : q[0]? = some u) : gM x (.mk k s nmi nma nnu v q) i j m = (match topK (fun kk => mM x u i kk && mM x (restT pa c q) kk j) i (j + 1) with
    | some kk => gM x (restT pa c q) kk j (gM x u i kk m)
    | none => m) := by
  cases q with
  | nil => cases hu
  | cons t q =>
    obtain rfl : t = u := by simpa using hu
    rw [gM_row hk, gRow_cons]
    have e : (fun kk => mM x t i kk && mM x (restT pa c (t :: q)) kk j) = fun kk => mM x t i kk && mRow x q kk j := by
      funext kk
      unfold restT
      rw [mM_row rfl, List.tail_cons]
    rw [e]
    cases topK (fun kk => mM x t i kk && mRow x q kk j) i (j + 1) with
    | none => rfl
    | some kk =>
      show _ = gM x (restT pa c (t :: q)) kk j (gM x t i kk m)
      unfold restT
      rw [gM_row rfl, List.tail_cons]
theorem gr_ei (hk : k = 3) : gM x (.mk k s nmi nma nnu v q) i j m = gAny x q i j m := by rw [gM_mk, if_neg (by omega), if_pos hk]
theorem gAny_at (hu : q[kk]? = some u) : gAny x (q.drop kk) i j m = if mM x u i j then gM x u i j m else gAny x (q.drop (kk + 1)) i j m := by
  have h := List.getElem?_eq_some_iff.1 hu
  rw [List.drop_eq_getElem_cons h.1, h.2, gAny_cons]
theorem gr_kid (hk : k = 5) : gM x (.mk k s nmi nma nnu v q) i j m = gM x (kidT q) i j (if 1 ≤ nnu ∧ nnu < 10 then setS m nnu.toNat (i, j) else m) := by
  rw [gM_mk, if_neg (by omega), if_neg (by omega), if_pos hk, gM_kidT]
theorem gr_other (h1 : k ≠ 2) (h2 : k ≠ 3) (h3 : k ≠ 5) (h4 : k ≠ 4) : gM x (.mk k s nmi nma nnu v q) i j m = m := by
  rw [gM_mk, if_neg h1, if_neg h2, if_neg h3, if_neg h4]
theorem gr_rep (hk : k = 4) : gM x (.mk k s nmi nma nnu v q) i j m = gRep x.n (fun a b => mM x (kidT q) a b) (fun a b m => gM x (kidT q) a b m) (x.n + 1) (cLo x.n nmi) (cHi x.n nma) i j m := by
  have e1 : (fun a b => mM x (kidT q) a b) = fun a b => mKid x q a b := by funext a b; exact mM_kidT
  have e2 : (fun a b m => gM x (kidT q) a b m) = fun a b m => gKid x q a b m := by funext a b m; exact gM_kidT
  rw [gM_mk, if_neg (by omega), if_neg (by omega), if_neg (by omega), if_pos hk, e1, e2]
theorem mM_rep' (hk : k = 4) : mM x (.mk k s nmi nma nnu v q) i j = rep x.n (fun a b => mM x (kidT q) a b) (x.n + 1) (cLo x.n nmi) (cHi x.n nma) i j := by
  have e1 : (fun a b => mM x (kidT q) a b) = fun a b => mKid x q a b := by funext a b; exact mM_kidT
  rw [mM_rep hk, e1]
theorem gr_rep0 (hk : k = 4) (hij : i = j) : gM x (.mk k s nmi nma nnu v q) i j m = if 0 < nmi then gM x (kidT q) i j m else m := by
  subst hij
  rw [gr_rep hk, gRep, if_pos rfl]
  have e : (0 < cLo x.n nmi) = (0 < nmi) := by apply propext; unfold cLo; omega
  simp only [e]
/-- A Repeat with one round less. -/
abbrev lessT (nmi nma : Int) (v : Value) (q : List MT) : MT := .mk 4 (fun _ => 0) (max nmi 1 - 1) (max (nma - 1) (min nma 0)) 0 v q
theorem gr_rep1 (hk : k = 4) (hij : i < j) (hj : j ≤ x.n) : gM x (.mk k s nmi nma nnu v q) i j m = (match topK (fun kk => mM x (kidT q) i kk && mM x (lessT nmi nma v q) kk j) (i + 1) (j + 1) with
    | some kk => gM x (lessT nmi nma v q) kk j (gM x (kidT q) i kk m)
    | none => m) := by
  have hlo : ∀ kk, i < kk → kk ≤ x.n → Cap x.n kk (max (cLo x.n nmi - 1) 0) (cLo x.n (max nmi 1 - 1)) := fun kk _ _ => by unfold Cap cLo; omega
  have hhi : ∀ kk, i < kk → kk ≤ x.n → Cap x.n kk (if 0 < cHi x.n nma then cHi x.n nma - 1 else cHi x.n nma) (cHi x.n (max (nma - 1) (min nma 0))) := fun kk _ _ => by
    unfold Cap cHi
    split <;> omega
  rw [gr_rep hk, gRep, if_neg (by omega), topK_congr (p' := fun kk => mM x (kidT q) i kk && mM x (lessT nmi nma v q) kk j) fun kk h1 h2 => by
    rw [mM_rep' rfl, rep_cap _ _ _ _ _ kk j (by omega) (hlo kk (by omega) (by omega)) (hhi kk (by omega) (by omega))]]
  cases hT : topK (fun kk => mM x (kidT q) i kk && mM x (lessT nmi nma v q) kk j) (i + 1) (j + 1) with
  | none => rfl
  | some kk =>
    have h := topK_is hT
    show _ = gM x (lessT nmi nma v q) kk j (gM x (kidT q) i kk m)
    rw [gr_rep rfl]
    dsimp only
    rw [gRep_cap _ _ _ _ _ kk j _ (by omega) hj (hlo kk (by omega) (by omega)) (hhi kk (by omega) (by omega))]
    exact gRep_fuel _ _ _ _ _ _ _ (by omega) (by omega) (by omega)
theorem muT_less : k ≠ 0 → muT (lessT nmi nma v q) ≤ muT (.mk k s nmi nma nnu v q) := fun hk => by
  rw [muT_mk, muT_mk, if_neg hk, if_neg (by decide)]; exact Nat.le_refl _
theorem less_rd {w : World} (h : (MT.mk k s nmi nma nnu v q).rd w) : (lessT nmi nma v q).rd w := rd_mk.2 (rd_mk.1 h)
theorem less_cp (h : (MT.mk k s nmi nma nnu v q).cp) : (lessT nmi nma v q).cp := by
  obtain ⟨⟨h1, _, h2, h3, h4, h5⟩, h6⟩ := cp_mk.1 h
  exact cp_mk.2 ⟨⟨h1, fun _ _ => Int.le_refl _, by omega, by omega, by omega, by omega⟩, h6⟩
/-- The groups of a tree, as the reference tells them. -/
def G10 (tx : Tx) (u : MT) (i j : Nat) (m : Spn) : Prop := Meets Try.prog (fun w => u.rd w) 29 [.agg [st8 tx.l, .bool tx.bg].toArray, .agg (nC u).toArray, .int .i64 (i : Int), .int .i64 (j : Int), .agg (spC m).toArray] (fun _ : Unit => .agg (spC (gM tx u i j m)).toArray) [] (fun _ => [])
end

end Go.Proofs.Ytfcamlkbkehlnaa

/- The groups as the document has them. -/
namespace Go.Proofs.Ytfcamlkbkehlnaa
open Go Go.RowKit

set_option maxHeartbeats 8000000 in
set_option maxRecDepth 100000 in
theorem groups10_any (tx : Tx) (hn : tx.n ≤ 100000) (k : Int) (s : Nat → Int) (nmi nma nnu : Int) (pq : Option Addr) (cq : Nat) (q : List MT) (i j : Nat) (m : Spn) (hij : i ≤ j) (hjn : j ≤ tx.n) (ih1 : ∀ u, muT u < muT (MT.mk k s nmi nma nnu (Value.slice pq q.length cq) q) → u.cp → ∀ (i j : Nat) (m : Spn), i ≤ j → j ≤ tx.n → G10 tx u i j m) (ih2 : ∀ u, muT u ≤ muT (MT.mk k s nmi nma nnu (Value.slice pq q.length cq) q) → u.cp → ∀ (a : Nat) (m : Spn), i < a → a ≤ j → G10 tx u a j m) (w : World) (hok : MT.rd w (MT.mk k s nmi nma nnu (Value.slice pq q.length cq) q)) (hcp : MT.cp (MT.mk k s nmi nma nnu (Value.slice pq q.length cq) q)) :
    Calls Try.prog 29 #[.agg [st8 tx.l, .bool tx.bg].toArray, .agg (nC (MT.mk k s nmi nma nnu (Value.slice pq q.length cq) q)).toArray, .int .i64 (i : Int), .int .i64 (j : Int), .agg (spC m).toArray] w fun e w' => e = .returned (.agg (spC (gM tx (MT.mk k s nmi nma nnu (Value.slice pq q.length cq) q) i j m)).toArray) ∧ Below w.heap.size w w' := by
 obtain ⟨hrq, _, hqk⟩ := rd_facts (F := []) hok (fun _ _ => List.not_mem_nil)
 have hrl := (rd_mk.1 hok).2
 obtain ⟨⟨hcv, hsw, hb1, hb2, hb3, hb4⟩, hcq⟩ := cp_mk.1 hcp
 have hcap := hcv _ _ _ rfl
 have hmax : maxLen = 9223372036854775807 := rfl
 refine fn_intro Try.func29 rfl Try.ntmps29 rfl rfl ?_
 refine s_ (o_ ?_)
 refine g_box rfl rfl rfl rfl (fun b1 => ?_)
 refine g_box rfl rfl rfl rfl (fun b2 => ?_)
 refine g_box rfl rfl rfl rfl (fun b3 => ?_)
 refine g_alloc rfl rfl Try.zeroValue36 rfl (fun b4 => ?_)
 refine n_ (t_ (s_ (s_ (o_ ?_))))
 refine xg 2 [2] rfl (by omega) ?_
 refine n_ (t_ (g_block (s_ (o_ ?_))))
 refine xg 2 [0] rfl rfl ?_
 refine n_ (t_ ?_)
 refine g_casep 22 rfl (fun h1 => ?_) fun h1 => ?_
 ·refine g_cond_t rfl (s_ (s_ (o_ ?_)))
  refine xg 4 [2,0] rfl (by omega) ?_
  refine n_ (t_ ?_)
  refine g_casep 27 rfl (fun h2 => ?_) fun h2 => ?_
  ·refine g_cond_t rfl (s_ (o_ ?_))
   refine xg 2 [1,0] rfl (by omega) ?_
   refine n_ (t_ (g_ret (g_then_ret (g_in_ret (g_then_ret ?_)))))
   refine g_end_cell 0 Try.results29 rfl rfl Try.isAgg36 Try.sizeOf36 rfl ?_
   rw [show gM tx (MT.mk k s nmi nma nnu (Value.slice pq q.length cq) q) i j m = m from gr_row0 ‹k = 2› (by omega)]
   exact fun w hS => ⟨rfl, hS.below⟩
  refine g_cond_f rfl (g_skip (t_ (s_ ?_)))
  obtain ⟨u, hu⟩ : ∃ u, q[0]? = some u := ⟨_, List.getElem?_eq_getElem (by omega)⟩
  have huk := hqk 0 u hu
  have huc : u.cp := cpL_mem hcq (List.mem_of_getElem? hu)
  refine k_go [3,2,1] rfl (by kernel_rfl) (fun _ _ _ _ _ h => h) fun hQ => ?_
  refine k_xc 0 [3,2,1] [0] hQ (by kernel_rfl) rfl rfl rfl rfl rfl rfl (by omega) ?_
  refine k_x 1 [3,2,1] [] hQ (by kernel_rfl) rfl rfl rfl rfl rfl rfl ?_
  refine k_xc 2 [3,2,1] [1] hQ (by kernel_rfl) rfl rfl rfl rfl rfl rfl (by omega) ?_
  refine k_take 3 rfl (by kernel_rfl) hQ rfl rfl rfl (fun _ h => h.pick [3,2,1] rfl) (y_rdAddr hrq rfl rfl Try.underlying26 Try.sizeOf28 (by omega) (by omega)) ?_
  refine k_take (v := .agg (nC u).toArray) 4 rfl (by kernel_rfl) hQ rfl rfl rfl (fun _ h => h.pick [3,2,1] rfl) (y_rdAggF (i := 0) (vs := nC u) hrq List.not_mem_nil rfl Try.isAgg28 Try.sizeOf28 (by omega) (by omega) (nC_len _) (fun jj hjj => by rw [show (0 : Int).toNat = 0 from rfl, List.getD_eq_getElem?_getD, hu]; rw [Option.getD_some, List.getElem?_eq_getElem (show jj < (nC u).length by rw [nC_len]; exact hjj)]; rfl)) ?_
  refine k_one 5 (by kernel_rfl) ?_
  refine k_op 5 rfl ?_
  refine g_callOwn (L0 := []) (fun y : {y : TbX // y.gs.length = tx.n + 1} => y.1.v (tx.n + 1)) (fun y => [y.1.o (tx.n + 1), .brs y.1.gs (tx.n + 1) (fun i j => mM tx u i j)]) rfl rfl rfl Try.call28 (fun w hS => of_ok tx hn _ u (Nat.le_refl _) w (hS.okOf huk.1 (fun _ _ => List.not_mem_nil)) huc) ?_
  rintro ⟨Ya, hgYa⟩
  dsimp only
  simp only [List.cons_append, List.nil_append]
  refine n_ ?_
  refine k_end (fun _ h => h.pick [5,4,3] rfl) ?_
  refine k_x 6 [5,4,3] [] hQ (by kernel_rfl) rfl rfl rfl rfl rfl rfl ?_
  refine k_done (by kernel_rfl) ?_
  refine t_ (s_ ?_)
  refine k_go [5,4,3] rfl (by kernel_rfl) (fun _ _ _ _ _ h => h) fun hQ => ?_
  refine k_xc 0 [5,4,3] [0] hQ (by kernel_rfl) rfl rfl rfl rfl rfl rfl (by omega) ?_
  refine k_xc 1 [5,4,3] [1] hQ (by kernel_rfl) rfl rfl rfl rfl rfl rfl (by omega) ?_
  refine k_call 2 (m_rest10 k s nmi nma nnu pq cq q (by omega)) any_I rfl (by kernel_rfl) hQ rfl rfl rfl (fun _ h => h.pick [5,4,3] rfl) ?_
  refine k_one 3 (by kernel_rfl) ?_
  refine k_op 3 rfl ?_
  refine g_callOwn (L0 := []) (fun y : {y : TbX // y.gs.length = tx.n + 1} => y.1.v (tx.n + 1)) (fun y => [y.1.o (tx.n + 1), .brs y.1.gs (tx.n + 1) (fun i j => mM tx (restT pq cq q) i j)]) rfl rfl rfl Try.call28 (fun w hS => of_ok tx hn _ (restT pq cq q) (Nat.le_refl _) w (hS.okOf (restT_rd hcap.1 hrq hrl) (fun _ _ => List.not_mem_nil)) (restT_cp hcap hcq)) ?_
  rintro ⟨Yb, hgYb⟩
  dsimp only
  simp only [List.cons_append, List.nil_append]
  refine n_ ?_
  refine k_end (fun _ h => h.pick [7,6,5] rfl) ?_
  refine k_x 4 [7,6,5] [] hQ (by kernel_rfl) rfl rfl rfl rfl rfl rfl ?_
  refine k_done (by kernel_rfl) ?_
  refine t_ (s_ (o_ ?_))
  refine xg 2 [] rfl rfl ?_
  refine n_ (t_ (g_block ?_))
  refine g_eqv 13 (.int .i64 (((j + 1 : Nat) : Int) - 1)) rfl (by congr 1; omega) ?_
  refine g_loop (α := {x : Nat // i ≤ x ∧ x ≤ j + 1 ∧ topK (fun kk => mM tx u i kk && mM tx (restT pq cq q) kk j) i (j + 1) = topK (fun kk => mM tx u i kk && mM tx (restT pq cq q) kk j) i x}) (fun x => [(2, .int .i64 (i : Int)), (3, .int .i64 (j : Int)), (5, .pointer (some ⟨b1, 0, none⟩)), (6, .pointer (some ⟨b2, 0, none⟩)), (9, .pointer (some ⟨b3, 0, none⟩)), (10, .pointer (some ⟨b4, 0, none⟩)), (11, Ya.v (tx.n + 1)), (12, Yb.v (tx.n + 1)), (13, .int .i64 ((x.1 : Int) - 1))]) (fun x => St w [] [.cells b1 71 [st8 tx.l, .bool tx.bg], .cells b2 28 (nC (MT.mk k s nmi nma nnu (Value.slice pq q.length cq) q)), .cells b3 36 (spC m), .cells b4 36 (spC m0), Ya.o (tx.n + 1), .brs Ya.gs (tx.n + 1) (fun i j => mM tx u i j), Yb.o (tx.n + 1), .brs Yb.gs (tx.n + 1) (fun i j => mM tx (restT pq cq q) i j)]) (fun x => x.1) ⟨j + 1, by omega, by omega, rfl⟩ [2, 3, 5, 6, 9, 10, 11, 12, 13] rfl (fun w h => h.pick [7,6,5,4,2,2,0,0] rfl) ?_
  rintro ⟨x, hx1, hx2, hx3⟩
  dsimp only
  refine s_ (s_ (o_ ?_))
  refine xg 3 [0] rfl rfl ?_
  refine n_ (t_ ?_)
  refine g_casep 42 rfl (fun h3 => ?_) fun h3 => ?_
  ·refine g_cond_t rfl (g_skip (t_ (s_ (g_block (s_ ?_)))))
   obtain ⟨kk, rfl⟩ : ∃ kk, x = kk + 1 := ⟨x - 1, by omega⟩
   refine g_eqv 13 (.int .i64 (kk : Int)) rfl (by congr 1; omega) ?_
   refine o_ ?_
   refine xg 2 [] rfl rfl ?_
   refine g_val (v := .pointer (some ⟨Ya.tb, i, none⟩)) rfl rfl rfl (y_idxAddr (m := i) rfl rfl Try.underlying73 Try.sizeOf75 (by omega) (by omega) (by omega)) ?_
   refine g_val (v := slW (tx.n + 1) (Ya.gs.getD i 0)) rfl rfl rfl (y_ldR (off := i) 4 rfl Try.isAgg75 rfl (gt_get (n := tx.n + 1) (by omega))) ?_
   refine xg 1 [] rfl rfl ?_
   refine g_val (v := .pointer (some ⟨Ya.gs.getD i 0, kk, none⟩)) rfl rfl rfl (y_idxAddr (m := kk) rfl rfl Try.underlying75 Try.sizeOf4 (by omega) (by omega) (by omega)) ?_
   refine g_val (v := .bool ((fun i j => mM tx u i j) i kk)) rfl rfl rfl (y_ldB (i := i) (j := kk) 5 rfl Try.isAgg4 rfl (gt_at (by omega)) (by omega)) ?_
   refine xg 1 [] rfl rfl ?_
   first | refine g_casep 52 rfl (fun h4 => ?_) fun h4 => ?_ | refine g_caseb 52 rfl (fun h4 => ?_) fun h4 => ?_
   ·refine xg 2 [] rfl rfl ?_
    refine g_val (v := .pointer (some ⟨Yb.tb, kk, none⟩)) rfl rfl rfl (y_idxAddr (m := kk) rfl rfl Try.underlying73 Try.sizeOf75 (by omega) (by omega) (by omega)) ?_
    refine g_val (v := slW (tx.n + 1) (Yb.gs.getD kk 0)) rfl rfl rfl (y_ldR (off := kk) 6 rfl Try.isAgg75 rfl (gt_get (n := tx.n + 1) (by omega))) ?_
    refine xg 1 [] rfl rfl ?_
    refine g_val (v := .pointer (some ⟨Yb.gs.getD kk 0, j, none⟩)) rfl rfl rfl (y_idxAddr (m := j) rfl rfl Try.underlying75 Try.sizeOf4 (by omega) (by omega) (by omega)) ?_
    refine g_val (v := .bool ((fun i j => mM tx (restT pq cq q) i j) kk j)) rfl rfl rfl (y_ldB (i := kk) (j := j) 7 rfl Try.isAgg4 rfl (gt_at (by omega)) (by omega)) ?_
    refine xg 1 [] rfl rfl ?_
    refine n_ (t_ ?_)
    first | refine g_casep 60 rfl (fun h5 => ?_) fun h5 => ?_ | refine g_caseb 60 rfl (fun h5 => ?_) fun h5 => ?_
    ·refine g_cond_t rfl (s_ ?_)
     refine k_go [0,0,0] rfl (by kernel_rfl) (fun _ _ _ _ _ h => h) fun hQ => ?_
     refine k_xc 0 [0,0,0] [0] hQ (by kernel_rfl) rfl rfl rfl rfl rfl rfl (by omega) ?_
     refine k_xc 1 [0,0,0] [1] hQ (by kernel_rfl) rfl rfl rfl rfl rfl rfl (by omega) ?_
     refine k_call 2 (m_rest10 k s nmi nma nnu pq cq q (by omega)) any_I rfl (by kernel_rfl) hQ rfl rfl rfl (fun _ h => h.pick [0,0,0] rfl) ?_
     refine k_x 3 [0,0,0] [] hQ (by kernel_rfl) rfl rfl rfl rfl rfl rfl ?_
     refine k_x 4 [0,0,0] [] hQ (by kernel_rfl) rfl rfl rfl rfl rfl rfl ?_
     refine k_xc 5 [0,0,0] [0] hQ (by kernel_rfl) rfl rfl rfl rfl rfl rfl (by omega) ?_
     refine k_x 6 [0,0,0] [] hQ (by kernel_rfl) rfl rfl rfl rfl rfl rfl ?_
     refine k_xc 7 [0,0,0] [1] hQ (by kernel_rfl) rfl rfl rfl rfl rfl rfl (by omega) ?_
     refine k_take 8 rfl (by kernel_rfl) hQ rfl rfl rfl (fun _ h => h.pick [0,0,0] rfl) (y_rdAddr hrq rfl rfl Try.underlying26 Try.sizeOf28 (by omega) (by omega)) ?_
     refine k_take (v := .agg (nC u).toArray) 9 rfl (by kernel_rfl) hQ rfl rfl rfl (fun _ h => h.pick [0,0,0] rfl) (y_rdAggF (i := 0) (vs := nC u) hrq List.not_mem_nil rfl Try.isAgg28 Try.sizeOf28 (by omega) (by omega) (nC_len _) (fun jj hjj => by rw [show (0 : Int).toNat = 0 from rfl, List.getD_eq_getElem?_getD, hu]; rw [Option.getD_some, List.getElem?_eq_getElem (show jj < (nC u).length by rw [nC_len]; exact hjj)]; rfl)) ?_
     refine k_x 10 [0,0,0] [] hQ (by kernel_rfl) rfl rfl rfl rfl rfl rfl ?_
     refine k_x 11 [0,0,0] [] hQ (by kernel_rfl) rfl rfl rfl rfl rfl rfl ?_
     refine k_xc 12 [0,0,0] [2] hQ (by kernel_rfl) rfl rfl rfl rfl rfl rfl (by omega) ?_
     refine k_call 13 (ih1 u (muT_mem (List.mem_of_getElem? hu)) huc i kk m (by omega) (by omega)) (fun w hS => hS.okOf huk.1 (fun _ _ => List.not_mem_nil)) rfl (by kernel_rfl) hQ rfl rfl rfl (fun _ h => h.pick [0,0,0] rfl) ?_
     refine k_call 14 (ih1 (restT pq cq q) (muT_rest (by omega)) (restT_cp hcap hcq) kk j (gM tx u i kk m) (by omega) (by omega)) (fun w hS => hS.okOf (restT_rd hcap.1 hrq hrl) (fun _ _ => List.not_mem_nil)) rfl (by kernel_rfl) hQ rfl rfl rfl (fun _ h => h.pick [0,0,0] rfl) ?_
     refine k_one 15 (by kernel_rfl) ?_
     refine k_op 15 rfl ?_
     refine xg 1 [3] rfl (by omega) ?_
     refine n_ ?_
     refine k_end (fun _ h => h.pick [0,0,0] rfl) ?_
     refine k_done (by kernel_rfl) ?_
     refine t_ (g_ret (g_in_ret (g_then_ret (g_then_ret (g_in_ret (g_in_ret (g_then_ret ?_)))))))
     refine g_end_cell 3 Try.results29 rfl rfl Try.isAgg36 Try.sizeOf36 rfl ?_
     rw [show gM tx (MT.mk k s nmi nma nnu (Value.slice pq q.length cq) q) i j m = gM tx (restT pq cq q) kk j (gM tx u i kk m) from by rw [gr_row (pa := pq) (c := cq) ‹k = 2› hu, hx3, topK_hit (by omega) (by rw [show mM tx u i kk = true by simpa using ‹mM tx u i kk = true›, show mM tx (restT pq cq q) kk j = true by simpa using ‹mM tx (restT pq cq q) kk j = true›]; rfl)]]
     exact fun w hS => ⟨rfl, hS.below⟩
    refine g_cond_f rfl (g_skip (g_in_normal (t_ (o_ ?_))))
    refine xg 3 [] rfl (by omega) ?_
    refine n_ ?_
    exact g_again ⟨kk, by omega, by omega, hx3.trans (topK_down (by first | (rw [show mM tx u i kk = false by simpa using ‹mM tx u i kk = false›, Bool.false_and]) | (rw [show mM tx (restT pq cq q) kk j = false by simpa using ‹mM tx (restT pq cq q) kk j = false›, Bool.and_false])))⟩ [2, 3, 5, 6, 9, 10, 11, 12, 13] (by dsimp only; omega) rfl (fun w h => h.pick [0,0,0,0,0,0,0,0] rfl)
   refine xg 8 [] rfl rfl ?_
   refine n_ (t_ (g_cond_f rfl (g_skip (g_in_normal (t_ (o_ ?_))))))
   refine xg 3 [] rfl (by omega) ?_
   refine n_ ?_
   exact g_again ⟨kk, by omega, by omega, hx3.trans (topK_down (by first | (rw [show mM tx u i kk = false by simpa using ‹mM tx u i kk = false›, Bool.false_and]) | (rw [show mM tx (restT pq cq q) kk j = false by simpa using ‹mM tx (restT pq cq q) kk j = false›, Bool.and_false])))⟩ [2, 3, 5, 6, 9, 10, 11, 12, 13] (by dsimp only; omega) rfl (fun w h => h.pick [0,0,0,0,0,0,0,0] rfl)
  refine g_cond_f rfl (g_exit (g_then_exit (g_then_exit (g_in_exit (g_in_normal (t_ (s_ (o_ ?_))))))))
  refine xg 1 [2] rfl (by omega) ?_
  refine g_stN 3 rfl rfl rfl (by kernel_rfl) rfl rfl rfl rfl ?_
  simp only [List.set_cons_zero, List.set_cons_succ]
  refine n_ (t_ (g_ret ?_))
  refine g_end_cell 3 Try.results29 rfl rfl Try.isAgg36 Try.sizeOf36 rfl ?_
  rw [show gM tx (MT.mk k s nmi nma nnu (Value.slice pq q.length cq) q) i j m = m from by rw [gr_row (pa := pq) (c := cq) ‹k = 2› hu, hx3, topK_out (by omega)]]
  exact fun w hS => ⟨rfl, hS.below⟩
 refine g_cond_f rfl (s_ (o_ ?_))
 refine xg 2 [0] rfl rfl ?_
 refine n_ (t_ ?_)
 refine g_casep 76 rfl (fun h6 => ?_) fun h6 => ?_
 ·refine g_cond_t rfl (s_ (o_ ?_))
  refine xg 1 [] rfl rfl ?_
  refine n_ (t_ (g_block ?_))
  refine g_loop (α := {x : Nat // x ≤ q.length ∧ gAny tx q i j m = gAny tx (q.drop x) i j m}) (fun x => [(2, .int .i64 (i : Int)), (3, .int .i64 (j : Int)), (5, .pointer (some ⟨b1, 0, none⟩)), (6, .pointer (some ⟨b2, 0, none⟩)), (9, .pointer (some ⟨b3, 0, none⟩)), (10, .pointer (some ⟨b4, 0, none⟩)), (14, .int .i64 (x.1 : Int))]) (fun x => St w [] [.cells b1 71 [st8 tx.l, .bool tx.bg], .cells b2 28 (nC (MT.mk k s nmi nma nnu (Value.slice pq q.length cq) q)), .cells b3 36 (spC m), .cells b4 36 (spC m0)]) (fun x => q.length - x.1) ⟨0, Nat.zero_le _, by rw [List.drop_zero]⟩ [2, 3, 5, 6, 9, 10, 14] rfl (fun w h => h.pick [3,2,1,0] rfl) ?_
  rintro ⟨c, hc1, hc2⟩
  dsimp only
  refine s_ (s_ (o_ ?_))
  refine xg 5 [1,0] rfl (by omega) ?_
  refine n_ (t_ ?_)
  refine g_casep 82 rfl (fun h7 => ?_) fun h7 => ?_
  ·refine g_cond_t rfl (g_skip (t_ (s_ (g_block (s_ ?_)))))
   obtain ⟨u, hu⟩ : ∃ u, q[c]? = some u := ⟨_, List.getElem?_eq_getElem (by omega)⟩
   have huk := hqk c u hu
   have huc : u.cp := cpL_mem hcq (List.mem_of_getElem? hu)
   refine k_go [0,0,0] rfl (by kernel_rfl) (fun _ _ _ _ _ h => h) fun hQ => ?_
   refine k_xc 0 [0,0,0] [0] hQ (by kernel_rfl) rfl rfl rfl rfl rfl rfl (by omega) ?_
   refine k_x 1 [0,0,0] [] hQ (by kernel_rfl) rfl rfl rfl rfl rfl rfl ?_
   refine k_xc 2 [0,0,0] [1] hQ (by kernel_rfl) rfl rfl rfl rfl rfl rfl (by omega) ?_
   refine k_x 3 [0,0,0] [] hQ (by kernel_rfl) rfl rfl rfl rfl rfl rfl ?_
   refine k_take 4 rfl (by kernel_rfl) hQ rfl rfl rfl (fun _ h => h.pick [0,0,0] rfl) (y_rdAddr hrq rfl rfl Try.underlying26 Try.sizeOf28 (by omega) (by omega)) ?_
   refine k_take (v := .agg (nC u).toArray) 5 rfl (by kernel_rfl) hQ rfl rfl rfl (fun _ h => h.pick [0,0,0] rfl) (y_rdAggF (i := (c : Int)) (vs := nC u) hrq List.not_mem_nil rfl Try.isAgg28 Try.sizeOf28 (by omega) (by omega) (nC_len _) (fun jj hjj => by rw [Int.toNat_natCast, List.getD_eq_getElem?_getD, hu]; rw [Option.getD_some, List.getElem?_eq_getElem (show jj < (nC u).length by rw [nC_len]; exact hjj)]; rfl)) ?_
   refine k_one 6 (by kernel_rfl) ?_
   refine k_op 6 rfl ?_
   refine g_callOwn (L0 := []) (fun y : {y : TbX // y.gs.length = tx.n + 1} => y.1.v (tx.n + 1)) (fun y => [y.1.o (tx.n + 1), .brs y.1.gs (tx.n + 1) (fun i j => mM tx u i j)]) rfl rfl rfl Try.call28 (fun w hS => of_ok tx hn _ u (Nat.le_refl _) w (hS.okOf huk.1 (fun _ _ => List.not_mem_nil)) huc) ?_
   rintro ⟨Xn, hgXn⟩
   dsimp only
   simp only [List.cons_append, List.nil_append]
   refine n_ ?_
   refine k_end (fun _ h => h.pick [2,2,2] rfl) ?_
   refine k_x 7 [2,2,2] [] hQ (by kernel_rfl) rfl rfl rfl rfl rfl rfl ?_
   refine k_done (by kernel_rfl) ?_
   refine t_ (s_ (o_ ?_))
   refine xg 2 [] rfl rfl ?_
   refine g_val (v := .pointer (some ⟨Xn.tb, i, none⟩)) rfl rfl rfl (y_idxAddr (m := i) rfl rfl Try.underlying73 Try.sizeOf75 (by omega) (by omega) (by omega)) ?_
   refine g_val (v := slW (tx.n + 1) (Xn.gs.getD i 0)) rfl rfl rfl (y_ldR (off := i) 0 rfl Try.isAgg75 rfl (gt_get (n := tx.n + 1) (by omega))) ?_
   refine xg 1 [] rfl rfl ?_
   refine g_val (v := .pointer (some ⟨Xn.gs.getD i 0, j, none⟩)) rfl rfl rfl (y_idxAddr (m := j) rfl rfl Try.underlying75 Try.sizeOf4 (by omega) (by omega) (by omega)) ?_
   refine g_val (v := .bool ((fun i j => mM tx u i j) i j)) rfl rfl rfl (y_ldB (i := i) (j := j) 1 rfl Try.isAgg4 rfl (gt_at (by omega)) (by omega)) ?_
   refine n_ (t_ ?_)
   first | refine g_casep 98 rfl (fun h8 => ?_) fun h8 => ?_ | refine g_caseb 98 rfl (fun h8 => ?_) fun h8 => ?_
   ·refine g_cond_t rfl (s_ ?_)
    refine k_go [2,2,2] rfl (by kernel_rfl) (fun _ _ _ _ _ h => h) fun hQ => ?_
    refine k_xc 0 [2,2,2] [0] hQ (by kernel_rfl) rfl rfl rfl rfl rfl rfl (by omega) ?_
    refine k_x 1 [2,2,2] [] hQ (by kernel_rfl) rfl rfl rfl rfl rfl rfl ?_
    refine k_xc 2 [2,2,2] [1] hQ (by kernel_rfl) rfl rfl rfl rfl rfl rfl (by omega) ?_
    refine k_x 3 [2,2,2] [] hQ (by kernel_rfl) rfl rfl rfl rfl rfl rfl ?_
    refine k_take 4 rfl (by kernel_rfl) hQ rfl rfl rfl (fun _ h => h.pick [2,2,2] rfl) (y_rdAddr hrq rfl rfl Try.underlying26 Try.sizeOf28 (by omega) (by omega)) ?_
    refine k_take (v := .agg (nC u).toArray) 5 rfl (by kernel_rfl) hQ rfl rfl rfl (fun _ h => h.pick [2,2,2] rfl) (y_rdAggF (i := (c : Int)) (vs := nC u) hrq List.not_mem_nil rfl Try.isAgg28 Try.sizeOf28 (by omega) (by omega) (nC_len _) (fun jj hjj => by rw [Int.toNat_natCast, List.getD_eq_getElem?_getD, hu]; rw [Option.getD_some, List.getElem?_eq_getElem (show jj < (nC u).length by rw [nC_len]; exact hjj)]; rfl)) ?_
    refine k_x 6 [2,2,2] [] hQ (by kernel_rfl) rfl rfl rfl rfl rfl rfl ?_
    refine k_x 7 [2,2,2] [] hQ (by kernel_rfl) rfl rfl rfl rfl rfl rfl ?_
    refine k_xc 8 [2,2,2] [2] hQ (by kernel_rfl) rfl rfl rfl rfl rfl rfl (by omega) ?_
    refine k_call 9 (ih1 u (muT_mem (List.mem_of_getElem? hu)) huc i j m (by omega) (by omega)) (fun w hS => hS.okOf huk.1 (fun _ _ => List.not_mem_nil)) rfl (by kernel_rfl) hQ rfl rfl rfl (fun _ h => h.pick [2,2,2] rfl) ?_
    refine k_one 10 (by kernel_rfl) ?_
    refine k_op 10 rfl ?_
    refine xg 1 [5] rfl (by omega) ?_
    refine n_ ?_
    refine k_end (fun _ h => h.pick [2,2,2] rfl) ?_
    refine k_done (by kernel_rfl) ?_
    refine t_ (g_ret (g_in_ret (g_then_ret (g_then_ret (g_in_ret (g_in_ret (g_then_ret ?_)))))))
    refine g_end_cell 5 Try.results29 rfl rfl Try.isAgg36 Try.sizeOf36 rfl ?_
    rw [show gM tx (MT.mk k s nmi nma nnu (Value.slice pq q.length cq) q) i j m = gM tx u i j m from by rw [gr_ei ‹k = 3›, hc2, gAny_at hu, if_pos (by simpa using ‹mM tx u i j = true›)]]
    exact fun w hS => ⟨rfl, hS.below⟩
   refine g_cond_f rfl (g_skip (g_in_normal (t_ (o_ ?_))))
   refine xg 3 [] rfl (by omega) ?_
   refine n_ ?_
   exact g_again ⟨c + 1, by omega, hc2.trans ((gAny_at hu).trans (if_neg (by simpa using ‹mM tx u i j = false›)))⟩ [2, 3, 5, 6, 9, 10, 14] (by dsimp only; omega) rfl (fun w h => h.pick [2,2,2,2] rfl)
  refine g_cond_f rfl (g_exit (g_then_exit (g_then_exit (g_in_exit (g_in_normal (t_ (s_ (o_ ?_))))))))
  refine xg 1 [2] rfl (by omega) ?_
  refine g_stN 3 rfl rfl rfl (by kernel_rfl) rfl rfl rfl rfl ?_
  simp only [List.set_cons_zero, List.set_cons_succ]
  refine n_ (t_ (g_ret ?_))
  refine g_end_cell 3 Try.results29 rfl rfl Try.isAgg36 Try.sizeOf36 rfl ?_
  rw [show gM tx (MT.mk k s nmi nma nnu (Value.slice pq q.length cq) q) i j m = m from by rw [gr_ei ‹k = 3›, hc2, List.drop_eq_nil_of_le (by omega), gAny_nil]]
  exact fun w hS => ⟨rfl, hS.below⟩
 refine g_cond_f rfl (s_ (o_ ?_))
 refine xg 2 [0] rfl rfl ?_
 refine n_ (t_ ?_)
 refine g_casep 109 rfl (fun h9 => ?_) fun h9 => ?_
 ·refine g_cond_t rfl (s_ (s_ (o_ ?_)))
  refine xg 4 [2,0] rfl (by omega) ?_
  refine g_casep 114 rfl (fun h10 => ?_) fun h10 => ?_
  ·refine xg 4 [2,0] rfl (by omega) ?_
   refine n_ (t_ ?_)
   refine g_casep 118 rfl (fun h11 => ?_) fun h11 => ?_
   ·refine g_cond_t rfl (o_ ?_)
    refine xg 5 [2] rfl (by omega) ?_
    refine g_val rfl rfl rfl (y_idxArr (m := nnu.toNat * 2) rfl rfl Try.underlying36 Try.sizeOf34 (by omega) (by omega) (by omega)) ?_
    refine g_stSp (m := m) (k := nnu.toNat) (a := (i : Int)) (b := (j : Int)) 1 (by omega) rfl rfl rfl Try.sizeOf34 rfl ?_
    simp only [List.set_cons_zero, List.set_cons_succ]
    refine n_ (t_ (s_ ?_))
    refine k_go [3,2,1] rfl (by kernel_rfl) (fun _ _ _ _ _ h => h) fun hQ => ?_
    refine k_xc 0 [3,2,1] [0] hQ (by kernel_rfl) rfl rfl rfl rfl rfl rfl (by omega) ?_
    refine k_xc 1 [3,2,1] [1] hQ (by kernel_rfl) rfl rfl rfl rfl rfl rfl (by omega) ?_
    refine k_call 2 (m_kid10 k s nmi nma nnu pq cq q) (fun w hS => hS.okOf hok (fun _ _ => List.not_mem_nil)) rfl (by kernel_rfl) hQ rfl rfl rfl (fun _ h => h.pick [3,2,1] rfl) ?_
    refine k_x 3 [3,2,1] [] hQ (by kernel_rfl) rfl rfl rfl rfl rfl rfl ?_
    refine k_x 4 [3,2,1] [] hQ (by kernel_rfl) rfl rfl rfl rfl rfl rfl ?_
    refine k_xc 5 [3,2,1] [2] hQ (by kernel_rfl) rfl rfl rfl rfl rfl rfl (by omega) ?_
    refine k_call 6 (ih1 (kidT q) (muT_kid (by omega)) (kidT_cp hcq) i j (setS m nnu.toNat ((i : Int), (j : Int))) (by omega) (by omega)) (fun w hS => hS.okOf (kidT_rd hrl) (fun _ _ => List.not_mem_nil)) rfl (by kernel_rfl) hQ rfl rfl rfl (fun _ h => h.pick [3,2,1] rfl) ?_
    refine k_one 7 (by kernel_rfl) ?_
    refine k_op 7 rfl ?_
    refine xg 1 [0] rfl (by omega) ?_
    refine n_ ?_
    refine k_end (fun _ h => h.pick [3,2,1] rfl) ?_
    refine k_done (by kernel_rfl) ?_
    refine t_ (g_ret (g_in_ret (g_then_ret ?_)))
    refine g_end_cell 0 Try.results29 rfl rfl Try.isAgg36 Try.sizeOf36 rfl ?_
    rw [show gM tx (MT.mk k s nmi nma nnu (Value.slice pq q.length cq) q) i j m = gM tx (kidT q) i j (setS m nnu.toNat ((i : Int), (j : Int))) from by rw [gr_kid ‹k = 5›, if_pos (by omega)]]
    exact fun w hS => ⟨rfl, hS.below⟩
   refine g_cond_f rfl (g_skip (t_ (s_ ?_)))
   refine k_go [3,2,1] rfl (by kernel_rfl) (fun _ _ _ _ _ h => h) fun hQ => ?_
   refine k_xc 0 [3,2,1] [0] hQ (by kernel_rfl) rfl rfl rfl rfl rfl rfl (by omega) ?_
   refine k_xc 1 [3,2,1] [1] hQ (by kernel_rfl) rfl rfl rfl rfl rfl rfl (by omega) ?_
   refine k_call 2 (m_kid10 k s nmi nma nnu pq cq q) (fun w hS => hS.okOf hok (fun _ _ => List.not_mem_nil)) rfl (by kernel_rfl) hQ rfl rfl rfl (fun _ h => h.pick [3,2,1] rfl) ?_
   refine k_x 3 [3,2,1] [] hQ (by kernel_rfl) rfl rfl rfl rfl rfl rfl ?_
   refine k_x 4 [3,2,1] [] hQ (by kernel_rfl) rfl rfl rfl rfl rfl rfl ?_
   refine k_xc 5 [3,2,1] [2] hQ (by kernel_rfl) rfl rfl rfl rfl rfl rfl (by omega) ?_
   refine k_call 6 (ih1 (kidT q) (muT_kid (by omega)) (kidT_cp hcq) i j m (by omega) (by omega)) (fun w hS => hS.okOf (kidT_rd hrl) (fun _ _ => List.not_mem_nil)) rfl (by kernel_rfl) hQ rfl rfl rfl (fun _ h => h.pick [3,2,1] rfl) ?_
   refine k_one 7 (by kernel_rfl) ?_
   refine k_op 7 rfl ?_
   refine xg 1 [0] rfl (by omega) ?_
   refine n_ ?_
   refine k_end (fun _ h => h.pick [3,2,1] rfl) ?_
   refine k_done (by kernel_rfl) ?_
   refine t_ (g_ret (g_in_ret (g_then_ret ?_)))
   refine g_end_cell 0 Try.results29 rfl rfl Try.isAgg36 Try.sizeOf36 rfl ?_
   rw [show gM tx (MT.mk k s nmi nma nnu (Value.slice pq q.length cq) q) i j m = gM tx (kidT q) i j m from by rw [gr_kid ‹k = 5›, if_neg (by omega)]]
   exact fun w hS => ⟨rfl, hS.below⟩
  refine xg 4 [] rfl rfl ?_
  refine n_ (t_ (g_cond_f rfl (g_skip (t_ (s_ ?_)))))
  refine k_go [3,2,1] rfl (by kernel_rfl) (fun _ _ _ _ _ h => h) fun hQ => ?_
  refine k_xc 0 [3,2,1] [0] hQ (by kernel_rfl) rfl rfl rfl rfl rfl rfl (by omega) ?_
  refine k_xc 1 [3,2,1] [1] hQ (by kernel_rfl) rfl rfl rfl rfl rfl rfl (by omega) ?_
  refine k_call 2 (m_kid10 k s nmi nma nnu pq cq q) (fun w hS => hS.okOf hok (fun _ _ => List.not_mem_nil)) rfl (by kernel_rfl) hQ rfl rfl rfl (fun _ h => h.pick [3,2,1] rfl) ?_
  refine k_x 3 [3,2,1] [] hQ (by kernel_rfl) rfl rfl rfl rfl rfl rfl ?_
  refine k_x 4 [3,2,1] [] hQ (by kernel_rfl) rfl rfl rfl rfl rfl rfl ?_
  refine k_xc 5 [3,2,1] [2] hQ (by kernel_rfl) rfl rfl rfl rfl rfl rfl (by omega) ?_
  refine k_call 6 (ih1 (kidT q) (muT_kid (by omega)) (kidT_cp hcq) i j m (by omega) (by omega)) (fun w hS => hS.okOf (kidT_rd hrl) (fun _ _ => List.not_mem_nil)) rfl (by kernel_rfl) hQ rfl rfl rfl (fun _ h => h.pick [3,2,1] rfl) ?_
  refine k_one 7 (by kernel_rfl) ?_
  refine k_op 7 rfl ?_
  refine xg 1 [0] rfl (by omega) ?_
  refine n_ ?_
  refine k_end (fun _ h => h.pick [3,2,1] rfl) ?_
  refine k_done (by kernel_rfl) ?_
  refine t_ (g_ret (g_in_ret (g_then_ret ?_)))
  refine g_end_cell 0 Try.results29 rfl rfl Try.isAgg36 Try.sizeOf36 rfl ?_
  rw [show gM tx (MT.mk k s nmi nma nnu (Value.slice pq q.length cq) q) i j m = gM tx (kidT q) i j m from by rw [gr_kid ‹k = 5›, if_neg (by omega)]]
  exact fun w hS => ⟨rfl, hS.below⟩
 refine g_cond_f rfl (s_ (o_ ?_))
 refine xg 2 [0] rfl rfl ?_
 refine n_ (t_ ?_)
 refine g_casep 132 rfl (fun h12 => ?_) fun h12 => ?_
 ·refine g_cond_t rfl (s_ (s_ (o_ ?_)))
  refine xg 3 [0] rfl rfl ?_
  refine n_ (t_ ?_)
  refine g_casep 136 rfl (fun h13 => ?_) fun h13 => ?_
  ·refine g_cond_t rfl (s_ (s_ (o_ ?_)))
   refine xg 3 [2,0] rfl (by omega) ?_
   refine n_ (t_ ?_)
   refine g_casep 139 rfl (fun h14 => ?_) fun h14 => ?_
   ·refine g_cond_t rfl (s_ ?_)
    refine k_go [3,2,1] rfl (by kernel_rfl) (fun _ _ _ _ _ h => h) fun hQ => ?_
    refine k_xc 0 [3,2,1] [0] hQ (by kernel_rfl) rfl rfl rfl rfl rfl rfl (by omega) ?_
    refine k_xc 1 [3,2,1] [1] hQ (by kernel_rfl) rfl rfl rfl rfl rfl rfl (by omega) ?_
    refine k_call 2 (m_kid10 k s nmi nma nnu pq cq q) (fun w hS => hS.okOf hok (fun _ _ => List.not_mem_nil)) rfl (by kernel_rfl) hQ rfl rfl rfl (fun _ h => h.pick [3,2,1] rfl) ?_
    refine k_x 3 [3,2,1] [] hQ (by kernel_rfl) rfl rfl rfl rfl rfl rfl ?_
    refine k_x 4 [3,2,1] [] hQ (by kernel_rfl) rfl rfl rfl rfl rfl rfl ?_
    refine k_xc 5 [3,2,1] [2] hQ (by kernel_rfl) rfl rfl rfl rfl rfl rfl (by omega) ?_
    refine k_call 6 (ih1 (kidT q) (muT_kid (by omega)) (kidT_cp hcq) i j m (by omega) (by omega)) (fun w hS => hS.okOf (kidT_rd hrl) (fun _ _ => List.not_mem_nil)) rfl (by kernel_rfl) hQ rfl rfl rfl (fun _ h => h.pick [3,2,1] rfl) ?_
    refine k_one 7 (by kernel_rfl) ?_
    refine k_op 7 rfl ?_
    refine xg 1 [0] rfl (by omega) ?_
    refine n_ ?_
    refine k_end (fun _ h => h.pick [3,2,1] rfl) ?_
    refine k_done (by kernel_rfl) ?_
    refine t_ (g_ret (g_then_ret (g_then_ret (g_in_ret (g_then_ret ?_)))))
    refine g_end_cell 0 Try.results29 rfl rfl Try.isAgg36 Try.sizeOf36 rfl ?_
    rw [show gM tx (MT.mk k s nmi nma nnu (Value.slice pq q.length cq) q) i j m = gM tx (kidT q) i j m from by rw [gr_rep0 ‹k = 4› (by omega), if_pos (by omega)]]
    exact fun w hS => ⟨rfl, hS.below⟩
   refine g_cond_f rfl (g_skip (t_ (s_ (o_ ?_))))
   refine xg 2 [1,0] rfl (by omega) ?_
   refine n_ (t_ (g_ret (g_then_ret (g_in_ret (g_then_ret ?_)))))
   refine g_end_cell 0 Try.results29 rfl rfl Try.isAgg36 Try.sizeOf36 rfl ?_
   rw [show gM tx (MT.mk k s nmi nma nnu (Value.slice pq q.length cq) q) i j m = m from by rw [gr_rep0 ‹k = 4› (by omega), if_neg (by omega)]]
   exact fun w hS => ⟨rfl, hS.below⟩
  refine g_cond_f rfl (g_skip (t_ (s_ ?_)))
  refine k_go [3,2,1] rfl (by kernel_rfl) (fun _ _ _ _ _ h => h) fun hQ => ?_
  refine k_xc 0 [3,2,1] [0] hQ (by kernel_rfl) rfl rfl rfl rfl rfl rfl (by omega) ?_
  refine k_xc 1 [3,2,1] [1] hQ (by kernel_rfl) rfl rfl rfl rfl rfl rfl (by omega) ?_
  refine k_call 2 (m_kid10 k s nmi nma nnu pq cq q) (fun w hS => hS.okOf hok (fun _ _ => List.not_mem_nil)) rfl (by kernel_rfl) hQ rfl rfl rfl (fun _ h => h.pick [3,2,1] rfl) ?_
  refine k_one 3 (by kernel_rfl) ?_
  refine k_op 3 rfl ?_
  refine g_callOwn (L0 := []) (fun y : {y : TbX // y.gs.length = tx.n + 1} => y.1.v (tx.n + 1)) (fun y => [y.1.o (tx.n + 1), .brs y.1.gs (tx.n + 1) (fun i j => mM tx (kidT q) i j)]) rfl rfl rfl Try.call28 (fun w hS => of_ok tx hn _ (kidT q) (Nat.le_refl _) w (hS.okOf (kidT_rd hrl) (fun _ _ => List.not_mem_nil)) (kidT_cp hcq)) ?_
  rintro ⟨Ya, hgYa⟩
  dsimp only
  simp only [List.cons_append, List.nil_append]
  refine n_ ?_
  refine k_end (fun _ h => h.pick [5,4,3] rfl) ?_
  refine k_x 4 [5,4,3] [] hQ (by kernel_rfl) rfl rfl rfl rfl rfl rfl ?_
  refine k_done (by kernel_rfl) ?_
  refine t_ (s_ ?_)
  refine k_go [5,4,3] rfl (by kernel_rfl) (fun _ _ _ _ _ h => h) fun hQ => ?_
  refine k_x 0 [5,4,3] [] hQ (by kernel_rfl) rfl rfl rfl rfl rfl rfl ?_
  refine k_xc 1 [5,4,3] [1] hQ (by kernel_rfl) rfl rfl rfl rfl rfl rfl (by omega) ?_
  refine k_take (v := .int .i64 (max nmi 1)) 2 rfl (by kernel_rfl) hQ rfl rfl rfl (fun _ h => h.pick [5,4,3] rfl) (y_maxi rfl rfl) ?_
  refine k_xc 3 [5,4,3] [] hQ (by kernel_rfl) rfl rfl rfl rfl rfl rfl (by omega) ?_
  refine k_x 4 [5,4,3] [] hQ (by kernel_rfl) rfl rfl rfl rfl rfl rfl ?_
  refine k_xc 5 [5,4,3] [1] hQ (by kernel_rfl) rfl rfl rfl rfl rfl rfl (by omega) ?_
  refine k_call 6 (m_fewer nma (by omega)) any_I rfl (by kernel_rfl) hQ rfl rfl rfl (fun _ h => h.pick [5,4,3] rfl) ?_
  refine k_x 7 [5,4,3] [] hQ (by kernel_rfl) rfl rfl rfl rfl rfl rfl ?_
  refine k_xc 8 [5,4,3] [1] hQ (by kernel_rfl) rfl rfl rfl rfl rfl rfl (by omega) ?_
  refine k_x 9 [5,4,3] [] hQ (by kernel_rfl) rfl rfl rfl rfl rfl rfl ?_
  refine k_one 10 (by kernel_rfl) ?_
  refine k_op 10 rfl ?_
  refine g_alloc rfl rfl Try.zeroValue28 rfl (fun b5 => ?_)
  refine n_ ?_
  refine k_end (fun _ h => h.pick [6,5,4] rfl) ?_
  refine k_one 11 (by kernel_rfl) ?_
  refine k_op 11 rfl ?_
  refine xg 1 [0] rfl (by omega) ?_
  refine n_ ?_
  refine k_end (fun _ h => h.pick [6,5,4] rfl) ?_
  refine k_done (by kernel_rfl) ?_
  refine t_ (s_ (o_ ?_))
  refine xg 2 [6,0] rfl (by omega) ?_
  refine g_callOwn (L0 := []) (fun y : {y : TbX // y.gs.length = tx.n + 1} => y.1.v (tx.n + 1)) (fun y => [y.1.o (tx.n + 1), .brs y.1.gs (tx.n + 1) (fun i j => mM tx (lessT nmi nma (Value.slice pq q.length cq) q) i j)]) rfl rfl rfl Try.call28 (fun w hS => of_ok tx hn _ (lessT nmi nma (Value.slice pq q.length cq) q) (Nat.le_refl _) w (hS.okOf (less_rd hok) (fun _ _ => List.not_mem_nil)) (less_cp hcp)) ?_
  rintro ⟨Yb, hgYb⟩
  dsimp only
  simp only [List.cons_append, List.nil_append]
  refine xg 1 [] rfl rfl ?_
  refine ntso_ ?_
  refine xg 2 [] rfl rfl ?_
  refine n_ (t_ (g_block ?_))
  refine g_eqv 19 (.int .i64 (((j + 1 : Nat) : Int) - 1)) rfl (by congr 1; omega) ?_
  refine g_loop (α := {x : Nat // i + 1 ≤ x ∧ x ≤ j + 1 ∧ topK (fun kk => mM tx (kidT q) i kk && mM tx (lessT nmi nma (Value.slice pq q.length cq) q) kk j) (i + 1) (j + 1) = topK (fun kk => mM tx (kidT q) i kk && mM tx (lessT nmi nma (Value.slice pq q.length cq) q) kk j) (i + 1) x}) (fun x => [(2, .int .i64 (i : Int)), (3, .int .i64 (j : Int)), (5, .pointer (some ⟨b1, 0, none⟩)), (6, .pointer (some ⟨b2, 0, none⟩)), (9, .pointer (some ⟨b3, 0, none⟩)), (10, .pointer (some ⟨b4, 0, none⟩)), (16, Ya.v (tx.n + 1)), (17, .pointer (some ⟨b5, 0, none⟩)), (18, Yb.v (tx.n + 1)), (19, .int .i64 ((x.1 : Int) - 1))]) (fun x => St w [] [.cells b1 71 [st8 tx.l, .bool tx.bg], .cells b2 28 (nC (MT.mk k s nmi nma nnu (Value.slice pq q.length cq) q)), .cells b3 36 (spC m), .cells b4 36 (spC m0), .cells b5 28 (nC (lessT nmi nma (Value.slice pq q.length cq) q)), Ya.o (tx.n + 1), .brs Ya.gs (tx.n + 1) (fun i j => mM tx (kidT q) i j), Yb.o (tx.n + 1), .brs Yb.gs (tx.n + 1) (fun i j => mM tx (lessT nmi nma (Value.slice pq q.length cq) q) i j)]) (fun x => x.1) ⟨j + 1, by omega, by omega, rfl⟩ [2, 3, 5, 6, 9, 10, 16, 17, 18, 19] rfl (fun w h => h.pick [8,7,6,5,2,2,2,0,0] rfl) ?_
  rintro ⟨x, hx1, hx2, hx3⟩
  dsimp only
  refine s_ (s_ (o_ ?_))
  refine xg 3 [0] rfl rfl ?_
  refine n_ (t_ ?_)
  refine g_casep 168 rfl (fun h15 => ?_) fun h15 => ?_
  ·refine g_cond_t rfl (g_skip (t_ (s_ (g_block (s_ ?_)))))
   obtain ⟨kk, rfl⟩ : ∃ kk, x = kk + 1 := ⟨x - 1, by omega⟩
   refine g_eqv 19 (.int .i64 (kk : Int)) rfl (by congr 1; omega) ?_
   refine o_ ?_
   refine xg 2 [] rfl rfl ?_
   refine g_val (v := .pointer (some ⟨Ya.tb, i, none⟩)) rfl rfl rfl (y_idxAddr (m := i) rfl rfl Try.underlying73 Try.sizeOf75 (by omega) (by omega) (by omega)) ?_
   refine g_val (v := slW (tx.n + 1) (Ya.gs.getD i 0)) rfl rfl rfl (y_ldR (off := i) 5 rfl Try.isAgg75 rfl (gt_get (n := tx.n + 1) (by omega))) ?_
   refine xg 1 [] rfl rfl ?_
   refine g_val (v := .pointer (some ⟨Ya.gs.getD i 0, kk, none⟩)) rfl rfl rfl (y_idxAddr (m := kk) rfl rfl Try.underlying75 Try.sizeOf4 (by omega) (by omega) (by omega)) ?_
   refine g_val (v := .bool ((fun i j => mM tx (kidT q) i j) i kk)) rfl rfl rfl (y_ldB (i := i) (j := kk) 6 rfl Try.isAgg4 rfl (gt_at (by omega)) (by omega)) ?_
   refine xg 1 [] rfl rfl ?_
   first | refine g_casep 178 rfl (fun h16 => ?_) fun h16 => ?_ | refine g_caseb 178 rfl (fun h16 => ?_) fun h16 => ?_
   ·refine xg 2 [] rfl rfl ?_
    refine g_val (v := .pointer (some ⟨Yb.tb, kk, none⟩)) rfl rfl rfl (y_idxAddr (m := kk) rfl rfl Try.underlying73 Try.sizeOf75 (by omega) (by omega) (by omega)) ?_
    refine g_val (v := slW (tx.n + 1) (Yb.gs.getD kk 0)) rfl rfl rfl (y_ldR (off := kk) 7 rfl Try.isAgg75 rfl (gt_get (n := tx.n + 1) (by omega))) ?_
    refine xg 1 [] rfl rfl ?_
    refine g_val (v := .pointer (some ⟨Yb.gs.getD kk 0, j, none⟩)) rfl rfl rfl (y_idxAddr (m := j) rfl rfl Try.underlying75 Try.sizeOf4 (by omega) (by omega) (by omega)) ?_
    refine g_val (v := .bool ((fun i j => mM tx (lessT nmi nma (Value.slice pq q.length cq) q) i j) kk j)) rfl rfl rfl (y_ldB (i := kk) (j := j) 8 rfl Try.isAgg4 rfl (gt_at (by omega)) (by omega)) ?_
    refine xg 1 [] rfl rfl ?_
    refine n_ (t_ ?_)
    first | refine g_casep 186 rfl (fun h17 => ?_) fun h17 => ?_ | refine g_caseb 186 rfl (fun h17 => ?_) fun h17 => ?_
    ·refine g_cond_t rfl (s_ ?_)
     refine k_go [0,0,0,1] rfl (by kernel_rfl) (fun _ _ _ _ _ h => h) fun hQ => ?_
     refine k_xc 0 [0,0,0,1] [0] hQ (by kernel_rfl) rfl rfl rfl rfl rfl rfl (by omega) ?_
     refine k_xc 1 [0,0,0,1] [3] hQ (by kernel_rfl) rfl rfl rfl rfl rfl rfl (by omega) ?_
     refine k_x 2 [0,0,0,1] [] hQ (by kernel_rfl) rfl rfl rfl rfl rfl rfl ?_
     refine k_x 3 [0,0,0,1] [] hQ (by kernel_rfl) rfl rfl rfl rfl rfl rfl ?_
     refine k_xc 4 [0,0,0,1] [0] hQ (by kernel_rfl) rfl rfl rfl rfl rfl rfl (by omega) ?_
     refine k_xc 5 [0,0,0,1] [1] hQ (by kernel_rfl) rfl rfl rfl rfl rfl rfl (by omega) ?_
     refine k_call 6 (m_kid10 k s nmi nma nnu pq cq q) (fun w hS => hS.okOf hok (fun _ _ => List.not_mem_nil)) rfl (by kernel_rfl) hQ rfl rfl rfl (fun _ h => h.pick [0,0,0,1] rfl) ?_
     refine k_x 7 [0,0,0,1] [] hQ (by kernel_rfl) rfl rfl rfl rfl rfl rfl ?_
     refine k_x 8 [0,0,0,1] [] hQ (by kernel_rfl) rfl rfl rfl rfl rfl rfl ?_
     refine k_xc 9 [0,0,0,1] [2] hQ (by kernel_rfl) rfl rfl rfl rfl rfl rfl (by omega) ?_
     refine k_call 10 (ih1 (kidT q) (muT_kid (by omega)) (kidT_cp hcq) i kk m (by omega) (by omega)) (fun w hS => hS.okOf (kidT_rd hrl) (fun _ _ => List.not_mem_nil)) rfl (by kernel_rfl) hQ rfl rfl rfl (fun _ h => h.pick [0,0,0,1] rfl) ?_
     refine k_call 11 (ih2 (lessT nmi nma (Value.slice pq q.length cq) q) (muT_less (by omega)) (less_cp hcp) kk (gM tx (kidT q) i kk m) (by omega) (by omega)) (fun w hS => hS.okOf (less_rd hok) (fun _ _ => List.not_mem_nil)) rfl (by kernel_rfl) hQ rfl rfl rfl (fun _ h => h.pick [0,0,0,1] rfl) ?_
     refine k_one 12 (by kernel_rfl) ?_
     refine k_op 12 rfl ?_
     refine xg 1 [3] rfl (by omega) ?_
     refine n_ ?_
     refine k_end (fun _ h => h.pick [0,0,0,1] rfl) ?_
     refine k_done (by kernel_rfl) ?_
     refine t_ (g_ret (g_in_ret (g_then_ret (g_then_ret (g_in_ret (g_in_ret (g_then_ret ?_)))))))
     refine g_end_cell 3 Try.results29 rfl rfl Try.isAgg36 Try.sizeOf36 rfl ?_
     rw [show gM tx (MT.mk k s nmi nma nnu (Value.slice pq q.length cq) q) i j m = gM tx (lessT nmi nma (Value.slice pq q.length cq) q) kk j (gM tx (kidT q) i kk m) from by rw [gr_rep1 ‹k = 4› (by omega) hjn, hx3, topK_hit (by omega) (by rw [show mM tx (kidT q) i kk = true by simpa using ‹mM tx (kidT q) i kk = true›, show mM tx (lessT nmi nma (Value.slice pq q.length cq) q) kk j = true by simpa using ‹mM tx (lessT nmi nma (Value.slice pq q.length cq) q) kk j = true›]; rfl)]]
     exact fun w hS => ⟨rfl, hS.below⟩
    refine g_cond_f rfl (g_skip (g_in_normal (t_ (o_ ?_))))
    refine xg 3 [] rfl (by omega) ?_
    refine n_ ?_
    exact g_again ⟨kk, by omega, by omega, hx3.trans (topK_down (by first | (rw [show mM tx (kidT q) i kk = false by simpa using ‹mM tx (kidT q) i kk = false›, Bool.false_and]) | (rw [show mM tx (lessT nmi nma (Value.slice pq q.length cq) q) kk j = false by simpa using ‹mM tx (lessT nmi nma (Value.slice pq q.length cq) q) kk j = false›, Bool.and_false])))⟩ [2, 3, 5, 6, 9, 10, 16, 17, 18, 19] (by dsimp only; omega) rfl (fun w h => h.pick [0,0,0,0,0,0,0,0,0] rfl)
   refine xg 8 [] rfl rfl ?_
   refine n_ (t_ (g_cond_f rfl (g_skip (g_in_normal (t_ (o_ ?_))))))
   refine xg 3 [] rfl (by omega) ?_
   refine n_ ?_
   exact g_again ⟨kk, by omega, by omega, hx3.trans (topK_down (by first | (rw [show mM tx (kidT q) i kk = false by simpa using ‹mM tx (kidT q) i kk = false›, Bool.false_and]) | (rw [show mM tx (lessT nmi nma (Value.slice pq q.length cq) q) kk j = false by simpa using ‹mM tx (lessT nmi nma (Value.slice pq q.length cq) q) kk j = false›, Bool.and_false])))⟩ [2, 3, 5, 6, 9, 10, 16, 17, 18, 19] (by dsimp only; omega) rfl (fun w h => h.pick [0,0,0,0,0,0,0,0,0] rfl)
  refine g_cond_f rfl (g_exit (g_then_exit (g_then_exit (g_in_exit (g_in_normal (t_ (s_ (o_ ?_))))))))
  refine xg 1 [2] rfl (by omega) ?_
  refine g_stN 3 rfl rfl rfl (by kernel_rfl) rfl rfl rfl rfl ?_
  simp only [List.set_cons_zero, List.set_cons_succ]
  refine n_ (t_ (g_ret ?_))
  refine g_end_cell 3 Try.results29 rfl rfl Try.isAgg36 Try.sizeOf36 rfl ?_
  rw [show gM tx (MT.mk k s nmi nma nnu (Value.slice pq q.length cq) q) i j m = m from by rw [gr_rep1 ‹k = 4› (by omega) hjn, hx3, topK_out (by omega)]]
  exact fun w hS => ⟨rfl, hS.below⟩
 refine g_cond_f rfl (g_skip (g_in_normal (t_ (s_ (o_ ?_)))))
 refine xg 2 [1,0] rfl (by omega) ?_
 refine n_ (t_ (g_ret ?_))
 refine g_end_cell 0 Try.results29 rfl rfl Try.isAgg36 Try.sizeOf36 rfl ?_
 rw [show gM tx (MT.mk k s nmi nma nnu (Value.slice pq q.length cq) q) i j m = m from gr_other (by assumption) (by assumption) (by assumption) (by assumption)]
 exact fun w hS => ⟨rfl, hS.below⟩

end Go.Proofs.Ytfcamlkbkehlnaa

/- Is and Find as the document has them. -/
namespace Go.Proofs.Ytfcamlkbkehlnaa
open Go Go.RowKit

theorem grp10_ok (tx : Tx) (hn : tx.n ≤ 100000) : ∀ (D : Nat) (t : MT), t.cp → ∀ (i j : Nat) (m : Spn), i ≤ j → j ≤ tx.n → muT t * (tx.n + 2) + (j - i) ≤ D → G10 tx t i j m := by
  intro D
  induction D with
  | zero =>
    intro t _ i j m _ _ h
    have h1 := wT_one10 t
    have h2 : 1 ≤ muT t := by unfold muT; omega
    have h3 := Nat.mul_le_mul_right (tx.n + 2) h2
    omega
  | succ D ih =>
    intro t hcp i j m hij hjn h
    refine meets1 Try.call29 fun w hI => ?_
    obtain ⟨k, s, mi, ma, nu, p, c, q, rfl⟩ := rd_v hI
    refine groups10_any tx hn k s mi ma nu p c q i j m hij hjn (fun u hu hc a b m' hab hb => ih u hc a b m' hab hb ?_) (fun u hu hc a m' ha haj => ih u hc a j m' haj hjn ?_) w hI hcp
    · have h3 := Nat.mul_le_mul_right (tx.n + 2) (Nat.succ_le_of_lt hu)
      rw [Nat.succ_mul] at h3
      omega
    · have h3 := Nat.mul_le_mul_right (tx.n + 2) hu
      omega
def fill1 (k : Nat) : Spn := fun j => if 1 ≤ j ∧ j < k then (-1, -1) else (0, 0)
theorem fill1_next {k : Nat} (h : 1 ≤ k) : setS (fill1 k) k (-1, -1) = fill1 (k + 1) := by
  funext j
  unfold setS fill1
  by_cases h1 : j = k
  · subst h1; rw [if_pos rfl, if_pos (by omega)]
  · rw [if_neg h1]
    by_cases h2 : 1 ≤ j ∧ j < k
    · rw [if_pos h2, if_pos (by omega)]
    · rw [if_neg h2, if_neg (by omega)]
theorem fill1_ten {a b : Int} : spC (setS (fill1 10) 0 (a, b)) = spC (setS mN 0 (a, b)) := rfl
theorem top_low {x : Tx} {t : MT} {i j : Nat} (hi : i ≤ x.n) (hj : j ≤ i) : topK (fun j => mM x t i j) 0 j = none := topK_none fun b _ hb => by
  cases h : mM x t i b with
  | false => rfl
  | true => have := mM_in t hi h; omega

set_option maxRecDepth 100000 in
theorem is10_any (tx : Tx) (hn : tx.n ≤ 100000) (k : Int) (s : Nat → Int) (nmi nma nnu : Int) (pq : Option Addr) (cq : Nat) (q : List MT) (fr to : Int) (w : World) (hok : MT.rd w (MT.mk k s nmi nma nnu (Value.slice pq q.length cq) q)) (hcp : MT.cp (MT.mk k s nmi nma nnu (Value.slice pq q.length cq) q)) :
    Calls Try.prog 21 #[.agg (nC (MT.mk k s nmi nma nnu (Value.slice pq q.length cq) q)).toArray, st8 tx.l, .int .i64 fr, .int .i64 to, .bool tx.bg] w fun e w' => e = .returned (.bool (isS tx (MT.mk k s nmi nma nnu (Value.slice pq q.length cq) q) fr to)) ∧ Below w.heap.size w w' := by
 refine fn_intro Try.func21 rfl Try.ntmps21 rfl rfl ?_
 refine s_ (o_ ?_)
 refine g_box rfl rfl rfl rfl (fun b1 => ?_)
 refine xg 1 [] rfl rfl ?_
 refine n_ (t_ (s_ (s_ (o_ ?_))))
 refine xg 3 [0] rfl rfl ?_
 refine g_casep 14 rfl (fun h1 => ?_) fun h1 => ?_
 ·refine xg 10 [] rfl rfl ?_
  refine n_ (t_ (g_cond_t rfl (s_ (o_ ?_))))
  refine xg 1 [] rfl rfl ?_
  refine n_ (t_ (g_ret (g_then_ret ?_)))
  refine g_end1 Try.results21 rfl ?_
  rw [show isS tx (MT.mk k s nmi nma nnu (Value.slice pq q.length cq) q) fr to = false by unfold isS; rw [decide_eq_false (by omega), Bool.false_and]]
  exact fun w hS => ⟨rfl, hS.below⟩
 refine xg 5 [0] rfl rfl ?_
 refine g_casep 19 rfl (fun h2 => ?_) fun h2 => ?_
 ·refine xg 5 [] rfl rfl ?_
  refine n_ (t_ (g_cond_t rfl (s_ (o_ ?_))))
  refine xg 1 [] rfl rfl ?_
  refine n_ (t_ (g_ret (g_then_ret ?_)))
  refine g_end1 Try.results21 rfl ?_
  rw [show isS tx (MT.mk k s nmi nma nnu (Value.slice pq q.length cq) q) fr to = false by unfold isS; rw [decide_eq_false (by omega), Bool.false_and]]
  exact fun w hS => ⟨rfl, hS.below⟩
 refine xg 2 [] rfl rfl ?_
 refine g_val (v := .int .i64 (tx.n : Int)) rfl rfl rfl (y_val (y_slen rfl Try.underlying9) (by rw [size_mk]; rfl)) ?_
 refine xg 2 [0] rfl rfl ?_
 refine n_ (t_ ?_)
 refine g_casep 24 rfl (fun h3 => ?_) fun h3 => ?_
 ·refine g_cond_t rfl (s_ (o_ ?_))
  refine xg 1 [] rfl rfl ?_
  refine n_ (t_ (g_ret (g_then_ret ?_)))
  refine g_end1 Try.results21 rfl ?_
  rw [show isS tx (MT.mk k s nmi nma nnu (Value.slice pq q.length cq) q) fr to = false by unfold isS; rw [decide_eq_false (by omega), Bool.false_and]]
  exact fun w hS => ⟨rfl, hS.below⟩
 refine g_cond_f rfl (g_skip (t_ (s_ ?_)))
 obtain ⟨i, rfl⟩ := Int.eq_ofNat_of_zero_le (show 0 ≤ fr by omega)
 obtain ⟨j, rfl⟩ := Int.eq_ofNat_of_zero_le (show 0 ≤ to by omega)
 refine o_ ?_
 refine xg 3 [] rfl rfl ?_
 refine g_alloc rfl rfl Try.zeroValue71 rfl (fun b2 => ?_)
 refine xg 1 [0] rfl (by omega) ?_
 refine ntso_ ?_
 refine xg 2 [0,1] rfl (by omega) ?_
 refine g_callOwn (L0 := []) (fun y : {y : TbX // y.gs.length = tx.n + 1} => y.1.v (tx.n + 1)) (fun y => [y.1.o (tx.n + 1), .brs y.1.gs (tx.n + 1) (fun i j => mM tx (MT.mk k s nmi nma nnu (Value.slice pq q.length cq) q) i j)]) rfl rfl rfl Try.call28 (fun w hS => of_ok tx hn _ (MT.mk k s nmi nma nnu (Value.slice pq q.length cq) q) (Nat.le_refl _) w (hS.okOf hok (fun _ _ => List.not_mem_nil)) hcp) ?_
 rintro ⟨T, hgT⟩
 dsimp only
 simp only [List.cons_append, List.nil_append]
 refine xg 1 [] rfl rfl ?_
 refine g_val (v := .pointer (some ⟨T.tb, i, none⟩)) rfl rfl rfl (y_idxAddr (m := i) rfl rfl Try.underlying73 Try.sizeOf75 (by omega) (by omega) (by omega)) ?_
 refine g_val (v := slW (tx.n + 1) (T.gs.getD i 0)) rfl rfl rfl (y_ldR (off := i) 0 rfl Try.isAgg75 rfl (gt_get (n := tx.n + 1) (by omega))) ?_
 refine xg 1 [] rfl rfl ?_
 refine g_val (v := .pointer (some ⟨T.gs.getD i 0, j, none⟩)) rfl rfl rfl (y_idxAddr (m := j) rfl rfl Try.underlying75 Try.sizeOf4 (by omega) (by omega) (by omega)) ?_
 refine g_val (v := .bool (mM tx (MT.mk k s nmi nma nnu (Value.slice pq q.length cq) q) i j)) rfl rfl rfl (y_ldB (i := i) (j := j) 1 rfl Try.isAgg4 rfl (gt_at (by omega)) (by omega)) ?_
 refine xg 1 [] rfl rfl ?_
 refine n_ (t_ (g_ret ?_))
 refine g_end1 Try.results21 rfl ?_
 rw [show isS tx (MT.mk k s nmi nma nnu (Value.slice pq q.length cq) q) (i : Int) (j : Int) = mM tx (MT.mk k s nmi nma nnu (Value.slice pq q.length cq) q) i j by unfold isS; rw [decide_eq_true (by omega), Bool.true_and]; rfl]
 exact fun w hS => ⟨rfl, hS.below⟩

set_option maxRecDepth 100000 in
theorem find10_any (tx : Tx) (hn : tx.n ≤ 100000) (k : Int) (s : Nat → Int) (nmi nma nnu : Int) (pq : Option Addr) (cq : Nat) (q : List MT) (fr : Int) (w : World) (hok : MT.rd w (MT.mk k s nmi nma nnu (Value.slice pq q.length cq) q)) (hcp : MT.cp (MT.mk k s nmi nma nnu (Value.slice pq q.length cq) q)) :
    Calls Try.prog 15 #[.agg (nC (MT.mk k s nmi nma nnu (Value.slice pq q.length cq) q)).toArray, st8 tx.l, .int .i64 fr, .bool tx.bg] w fun e w' => e = .returned (.tuple #[.agg (spC (findR tx (MT.mk k s nmi nma nnu (Value.slice pq q.length cq) q) fr).1).toArray, .bool (findR tx (MT.mk k s nmi nma nnu (Value.slice pq q.length cq) q) fr).2]) ∧ Below w.heap.size w w' := by
 refine fn_intro Try.func15 rfl Try.ntmps15 rfl rfl ?_
 refine s_ (o_ ?_)
 refine g_box rfl rfl rfl rfl (fun b1 => ?_)
 refine g_alloc rfl rfl Try.zeroValue36 rfl (fun br => ?_)
 refine g_nrm (L' := .cells br 36 (spC m0) :: _) rfl ?_
 refine xg 1 [] rfl rfl ?_
 refine n_ (t_ (s_ (s_ (o_ ?_))))
 refine xg 3 [0] rfl rfl ?_
 refine g_casep 18 rfl (fun h1 => ?_) fun h1 => ?_
 ·refine xg 10 [] rfl rfl ?_
  refine n_ (t_ (g_cond_t rfl (s_ (o_ ?_))))
  refine xg 3 [0] rfl (by omega) ?_
  refine n_ (t_ (g_ret (g_then_ret ?_)))
  refine g_end_cell2 0 Try.results15 rfl rfl rfl Try.isAgg36 Try.sizeOf36 rfl ?_
  rw [find_out (by omega)]
  exact fun w hS => ⟨rfl, hS.below⟩
 refine xg 2 [] rfl rfl ?_
 refine g_val (v := .int .i64 (tx.n : Int)) rfl rfl rfl (y_val (y_slen rfl Try.underlying9) (by rw [size_mk]; rfl)) ?_
 refine xg 3 [0] rfl rfl ?_
 refine g_casep 24 rfl (fun h2 => ?_) fun h2 => ?_
 ·refine xg 4 [] rfl rfl ?_
  refine n_ (t_ (g_cond_t rfl (s_ (o_ ?_))))
  refine xg 3 [0] rfl (by omega) ?_
  refine n_ (t_ (g_ret (g_then_ret ?_)))
  refine g_end_cell2 0 Try.results15 rfl rfl rfl Try.isAgg36 Try.sizeOf36 rfl ?_
  rw [find_out (by omega)]
  exact fun w hS => ⟨rfl, hS.below⟩
 refine xg 1 [] rfl rfl ?_
 refine g_val (v := .int .i64 (tx.n : Int)) rfl rfl rfl (y_val (y_slen rfl Try.underlying9) (by rw [size_mk]; rfl)) ?_
 refine xg 2 [0] rfl rfl ?_
 refine n_ (t_ ?_)
 refine g_casep 28 rfl (fun h3 => ?_) fun h3 => ?_
 ·refine g_cond_t rfl (s_ (o_ ?_))
  refine xg 3 [0] rfl (by omega) ?_
  refine n_ (t_ (g_ret (g_then_ret ?_)))
  refine g_end_cell2 0 Try.results15 rfl rfl rfl Try.isAgg36 Try.sizeOf36 rfl ?_
  rw [find_out (by omega)]
  exact fun w hS => ⟨rfl, hS.below⟩
 refine g_cond_f rfl (g_skip (t_ (s_ ?_)))
 obtain ⟨f0, rfl⟩ := Int.eq_ofNat_of_zero_le (show 0 ≤ fr by omega)
 refine o_ ?_
 refine xg 3 [] rfl rfl ?_
 refine g_alloc rfl rfl Try.zeroValue71 rfl (fun b3 => ?_)
 refine xg 1 [0] rfl (by omega) ?_
 refine ntso_ ?_
 refine xg 2 [0,2] rfl (by omega) ?_
 refine g_callOwn (L0 := []) (fun y : {y : TbX // y.gs.length = tx.n + 1} => y.1.v (tx.n + 1)) (fun y => [y.1.o (tx.n + 1), .brs y.1.gs (tx.n + 1) (fun i j => mM tx (MT.mk k s nmi nma nnu (Value.slice pq q.length cq) q) i j)]) rfl rfl rfl Try.call28 (fun w hS => of_ok tx hn _ (MT.mk k s nmi nma nnu (Value.slice pq q.length cq) q) (Nat.le_refl _) w (hS.okOf hok (fun _ _ => List.not_mem_nil)) hcp) ?_
 rintro ⟨T, hgT⟩
 dsimp only
 simp only [List.cons_append, List.nil_append]
 refine xg 1 [] rfl rfl ?_
 refine n_ (t_ (s_ (s_ (o_ ?_))))
 refine xg 2 [] rfl rfl ?_
 refine n_ (t_ (g_block ?_))
 refine g_loop (α := {x : Nat // x ≤ tx.n + 1 ∧ findF tx (MT.mk k s nmi nma nnu (Value.slice pq q.length cq) q) (tx.n + 1 - f0) f0 = findF tx (MT.mk k s nmi nma nnu (Value.slice pq q.length cq) q) (tx.n + 1 - x) x}) (fun x => [(1, st8 tx.l), (4, .pointer (some ⟨b1, 0, none⟩)), (8, .pointer (some ⟨br, 0, none⟩)), (10, .pointer (some ⟨b3, 0, none⟩)), (11, T.v (tx.n + 1)), (12, .int .i64 (x.1 : Int))]) (fun x => St w [] [.cells b1 28 (nC (MT.mk k s nmi nma nnu (Value.slice pq q.length cq) q)), .cells br 36 (spC m0), .cells b3 71 [st8 tx.l, .bool tx.bg], T.o (tx.n + 1), .brs T.gs (tx.n + 1) (fun i j => mM tx (MT.mk k s nmi nma nnu (Value.slice pq q.length cq) q) i j)]) (fun x => tx.n + 1 - x.1) ⟨f0, by omega, rfl⟩ [1, 4, 8, 10, 11, 12] rfl (fun w h => h.pick [4,3,2,0,0] rfl) ?_
 rintro ⟨c, hc, hff⟩
 dsimp only
 refine s_ (s_ (o_ ?_))
 refine xg 2 [] rfl rfl ?_
 refine g_val (v := .int .i64 (tx.n : Int)) rfl rfl rfl (y_val (y_slen rfl Try.underlying9) (by rw [size_mk]; rfl)) ?_
 refine xg 1 [0] rfl rfl ?_
 refine n_ (t_ ?_)
 refine g_casep 40 rfl (fun h4 => ?_) fun h4 => ?_
 ·refine g_cond_t rfl (g_skip (t_ (s_ (g_block (s_ (o_ ?_))))))
  refine xg 1 [] rfl rfl ?_
  refine g_val (v := .int .i64 (tx.n : Int)) rfl rfl rfl (y_val (y_slen rfl Try.underlying9) (by rw [size_mk]; rfl)) ?_
  refine xg 1 [] rfl rfl ?_
  refine n_ (t_ (g_block ?_))
  refine g_eqv 13 (.int .i64 (((tx.n + 1 : Nat) : Int) - 1)) rfl (by congr 1; omega) ?_
  refine g_loop (α := {x : Nat // c ≤ x ∧ x ≤ tx.n + 1 ∧ topK (fun j => mM tx (MT.mk k s nmi nma nnu (Value.slice pq q.length cq) q) c j) 0 (tx.n + 1) = topK (fun j => mM tx (MT.mk k s nmi nma nnu (Value.slice pq q.length cq) q) c j) 0 x}) (fun x => [(1, st8 tx.l), (4, .pointer (some ⟨b1, 0, none⟩)), (8, .pointer (some ⟨br, 0, none⟩)), (10, .pointer (some ⟨b3, 0, none⟩)), (11, T.v (tx.n + 1)), (12, .int .i64 (c : Int)), (13, .int .i64 ((x.1 : Int) - 1))]) (fun x => St w [] [.cells b1 28 (nC (MT.mk k s nmi nma nnu (Value.slice pq q.length cq) q)), .cells br 36 (spC m0), .cells b3 71 [st8 tx.l, .bool tx.bg], T.o (tx.n + 1), .brs T.gs (tx.n + 1) (fun i j => mM tx (MT.mk k s nmi nma nnu (Value.slice pq q.length cq) q) i j)]) (fun x => x.1) ⟨tx.n + 1, by omega, by omega, rfl⟩ [1, 4, 8, 10, 11, 12, 13] rfl (fun w h => h.pick [0,0,0,0,0] rfl) ?_
  rintro ⟨x, hx1, hx2, hx3⟩
  dsimp only
  refine s_ (s_ (o_ ?_))
  refine xg 3 [0] rfl rfl ?_
  refine n_ (t_ ?_)
  refine g_casep 47 rfl (fun h5 => ?_) fun h5 => ?_
  ·refine g_cond_t rfl (g_skip (t_ (s_ (g_block (s_ ?_)))))
   obtain ⟨j, rfl⟩ : ∃ j, x = j + 1 := ⟨x - 1, by omega⟩
   refine g_eqv 13 (.int .i64 (j : Int)) rfl (by congr 1; omega) ?_
   refine o_ ?_
   refine xg 2 [] rfl rfl ?_
   refine g_val (v := .pointer (some ⟨T.tb, c, none⟩)) rfl rfl rfl (y_idxAddr (m := c) rfl rfl Try.underlying73 Try.sizeOf75 (by omega) (by omega) (by omega)) ?_
   refine g_val (v := slW (tx.n + 1) (T.gs.getD c 0)) rfl rfl rfl (y_ldR (off := c) 3 rfl Try.isAgg75 rfl (gt_get (n := tx.n + 1) (by omega))) ?_
   refine xg 1 [] rfl rfl ?_
   refine g_val (v := .pointer (some ⟨T.gs.getD c 0, j, none⟩)) rfl rfl rfl (y_idxAddr (m := j) rfl rfl Try.underlying75 Try.sizeOf4 (by omega) (by omega) (by omega)) ?_
   refine g_val (v := .bool (mM tx (MT.mk k s nmi nma nnu (Value.slice pq q.length cq) q) c j)) rfl rfl rfl (y_ldB (i := c) (j := j) 4 rfl Try.isAgg4 rfl (gt_at (by omega)) (by omega)) ?_
   refine n_ (t_ ?_)
   first | refine g_casep 56 rfl (fun h6 => ?_) fun h6 => ?_ | refine g_caseb 56 rfl (fun h6 => ?_) fun h6 => ?_
   ·refine g_cond_t rfl (s_ ?_)
    have hlv : topK (fun j => mM tx (MT.mk k s nmi nma nnu (Value.slice pq q.length cq) q) c j) 0 (tx.n + 1) = some j := hx3.trans (topK_hit (Nat.zero_le _) (by simpa using ‹mM tx (MT.mk k s nmi nma nnu (Value.slice pq q.length cq) q) c j = true›))
    refine o_ ?_
    refine g_alloc rfl rfl Try.zeroValue36 rfl (fun bo => ?_)
    refine g_nrm (L' := .cells bo 36 (spC (fill1 1)) :: _) rfl ?_
    refine n_ (t_ (s_ (s_ (o_ ?_))))
    refine xg 1 [] rfl rfl ?_
    refine n_ (t_ (g_block ?_))
    refine g_loop (α := {x : Nat // 1 ≤ x ∧ x ≤ 10}) (fun x => [(1, st8 tx.l), (4, .pointer (some ⟨b1, 0, none⟩)), (8, .pointer (some ⟨br, 0, none⟩)), (10, .pointer (some ⟨b3, 0, none⟩)), (11, T.v (tx.n + 1)), (12, .int .i64 (c : Int)), (13, .int .i64 (j : Int)), (14, .pointer (some ⟨bo, 0, none⟩)), (15, .int .i64 (x.1 : Int))]) (fun x => St w [] [.cells bo 36 (spC (fill1 x.1)), .cells b1 28 (nC (MT.mk k s nmi nma nnu (Value.slice pq q.length cq) q)), .cells br 36 (spC m0), .cells b3 71 [st8 tx.l, .bool tx.bg], T.o (tx.n + 1), .brs T.gs (tx.n + 1) (fun i j => mM tx (MT.mk k s nmi nma nnu (Value.slice pq q.length cq) q) i j)]) (fun x => 10 - x.1) ⟨1, by decide, by decide⟩ [1, 4, 8, 10, 11, 12, 13, 14, 15] rfl (fun w h => h.pick [0,0,0,0,0,0] rfl) ?_
    rintro ⟨n, hn1, hn2⟩
    dsimp only
    refine s_ (s_ (o_ ?_))
    refine xg 2 [0] rfl rfl ?_
    refine n_ (t_ ?_)
    refine g_casep 58 rfl (fun h7 => ?_) fun h7 => ?_
    ·refine g_cond_t rfl (g_skip (t_ (s_ (g_block (o_ ?_)))))
     refine xg 2 [] rfl rfl ?_
     refine g_val rfl rfl rfl (y_idxArr (m := n * 2) rfl rfl Try.underlying36 Try.sizeOf34 (by omega) (by omega) (by omega)) ?_
     refine g_stSp (k := n) 0 (by omega) rfl rfl rfl Try.sizeOf34 rfl ?_
     simp only [List.set_cons_zero, List.set_cons_succ]
     rw [fill1_next (by omega)]
     refine n_ (g_in_normal (t_ (o_ ?_)))
     refine xg 3 [] rfl (by omega) ?_
     refine n_ ?_
     exact g_again ⟨n + 1, by omega, by omega⟩ [1, 4, 8, 10, 11, 12, 13, 14, 15] (by dsimp only; omega) rfl (fun w h => h.pick [0,0,0,0,0,0] rfl)
    refine g_cond_f rfl (g_exit (g_then_exit (g_then_exit (g_in_exit (t_ (s_ ?_))))))
    obtain rfl : n = 10 := by omega
    refine o_ ?_
    refine xg 3 [] rfl rfl ?_
    refine g_val rfl rfl rfl (y_idxArr (m := 0 * 2) rfl rfl Try.underlying36 Try.sizeOf34 (by decide) (by decide) rfl) ?_
    refine g_stSp (k := 0) 0 (by omega) rfl rfl rfl Try.sizeOf34 rfl ?_
    simp only [List.set_cons_zero, List.set_cons_succ]
    rw [fill1_ten]
    refine ntso_ ?_
    refine xg 5 [3,1,0] rfl (by omega) ?_
    refine g_c1 (grp10_ok tx hn _ (MT.mk k s nmi nma nnu (Value.slice pq q.length cq) q) hcp c j (setS mN 0 ((c : Int), (j : Int))) (by omega) (by omega) (Nat.le_refl _)) (fun w hS => hS.okOf hok (fun _ _ => List.not_mem_nil)) rfl rfl rfl ?_
    refine xg 2 [2] rfl (by omega) ?_
    refine n_ (t_ (g_ret (g_in_ret (g_then_ret (g_then_ret (g_in_ret (g_in_ret (g_then_ret (g_then_ret (g_in_ret (g_then_ret ?_)))))))))))
    refine g_end_cell2 2 Try.results15 rfl rfl rfl Try.isAgg36 Try.sizeOf36 rfl ?_
    rw [find_some (fr := (f0 : Int)) (c := c) (j := j) ⟨by omega, by omega, by omega⟩ (by omega) hff hlv]
    exact fun w hS => ⟨rfl, hS.below⟩
   refine g_cond_f rfl (g_skip (g_in_normal (t_ (o_ ?_))))
   refine xg 3 [] rfl (by omega) ?_
   refine n_ ?_
   exact g_again ⟨j, by omega, by omega, hx3.trans (topK_down (by simpa using ‹mM tx (MT.mk k s nmi nma nnu (Value.slice pq q.length cq) q) c j = false›))⟩ [1, 4, 8, 10, 11, 12, 13] (by dsimp only; omega) rfl (fun w h => h.pick [0,0,0,0,0] rfl)
  refine g_cond_f rfl (g_exit (g_then_exit (g_then_exit (g_in_exit (g_in_normal (t_ (o_ ?_)))))))
  refine xg 3 [] rfl (by omega) ?_
  refine n_ ?_
  have hnone : topK (fun j => mM tx (MT.mk k s nmi nma nnu (Value.slice pq q.length cq) q) c j) 0 (tx.n + 1) = none := hx3.trans (top_low (by omega) (by omega))
  exact g_again ⟨c + 1, by omega, by rw [hff]; exact find_next (by omega) hnone⟩ [1, 4, 8, 10, 11, 12] (by dsimp only; omega) rfl (fun w h => h.pick [0,0,0,0,0] rfl)
 refine g_cond_f rfl (g_exit (g_then_exit (g_then_exit (g_in_exit (t_ (s_ (o_ ?_)))))))
 refine xg 3 [1] rfl (by omega) ?_
 refine n_ (t_ (g_ret ?_))
 refine g_end_cell2 1 Try.results15 rfl rfl rfl Try.isAgg36 Try.sizeOf36 rfl ?_
 rw [find_none (fr := (f0 : Int)) (c := c) (by omega) hff]
 exact fun w hS => ⟨rfl, hS.below⟩

theorem m_find10 (tx : Tx) (t : MT) (fr : Int) (hx : tx.n ≤ 100000) (hcp : t.cp) : Meets Try.prog (fun w => t.rd w) 15 [.agg (nC t).toArray, st8 tx.l, .int .i64 fr, .bool tx.bg] (fun _ : Unit => .tuple #[.agg (spC (findR tx t fr).1).toArray, .bool (findR tx t fr).2]) [] (fun _ => []) := meets1 Try.call15 (fun w hI => by
  obtain ⟨k, s, mi, ma, nu, p, c, q, rfl⟩ := rd_v hI
  exact find10_any tx hx k s mi ma nu p c q fr w hI hcp)
theorem m_is10 (tx : Tx) (t : MT) (fr to : Int) (hx : tx.n ≤ 100000) (hcp : t.cp) : Meets Try.prog (fun w => t.rd w) 21 [.agg (nC t).toArray, st8 tx.l, .int .i64 fr, .int .i64 to, .bool tx.bg] (fun _ : Unit => .bool (isS tx t fr to)) [] (fun _ => []) := meets1 Try.call21 (fun w hI => by
  obtain ⟨k, s, mi, ma, nu, p, c, q, rfl⟩ := rd_v hI
  exact is10_any tx hx k s mi ma nu p c q fr to w hI hcp)

end Go.Proofs.Ytfcamlkbkehlnaa

/-
  The wrap of a row whose walk needs the library's variables: the world has its shape.
-/
namespace Go.Proofs.Ytfcamlkbkehlnaa
open Go Go.RowKit
section
variable {H : Type} {enc : TypeId × Value → H} {P : Program}
theorem returns_shaped {a : Assume} {C : Checked} {os : Os} {f : FuncId} {fn : Func} {s : ChangeSpec} {conds : List PathCond} {apart fresh handsOn again : Bool}
    (own : ownKnob C.prog.godebug = none) (started : os.Started) (noInit : C.prog.inits.idxOf? f = none) (hfn : C.prog.funcs[f]? = some fn)
    (witness : ∃ (w : World) (tape : Tape) (i : Input), w.os = os ∧ (w.forCall tape i).Shaped C.prog ∧ i.vars = [] ∧ Input.okWide C.prog (w.forCall tape i) .any w.heap.size f i ∧
      s.pre6 enc C.prog fn conds apart (w.forCall tape i).memory i.args ∧ a.holds C.prog (lone (Frame.enter C.prog f i.args .normal) [] (w.forCall tape i)))
    (walk : ∀ (W : World) (base : Nat) (args : Array Value) (ds gs : List (DataW H)) (before : List MemPlace), W.ShapedOpen C.prog →
      (∀ (j : Nat) t v, fn.params[j]? = some t → args[j]? = some v → Value.okWide C.prog W .any base t v) →
      DataW.Whole enc C.prog fn.params.toList s.vars apart W args.toList ds gs before →
      Calls C.prog f args W fun e W' => ∃ v, e = .returned v ∧ s.post enc C.prog fn apart fresh handsOn again W args v W') :
    ReturnsInHanded a C os f .any (s.pre6 enc C.prog fn conds apart) (s.post enc C.prog fn apart fresh handsOn again) := by
  refine returnsInHanded_of_calls own started noInit witness fun w tape i _ hsh _ hok hpre _ => ?_
  obtain ⟨_, _, _, g, hg, _, _, _, _, hval⟩ := hok
  obtain rfl : g = fn := Option.some.inj (hg.symm.trans hfn)
  obtain ⟨⟨ds, gs, before, hw, _⟩, _⟩ := hpre
  refine (walk (w.forCall tape i) w.heap.size i.args ds gs before hsh hval (hw.of_heap (by rfl))).mono fun e W' h => ?_
  obtain ⟨v, rfl, hp⟩ := h
  exact ChangeSpec.post_blind hp
/-- A variable of a whole number holds one. -/
theorem int_of_shape {w : World} {g : Nat} {t : TypeId} {k : IntKind} {zero : Array Value} (h : w.ShapedOpen P) (hg : g < P.globals.size)
    (h0 : ((begin P (fun _ _ => 0) default).world.heap[g]?).bind Obj.row? = some (zero, t)) (hz : zero.size = 1)
    (hb : P.buildable t = true) (hc : P.cellTypes P.depth t = some [t]) (hu : P.underlying t = some (.int k)) : ∃ m, w.cell? ⟨g, 0, none⟩ = some (.int k m) := by
  obtain ⟨cs, hh, hs, hr⟩ := h.1 g zero t hg h0
  obtain ⟨ts, hts, _, hall⟩ := hr hb
  rw [hc] at hts
  cases hts
  obtain ⟨u, hu', hok⟩ := hall 0 (cs[0]'(by omega)) (by simp)
  obtain rfl : u = t := by simpa using hu'.symm
  have hcell : w.cell? ⟨g, 0, none⟩ = some (cs[0]'(by omega)) := by simp [World.cell?, hh]
  rw [hcell]
  unfold Cell.ok at hok
  rw [hu] at hok
  cases hv : cs[0]'(by omega) <;> rw [hv] at hok <;> simp_all
end
end Go.Proofs.Ytfcamlkbkehlnaa

/- A live question. -/
namespace Go.Proofs.Ytfcamlkbkehlnaa
open Go Go.RowKit

theorem pc_lit {ts : List Tok} {k : Nat} {g : Int} {c : UInt8} {ms ms' : List MT} {k2 : Nat} {g2 : Int} {b2 : Bool} (h : ts[k]? = some (litT c)) (h4 : isK ts (k + 1) 4 = false) (hr : RPcs ts (k + 1) g false (ms ++ [oneM c]) ms' k2 g2 b2) : RPcs ts k g false ms ms' k2 g2 b2 :=
  .piece (isK_2 h (by show ¬ (0 : Int) = 3; decide)) (isK_2 h (by show ¬ (0 : Int) = 2; decide)) (.plain (.set h rfl) h4) hr
/-- A group, of what stands within. -/
theorem pc_grp {ts : List Tok} {k : Nat} {g : Int} {t : MT} {k1 : Nat} {g1 : Int} {ms ms' : List MT} {k2 : Nat} {g2 : Int} {b2 : Bool} (h : ts[k]? = some (kT 1)) (h9 : g + 1 ≤ 9) (hi : RAll ts (k + 1) (g + 1) false t k1 g1 false) (h2 : isK ts k1 2 = true) (h4 : isK ts (k1 + 1) 4 = false)
    (hr : RPcs ts (k1 + 1) g1 false (ms ++ [.mk 5 s0 0 0 (g + 1) nilS [t]]) ms' k2 g2 b2) : RPcs ts k g false ms ms' k2 g2 b2 :=
  .piece (isK_2 h (by show ¬ (1 : Int) = 3; decide)) (isK_2 h (by show ¬ (1 : Int) = 2; decide)) (.plain (.group h (by show ¬ (1 : Int) = 5; decide) (by show ¬ (1 : Int) = 6; decide) (by show ¬ (1 : Int) = 4; decide) (by show ¬ (1 : Int) = 0; decide) (.shut h9 hi h2)) h4) hr
theorem pc_rep {ts : List Tok} {k : Nat} {g : Int} {c : UInt8} {u : Tok} {ms ms' : List MT} {k2 : Nat} {g2 : Int} {b2 : Bool} (h : ts[k]? = some (litT c)) (h4 : ts[k + 1]? = some u) (hu : u.k = 4) (hr : RPcs ts (k + 1 + 1) g false (ms ++ [.mk 4 s0 u.mi u.ma 0 nilS [oneM c]]) ms' k2 g2 b2) : RPcs ts k g false ms ms' k2 g2 b2 :=
  .piece (isK_2 h (by show ¬ (0 : Int) = 3; decide)) (isK_2 h (by show ¬ (0 : Int) = 2; decide)) (.rep (.set h rfl) h4 hu) hr
def alL : List UInt8 := [40, 97, 124, 97, 98, 41, 40, 99, 124, 98, 99, 100, 41, 40, 100, 42, 41]
def alTs : List Tok := [kT 1, litT 97, kT 3, litT 97, litT 98, kT 2, kT 1, litT 99, kT 3, litT 98, litT 99, litT 100, kT 2, kT 1, litT 100, timesT 0 (-1), kT 2]
def rowM (q : List MT) : MT := .mk 2 s0 0 0 0 nilS q
def eiM (q : List MT) : MT := .mk 3 s0 0 0 0 nilS q
def grM (n : Int) (t : MT) : MT := .mk 5 s0 0 0 n nilS [t]
def reM (mi ma : Int) (t : MT) : MT := .mk 4 s0 mi ma 0 nilS [t]
def alT : MT := rowM [grM 1 (eiM [oneM 97, rowM [oneM 97, oneM 98]]), grM 2 (eiM [oneM 99, rowM [oneM 98, oneM 99, oneM 100]]), grM 3 (reM 0 (-1) (oneM 100))]
theorem al_tok : tokF (tokX true) alL [] 0 = some alTs := rfl
theorem al_ok : ∀ c : UInt8, c ∈ alL → okC c := by
  intro c hc
  simp only [alL, List.mem_cons, List.not_mem_nil, or_false] at hc
  rcases hc with rfl | rfl | rfl | rfl | rfl | rfl | rfl | rfl | rfl | rfl | rfl | rfl | rfl | rfl | rfl | rfl | rfl <;> (unfold okC; decide)
theorem al_1 : RAll alTs 1 1 false (eiM [oneM 97, rowM [oneM 97, oneM 98]]) 5 1 false :=
  .many (.one (pc_lit rfl rfl (.stop (.inr (.inr (.inl rfl)))))) (.more rfl (.many (pc_lit rfl rfl (pc_lit rfl rfl (.stop (.inr (.inr (.inr rfl)))))) (by decide)) (.stop (.inr rfl))) (by decide)
theorem al_2 : RAll alTs 7 2 false (eiM [oneM 99, rowM [oneM 98, oneM 99, oneM 100]]) 12 2 false :=
  .many (.one (pc_lit rfl rfl (.stop (.inr (.inr (.inl rfl)))))) (.more rfl (.many (pc_lit rfl rfl (pc_lit rfl rfl (pc_lit rfl rfl (.stop (.inr (.inr (.inr rfl))))))) (by decide)) (.stop (.inr rfl))) (by decide)
theorem al_3 : RAll alTs 14 3 false (reM 0 (-1) (oneM 100)) 16 3 false :=
  .one (.one (pc_rep rfl rfl rfl (.stop (.inr (.inr (.inr rfl)))))) (.stop (.inr rfl))
theorem al_all : RAll alTs 0 0 false alT 17 3 false :=
  .one (.many (pc_grp rfl (by decide) al_1 rfl rfl (pc_grp rfl (by decide) al_2 rfl rfl (pc_grp rfl (by decide) al_3 rfl rfl (.stop (.inl (by decide)))))) (by decide)) (.stop (.inr rfl))
def alX : Tx := ⟨[120, 97, 98, 99, 100], true⟩
theorem al_find : (findR alX (er alT) 0).2 = true ∧ ((findR alX (er alT) 0).1 0).1 = 1 ∧ ((findR alX (er alT) 0).1 0).2 = 5 ∧ ((findR alX (er alT) 0).1 1).2 = 3 ∧ ((findR alX (er alT) 0).1 3).1 = 4 := by decide +kernel
theorem alive_is {x : MT × Int} (h : parX true alL x) : x.2 = 0 ∧ ∃ r : Spn × Bool, findR alX x.1 0 = r ∧ r.2 = true ∧ (r.1 0).1 = 1 ∧ (r.1 0).2 = 5 ∧ (r.1 1).2 = 3 ∧ (r.1 3).1 = 4 := by
  obtain ⟨h0, h1⟩ := parX_is h al_ok (by decide) (by decide) al_tok al_all (by decide)
  have h2 := al_find
  rw [← h1, findR_er] at h2
  exact ⟨h0, _, rfl, h2⟩
theorem maxHere_of {w : World} (h : w.ShapedOpen Try.prog) : MaxHere w :=
  int_of_shape (g := 0) (t := 3) (zero := #[.int .i64 0]) h (Nat.le_of_ble_eq_true (by kernel_rfl)) (by kernel_rfl) rfl (by kernel_rfl) (by kernel_rfl) Try.underlying3

theorem nC_one_rd {t : MT} (h : ∃ p n c, t.v = .slice p n c) : (nC t).all (·.oneCell') = true := by
  cases t with | mk k s mi ma nu v q =>
  obtain ⟨p, n, c, rfl⟩ := h
  rfl
theorem g_shape {N : Nat} {R : Regs} {W0 : World} {F : List Nat} {L : List Ent} {X : Act → World → Prop} {t : MT} {ts : List MT} (i : Nat) (hi : L[i]? = some (.forest (t :: ts))) (h : (∃ p n c, t.v = .slice p n c) → G N R (St W0 F L) X) : G N R (St W0 F L) X := fun a w hR hS => by
  obtain ⟨k, s, mi, ma, nu, p, c, q, rfl⟩ := rd_v (forest_rd hS hi)
  exact h ⟨_, _, _, rfl⟩ a w hR hS

set_option maxRecDepth 100000 in
theorem alive_any (w : World) (hz : MaxHere w) :
    Calls Try.prog 13 #[] w fun e w' => e = .returned (.bool true) ∧ Below w.heap.size w w' := by
 refine fn_intro Try.func13 rfl Try.ntmps13 rfl rfl ?_
 refine s_ (o_ ?_)
 refine xg 1 [] rfl rfl ?_
 refine ntso_ ?_
 refine g_callNew (fun x : {x : MT × Int // parX true alL x} => .tuple #[.agg (nC x.1.1).toArray, .int .i64 x.1.2]) (fun x => [.forest [x.1.1]]) rfl rfl rfl Try.call16 (fun w hS => parse_xe alL w (hS.maxHere hz (by simp))) ?_
 rintro ⟨⟨t, ern⟩, hpar⟩
 obtain ⟨h0, r, hr, r1, r2, r3, r4, r5⟩ := alive_is hpar
 dsimp only at h0 hr
 subst h0
 refine g_shape 0 rfl (fun hto => ?_)
 dsimp only
 simp only [List.cons_append, List.nil_append]
 refine xg 1 [] rfl rfl ?_
 refine g_val (v := .agg (nC t).toArray) rfl rfl rfl (y_extract rfl rfl) ?_
 refine xg 1 [] rfl rfl ?_
 refine g_alloc rfl rfl Try.zeroValue28 rfl (fun b1 => ?_)
 refine g_stN (vs := nC t) 0 rfl rfl rfl (by kernel_rfl) (nC_one_rd hto) rfl rfl (nC_len _) ?_
 simp only [List.set_cons_zero]
 refine xg 1 [] rfl rfl ?_
 refine ntso_ ?_
 refine g_val (v := .agg (nC t).toArray) rfl rfl rfl (y_ldN (vs := nC t) 0 rfl Try.isAgg28 Try.sizeOf28 rfl (by rw [List.drop_zero, List.take_of_length_le (by rw [nC_len]; decide)]) (nC_len _)) ?_
 refine g_c1 (m_find alX t 0 (by decide) (by have := parX_size hpar; dsimp only at this; omega)) (fun w hS => forest_rd hS (i := 1) rfl) rfl rfl rfl ?_
 rw [hr, r1]
 refine xg 3 [] rfl rfl ?_
 refine g_alloc rfl rfl Try.zeroValue36 rfl (fun b2 => ?_)
 refine xg 2 [0] rfl (by omega) ?_
 refine ntso_ ?_
 refine xg 2 [0] rfl rfl ?_
 refine g_lit 15 true rfl (decide_eq_true rfl) ?_
 refine xg 28 [0,1,0,1,0,1,0,1] rfl (by omega) ?_
 refine n_ (t_ (g_ret ?_))
 refine g_end1 Try.results13 rfl ?_
 exact fun w hS => ⟨rfl, hS.below⟩

end Go.Proofs.Ytfcamlkbkehlnaa

/- The document's Parse, loosely; MatchPatterns. -/
namespace Go.Proofs.Ytfcamlkbkehlnaa
open Go Go.RowKit

theorem run_eqSp9 (a b c e : Int) (w : World) : (Op.equalIn 10000 34 (.agg #[.int .i64 a, .int .i64 b]) (.agg #[.int .i64 c, .int .i64 e])).run Try.prog w = .ok (a == c && b == e) w := by
  have u3 := Try.underlying3
  rw [show (10000 : Nat) = 9999 + 1 from rfl, Op.equalIn]
  simp only [Sem.run_bind, run_underlying Try.underlying34, Result.andThen_ok]
  go_simp
  by_cases h1 : a = c <;> by_cases h2 : b = e <;> simp [h1, h2]
theorem run_eqMt9 (m : Spn) (w : World) : (Op.equalIn 10000 36 (.agg (spC m).toArray) (.agg (spC m).toArray)).run Try.prog w = .ok true w := by
  rw [show (10000 : Nat) = 9999 + 1 from rfl, Op.equalIn]
  unfold spC
  simp only [Sem.run_bind, run_underlying Try.underlying36, Result.andThen_ok]
  simp only [Std.Legacy.Range.forIn_eq_forIn_range', Std.Legacy.Range.size, Nat.sub_zero, Nat.add_sub_cancel, Nat.div_one, List.range'_succ, List.range'_zero, List.forIn_cons, List.forIn_nil]
  go_simp
section
variable {N : Nat} {R : Regs} {S : World → Prop} {dst : Option Tmp} {ty t' : TypeId} {pos : String} {af : Array Edge} {gd : Option (Nat × Bool)} {x y : Operand}
theorem y_spEq9 {a b c e : Int} (hx : ev R x = some (.agg #[.int .i64 a, .int .i64 b])) (hy : ev R y = some (.agg #[.int .i64 c, .int .i64 e])) : Yv Try.prog N R S ⟨dst, .binOp .eql 34 x y t', ty, pos, af, gd⟩ (.bool (a == c && b == e)) :=
  y_bin hx hy fun w => by
    rw [Sem.run_bind, run_eqGuard_agg w _ _ _ _ _ _ (by kernel_rfl), Result.andThen_ok, run_eql_struct, run_eqSp9]; rfl
theorem y_spNe9 {a b c e : Int} (hx : ev R x = some (.agg #[.int .i64 a, .int .i64 b])) (hy : ev R y = some (.agg #[.int .i64 c, .int .i64 e])) : Yv Try.prog N R S ⟨dst, .binOp .neq 34 x y t', ty, pos, af, gd⟩ (.bool (!(a == c && b == e))) :=
  y_bin hx hy fun w => by
    rw [Sem.run_bind, run_eqGuard_agg w _ _ _ _ _ _ (by kernel_rfl), Result.andThen_ok, run_neq_struct, run_eqSp9]; rfl
theorem y_mtEq9 (m : Spn) (hx : ev R x = some (.agg (spC m).toArray)) (hy : ev R y = some (.agg (spC m).toArray)) : Yv Try.prog N R S ⟨dst, .binOp .eql 36 x y t', ty, pos, af, gd⟩ (.bool true) :=
  y_bin hx hy fun w => by
    rw [Sem.run_bind, run_eqGuard_agg w _ _ _ _ _ _ (by kernel_rfl), Result.andThen_ok, run_eql_struct, run_eqMt9]; rfl
end

set_option maxRecDepth 100000 in
theorem parse10 (l : List UInt8) (hl : l.length ≤ maxLen) (ex : Bool) (w : World) :
    Calls Try.prog 12 #[st8 l, .bool ex] w fun e w' => ∃ x : {x : MT × Int // x.2 = 0 → x.1.nb ∧ wT x.1 ≤ 1000}, e = .returned (.tuple #[.agg (nC x.1.1).toArray, .int .i64 x.1.2]) ∧ St w [] [.forest [x.1.1]] w' := by
 have hszl := size_mk l
 have hmax : maxLen = 9223372036854775807 := rfl
 refine fn_intro Try.func12 rfl Try.ntmps12 rfl rfl ?_
 refine s_ (o_ ?_)
 refine g_alloc rfl rfl Try.zeroValue28 rfl (fun bo => ?_)
 refine xg 1 [] rfl rfl ?_
 refine n_ (t_ (s_ (s_ ?_)))
 refine g_cutc (α := {b : Bool // b = false → 1 ≤ l.length ∧ l.length ≤ 200}) (fun x => [(0, st8 l), (1, .bool ex), (4, .pointer (some ⟨bo, 0, none⟩)), (15, .bool x.1)]) (fun x => [.cells bo 28 (nC (MT.mk 0 s0 0 0 0 (Value.slice none 0 0) []))]) ?_ ?_
 ·rintro ⟨b15, hb15⟩
  try dsimp only
  refine t_ ?_
  first | refine g_casep 15 rfl (fun h1 => ?_) fun h1 => ?_ | refine g_caseb 15 rfl (fun h1 => ?_) fun h1 => ?_
  ·refine g_cond_t rfl (s_ ?_)
   refine g_leaf 0 s0 0 0 0 ?_
   refine o_ ?_
   refine xg 3 [1] rfl (by omega) ?_
   refine n_ (t_ (g_ret (g_then_ret ?_)))
   refine g_end_cell2 1 Try.results12 rfl rfl rfl Try.isAgg28 Try.sizeOf28 rfl ?_
   exact fun w hS => ⟨⟨((MT.mk 0 s0 0 0 0 (Value.slice none 0 0) []), 91), fun h => absurd h (by decide)⟩, rfl, hS.pick [0] rfl⟩
  refine g_cond_f rfl (g_skip (t_ (s_ ?_)))
  have hb16 := hb15 (by assumption)
  have hl2 := hb16.2
  refine o_ ?_
  refine xg 3 [] rfl rfl ?_
  refine g_box rfl rfl rfl rfl (fun rb => ?_)
  refine xg 1 [] rfl rfl ?_
  refine ntso_ ?_
  refine xg 1 [] rfl rfl ?_
  refine g_callOwn (L0 := [.cells rb 56 [st8 l, .int .i64 ((0 : Nat) : Int), .bool ex, .int .i64 ((0 : Nat) : Int), .bool false]]) (fun x : {x : MT × Nat × Nat × Bool // GX l 0 0 1 x} => .agg (nC x.1.1).toArray) (fun x => [.cells rb 56 [st8 l, .int .i64 (x.1.2.1 : Int), .bool ex, .int .i64 (x.1.2.2.1 : Int), .bool x.1.2.2.2], .forest [x.1.1]]) rfl rfl rfl Try.call22 (fun w hS => all_ok10 l hl2 ex l.length 0 (by omega) rb 0 false _ w (by omega) (by omega) hS.part) ?_
  rintro ⟨⟨⟨nka, nsa, nma, nxa, nua, nva, nqa⟩, ia, ga, bda⟩, hxa⟩
  obtain ⟨hxaa, hxba, hxca, hxda, hxea⟩ := hxa
  dsimp only at hxaa hxba hxca hxda hxea ⊢
  simp only [List.cons_append, List.nil_append]
  refine g_kids 1 rfl (fun pva cva hva => ?_)
  subst hva
  refine g_alloc rfl rfl Try.zeroValue28 rfl (fun bt_ => ?_)
  refine xg 1 [0] rfl (by omega) ?_
  refine n_ (t_ (s_ (s_ (o_ ?_))))
  refine xg 5 [1] rfl (by omega) ?_
  first | refine g_casep 27 rfl (fun h2 => ?_) fun h2 => ?_ | refine g_caseb 27 rfl (fun h2 => ?_) fun h2 => ?_
  ·refine xg 8 [] rfl rfl ?_
   refine n_ (t_ (g_cond_t rfl (s_ ?_)))
   refine g_leaf 0 s0 0 0 0 ?_
   refine o_ ?_
   refine xg 3 [4] rfl (by omega) ?_
   refine n_ (t_ (g_ret (g_then_ret ?_)))
   refine g_end_cell2 4 Try.results12 rfl rfl rfl Try.isAgg28 Try.sizeOf28 rfl ?_
   exact fun w hS => ⟨⟨((MT.mk 0 s0 0 0 0 (Value.slice none 0 0) []), 91), fun h => absurd h (by decide)⟩, rfl, hS.pick [0] rfl⟩
  refine xg 5 [1] rfl (by omega) ?_
  refine g_val (v := .int .i64 (l.length : Int)) rfl rfl rfl (y_val (y_slen rfl Try.underlying9) (by rw [size_mk])) ?_
  refine xg 2 [0] rfl rfl ?_
  refine n_ (t_ ?_)
  refine g_casep 35 rfl (fun h3 => ?_) fun h3 => ?_
  ·refine g_cond_t rfl (s_ ?_)
   refine g_leaf 0 s0 0 0 0 ?_
   refine o_ ?_
   refine xg 3 [4] rfl (by omega) ?_
   refine n_ (t_ (g_ret (g_then_ret ?_)))
   refine g_end_cell2 4 Try.results12 rfl rfl rfl Try.isAgg28 Try.sizeOf28 rfl ?_
   exact fun w hS => ⟨⟨((MT.mk 0 s0 0 0 0 (Value.slice none 0 0) []), 91), fun h => absurd h (by decide)⟩, rfl, hS.pick [0] rfl⟩
  refine g_cond_f rfl (g_skip (t_ (s_ (o_ ?_))))
  refine xg 3 [0,3] rfl (by omega) ?_
  refine n_ (t_ (g_ret ?_))
  refine g_end_cell2 3 Try.results12 rfl rfl rfl Try.isAgg28 Try.sizeOf28 rfl ?_
  obtain rfl : bda = false := by first | assumption | (cases bda <;> first | rfl | contradiction)
  have h2 := hxea rfl
  exact fun w hS => ⟨⟨((MT.mk nka nsa nma nxa nua (Value.slice pva nqa.length cva) nqa), 0), fun _ => ⟨hxaa, by dsimp only; omega⟩⟩, rfl, hS.pick [2] rfl⟩
 intro hj
 refine o_ ?_
 refine xg 1 [] rfl rfl ?_
 refine g_val (v := .int .i64 (l.length : Int)) rfl rfl rfl (y_val (y_slen rfl Try.underlying9) (by rw [size_mk])) ?_
 refine xg 2 [0] rfl rfl ?_
 refine g_casep 11 rfl (fun h4 => ?_) fun h4 => ?_
 ·refine xg 4 [] rfl rfl ?_
  refine n_ ?_
  exact g_fall (hj ⟨_, by first | (intro h; cases h; done) | (intro h; have h9 := of_decide_eq_false h; omega)⟩) [0, 1, 4, 15] rfl (fun w h => h.pick [0] rfl)
 refine xg 1 [] rfl rfl ?_
 refine g_val (v := .int .i64 (l.length : Int)) rfl rfl rfl (y_val (y_slen rfl Try.underlying9) (by rw [size_mk])) ?_
 refine xg 2 [0] rfl rfl ?_
 refine n_ ?_
 exact g_fall (hj ⟨_, by first | (intro h; cases h; done) | (intro h; have h9 := of_decide_eq_false h; omega)⟩) [0, 1, 4, 15] rfl (fun w h => h.pick [0] rfl)

set_option maxHeartbeats 8000000 in
set_option maxRecDepth 100000 in
theorem mpat_any (l1 l2 : List UInt8) (ex : Bool) (hl1 : l1.length ≤ maxLen) (hl2 : l2.length ≤ maxLen) (w : World) (hz : MaxHere w) :
    Calls Try.prog 3 #[st8 l1, .bool ex, st8 l2] w fun e w' => e = .returned (.bool true) ∧ Below w.heap.size w w' := by
 have hmax : maxLen = 9223372036854775807 := rfl
 refine fn_intro Try.func3 rfl Try.ntmps3 rfl rfl ?_
 refine s_ (o_ ?_)
 refine xg 1 [] rfl rfl ?_
 refine ntso_ ?_
 refine xg 2 [] rfl rfl ?_
 refine g_callOwn (L0 := []) (fun x : {x : MT × Int // x.2 = 0 → x.1.nb ∧ wT x.1 ≤ 1000} => .tuple #[.agg (nC x.1.1).toArray, .int .i64 x.1.2]) (fun x => [.forest [x.1.1]]) rfl rfl rfl Try.call12 (fun w hS => parse10 l1 hl1 ex w) ?_
 rintro ⟨⟨⟨nka, nsa, nma, nxa, nua, nva, nqa⟩, er⟩, hx⟩
 dsimp only at hx ⊢
 simp only [List.cons_append, List.nil_append]
 refine g_kids 0 rfl (fun pva cva hva => ?_)
 subst hva
 refine xg 3 [] rfl rfl ?_
 refine g_alloc rfl rfl Try.zeroValue28 rfl (fun bn => ?_)
 refine xg 2 [0] rfl (by omega) ?_
 refine n_ (t_ (s_ (s_ (o_ ?_))))
 refine xg 1 [] rfl rfl ?_
 refine g_val (v := .int .i64 (l1.length : Int)) rfl rfl rfl (y_val (y_slen rfl Try.underlying9) (by rw [size_mk])) ?_
 refine xg 2 [0] rfl rfl ?_
 refine g_casep 22 rfl (fun h1 => ?_) fun h1 => ?_
 ·refine xg 8 [] rfl rfl ?_
  refine n_ (t_ (g_cond_t rfl (s_ (o_ ?_))))
  refine g_call1 rfl rfl rfl Try.call13 (fun w hS => alive_any w (hS.maxHere hz (by simp))) ?_
  refine xg 1 [] rfl rfl ?_
  refine n_ (t_ (g_ret (g_then_ret ?_)))
  refine g_end1 Try.results3 rfl ?_
  exact fun w hS => ⟨rfl, hS.below⟩
 refine xg 4 [0] rfl rfl ?_
 refine g_casep 26 rfl (fun h2 => ?_) fun h2 => ?_
 ·refine xg 4 [] rfl rfl ?_
  refine n_ (t_ (g_cond_t rfl (s_ (o_ ?_))))
  refine g_call1 rfl rfl rfl Try.call13 (fun w hS => alive_any w (hS.maxHere hz (by simp))) ?_
  refine xg 1 [] rfl rfl ?_
  refine n_ (t_ (g_ret (g_then_ret ?_)))
  refine g_end1 Try.results3 rfl ?_
  exact fun w hS => ⟨rfl, hS.below⟩
 refine xg 1 [] rfl rfl ?_
 refine g_val (v := .int .i64 (l2.length : Int)) rfl rfl rfl (y_val (y_slen rfl Try.underlying9) (by rw [size_mk])) ?_
 refine xg 2 [0] rfl rfl ?_
 refine n_ (t_ ?_)
 refine g_casep 30 rfl (fun h3 => ?_) fun h3 => ?_
 ·refine g_cond_t rfl (s_ (o_ ?_))
  refine g_call1 rfl rfl rfl Try.call13 (fun w hS => alive_any w (hS.maxHere hz (by simp))) ?_
  refine xg 1 [] rfl rfl ?_
  refine n_ (t_ (g_ret (g_then_ret ?_)))
  refine g_end1 Try.results3 rfl ?_
  exact fun w hS => ⟨rfl, hS.below⟩
 refine g_cond_f rfl (g_skip (t_ (s_ ?_)))
 obtain rfl : er = 0 := by omega
 have hgd := hx rfl
 refine g_cp9 1 rfl hgd.1 (fun hcp => ?_)
 obtain ⟨r, er⟩ : ∃ r, findR ⟨l2, true⟩ (MT.mk nka nsa nma nxa nua (Value.slice pva nqa.length cva) nqa) (0 : Int) = r := ⟨_, rfl⟩
 refine o_ ?_
 refine xg 2 [0] rfl (by omega) ?_
 refine g_c1 (m_find ⟨l2, true⟩ (MT.mk nka nsa nma nxa nua (Value.slice pva nqa.length cva) nqa) 0 (by show l2.length ≤ _; omega) (by omega)) (fun w hS => forest_rd hS (i := 1) rfl) rfl rfl rfl ?_
 rw [er]
 refine xg 3 [] rfl rfl ?_
 refine g_alloc rfl rfl Try.zeroValue36 rfl (fun bf => ?_)
 refine xg 2 [0] rfl (by omega) ?_
 refine ntso_ ?_
 refine xg 2 [1] rfl (by omega) ?_
 refine g_c1 (m_find10 ⟨l2, true⟩ (MT.mk nka nsa nma nxa nua (Value.slice pva nqa.length cva) nqa) 0 (by show l2.length ≤ _; omega) hcp) (fun w hS => forest_rd hS (i := 2) rfl) rfl rfl rfl ?_
 rw [er]
 refine xg 3 [] rfl rfl ?_
 refine g_alloc rfl rfl Try.zeroValue36 rfl (fun bg => ?_)
 refine xg 2 [0] rfl (by omega) ?_
 refine ntso_ ?_
 refine g_call1 rfl rfl rfl Try.call13 (fun w hS => alive_any w (hS.maxHere hz (by simp))) ?_
 refine xg 3 [1,0] rfl (by omega) ?_
 refine g_val (v := .bool true) rfl rfl rfl (y_mtEq9 r.1 rfl rfl) ?_
 refine xg 4 [] rfl rfl ?_
 refine g_val rfl rfl rfl (y_lit true (y_beq rfl rfl (by kernel_rfl)) (beq_self_eq_true _)) ?_
 refine xg 2 [] rfl rfl ?_
 refine n_ (t_ (g_ret ?_))
 refine g_end1 Try.results3 rfl ?_
 exact fun w hS => ⟨rfl, hS.below⟩

theorem mpat_law (s1 s2 : ByteArray) (ex : Bool) (h1 : s1.size ≤ maxLen) (h2 : s2.size ≤ maxLen) (w : World) (hsh : w.ShapedOpen Try.prog) : Calls Try.prog 3 #[.string s1, .bool ex, .string s2] w fun e w' => e = .returned (.bool true) ∧ Below w.heap.size w w' := by
  have h := mpat_any s1.data.toList s2.data.toList ex (by rw [Array.length_toList]; exact h1) (by rw [Array.length_toList]; exact h2) w (maxHere_of hsh)
  unfold st8 at h
  rw [Array.toArray_toList, Array.toArray_toList] at h
  exact h
end Go.Proofs.Ytfcamlkbkehlnaa

