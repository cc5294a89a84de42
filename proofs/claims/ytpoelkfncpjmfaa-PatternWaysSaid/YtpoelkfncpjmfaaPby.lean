/- PatternWays. -/
import Derived.Test.YtpoelkfncpjmfaaPbx
import Derived.Test.YtpoelkfncpjmfaaL
import Derived.Test.YtpoelkfncpjmfaaU
namespace Go.Proofs.Ytpoelkfncpjmfaa
open Go Go.RowKit
open Go.ChangeShapes Go.WideShapes Go.ChangeAt

theorem struct_key {H : Type} {enc : TypeId × Value → H} {P : Program} {t : TypeId} {fs : Array Field} {W : World} {base : Nat} {spare : Nat → Bool} {held : Bool} {n : Nat} {cs : List Value} {y : DataW H × List MemPlace} (ht : P.underlying t = some (.struct fs)) (h : DataW.trod enc P W base spare held n t cs = some y) :
    ∃ m, ∀ (j : Nat) (f : Field), fs[j]? = some f → ∀ o s ty, f.offset = o → P.cellsOf f.type = s → f.type = ty → ∃ y, DataW.trod enc P W base spare held m ty ((cs.drop o).take s) = some y := by
  obtain ⟨xs, m, _, _, _, hlen, hf⟩ := DataW.trod_struct ht h
  refine ⟨m, fun j f hjf o s ty ho hs hty => ?_⟩
  subst ho hs hty
  have hjl : j < fs.size := (Array.getElem?_eq_some_iff.1 hjf).1
  exact ⟨xs[j]'(by omega), by rw [← List.getElem?_eq_getElem]; exact hf j f hjf⟩
theorem shape_el {H : Type} {enc : TypeId × Value → H} {W : World} {base : Nat} {spare : Nat → Bool} {held : Bool} {n : Nat} {cs : List Value} {y : DataW H × List MemPlace} (h : DataW.trod enc Try.prog W base spare held n 57 cs = some y) (hl : cs.length = 5) :
    ∃ x : Sh, ∀ j, j < 5 → cs[j]? = some (shF (fun _ => x) 0 j) := by
  obtain ⟨m, key⟩ := struct_key Try.underlying57 h
  obtain ⟨a, b, c, d, e, rfl⟩ := list5 hl
  obtain ⟨y0, e0⟩ := key 0 _ rfl 0 1 4 rfl (by kernel_rfl) rfl
  obtain ⟨gb, z0, _⟩ := DataW.trod_bool Try.underlying4 e0
  obtain ⟨y1, e1⟩ := key 1 _ rfl 1 1 5 rfl (by kernel_rfl) rfl
  obtain ⟨cv, z1, _, w1⟩ := DataW.trod_int Try.underlying5 e1
  obtain ⟨y2, e2⟩ := key 2 _ rfl 2 1 4 rfl (by kernel_rfl) rfl
  obtain ⟨tb, z2, _⟩ := DataW.trod_bool Try.underlying4 e2
  obtain ⟨y3, e3⟩ := key 3 _ rfl 3 1 3 rfl (by kernel_rfl) rfl
  obtain ⟨mi, z3, _, w3⟩ := DataW.trod_int Try.underlying3 e3
  obtain ⟨y4, e4⟩ := key 4 _ rfl 4 1 3 rfl (by kernel_rfl) rfl
  obtain ⟨ma, z4, _, w4⟩ := DataW.trod_int Try.underlying3 e4
  obtain ⟨cu, rfl⟩ := u8_of w1
  obtain rfl : a = .bool gb := by simpa using z0
  obtain rfl : b = .int .u8 cu.toNat := by simpa using z1
  obtain rfl : c = .bool tb := by simpa using z2
  obtain rfl : d = .int .i64 mi := by simpa using z3
  obtain rfl : e = .int .i64 ma := by simpa using z4
  exact ⟨⟨gb, cu, tb, mi, ma, i64_of w3, i64_of w4⟩, fun j hj => by
    match j, hj with
    | 0, _ => rfl
    | 1, _ => rfl
    | 2, _ => rfl
    | 3, _ => rfl
    | 4, _ => rfl⟩
theorem PB_facts {ts : List MT} {a g : Int} (h : BT 1 0 ts a g) (hne : ts ≠ []) (v : Value) : szT (rowV v ts) ≤ 100 ∧ ∃ ps, er (rowV v ts) = er (rowM (mtL ps)) ∧ (∃ g', wfL ps 0 g') ∧ ps ≠ [] ∧ (∃ l, Wrt false (rowV v ts) l ∧ Says false l (tkL ps) ∧ l ≠ []) ∧ ∃ l, Wrt true (rowV v ts) l ∧ Says true l (tkL ps) ∧ l ≠ [] := by
  obtain ⟨h1, h2, h3, h4, h5, h6, ps, h7, h8, h9⟩ := h
  have hps : ps ≠ [] := fun q => by subst q; rw [mtL_nil] at h7; exact hne (List.length_eq_zero_iff.1 (erL_len h7))
  have := szT_row (v := v) (ts := ts)
  exact ⟨by omega, ps, er_row h7, ⟨_, h8⟩, hps, says_row false h7 h9 hps, says_row true h7 h9 hps⟩

set_option maxRecDepth 100000 in
theorem pways_any (f : Nat → Sh) (n cap : Nat) (p : Option Addr) (hn : n ≤ maxLen) (w : World) (hrd : RdSl w p n 5 (shF f)) (hz : MaxHere w) :
    Calls Try.prog 4 #[.slice p n cap] w fun e w' => e = .returned (.bool true) ∧ Below w.heap.size w w' := by
 refine fn_intro Try.func4 rfl Try.ntmps4 rfl rfl ?_
 refine s_ (o_ ?_)
 refine xg 1 [] rfl rfl ?_
 refine ntso_ ?_
 refine xg 1 [] rfl rfl ?_
 refine g_callNew (fun x : {x : Value × List MT × Int × Int // BT 1 0 x.2.1 x.2.2.1 x.2.2.2} => .tuple #[x.1.1, .int .i64 x.1.2.2.1, .int .i64 x.1.2.2.2]) (fun x => [.row 30 9 x.1.1 x.1.2.1.length (x.1.2.1.flatMap nC), .forest x.1.2.1]) rfl rfl rfl Try.call11 (fun w hS => built_any f n cap p hn 3 (Nat.le_refl 3) 0 1 w (by decide) (by decide) (by decide) (by decide) (rd_keep hrd hS)) ?_
 rintro ⟨⟨v, ts, a, g⟩, hbt⟩
 dsimp only at hbt
 simp only [List.cons_append, List.nil_append]
 rcases ts with _ | ⟨⟨k2, s2, m2, x2, u2, v2, q2⟩, _ | ⟨t3, ms2⟩⟩
 ·refine xg 1 [] rfl rfl ?_
  refine g_val (v := v) rfl rfl rfl (y_extract rfl rfl) ?_
  refine g_val (v := .int .i64 a) rfl rfl rfl (y_extract rfl rfl) ?_
  refine g_val (v := .int .i64 g) rfl rfl rfl (y_extract rfl rfl) ?_
  refine xg 3 [] rfl rfl ?_
  refine n_ (t_ (s_ (s_ (o_ ?_))))
  refine xg 1 [] rfl rfl ?_
  refine g_rowLen 0 rfl (fun pr1 cr1 hv1 => ?_)
  cases hv1
  refine g_val rfl rfl rfl (y_llen rfl Try.underlying28) ?_
  refine xg 1 [0] rfl rfl ?_
  refine g_lit 23 true rfl (by simp) ?_
  refine n_ (t_ (g_cond_t rfl (s_ (o_ ?_))))
  refine g_call1 rfl rfl rfl Try.call8 (fun w hS => alive_any w (hS.maxHere hz (by simp))) ?_
  refine xg 1 [] rfl rfl ?_
  refine n_ (t_ (g_ret (g_then_ret ?_)))
  refine g_end1 Try.results4 rfl ?_
  exact fun w hS => ⟨rfl, hS.below⟩
 ·refine g_kids 1 rfl (fun p2 c2 hv => ?_)
  cases hv
  have hone2 : ([.mk k2 s2 m2 x2 u2 (.slice p2 q2.length c2) q2] : List MT).length = 1 := rfl
  refine xg 1 [] rfl rfl ?_
  refine g_val (v := v) rfl rfl rfl (y_extract rfl rfl) ?_
  refine g_val (v := .int .i64 a) rfl rfl rfl (y_extract rfl rfl) ?_
  refine g_val (v := .int .i64 g) rfl rfl rfl (y_extract rfl rfl) ?_
  refine xg 3 [] rfl rfl ?_
  refine n_ (t_ (s_ (s_ (o_ ?_))))
  refine xg 1 [] rfl rfl ?_
  refine g_rowLen 0 rfl (fun pr2 cr2 hv2 => ?_)
  cases hv2
  refine g_val rfl rfl rfl (y_llen rfl Try.underlying28) ?_
  refine xg 1 [0] rfl rfl ?_
  refine g_lit 23 false rfl (by simp; try omega) ?_
  refine n_ (t_ (g_cond_f rfl (g_skip (t_ (s_ (o_ ?_))))))
  refine xg 1 [] rfl rfl ?_
  refine g_val (v := .agg (nC (.mk 2 s0 0 0 0 (.slice pr2 (([.mk k2 s2 m2 x2 u2 (.slice p2 q2.length c2) q2] : List MT).length) cr2) ([.mk k2 s2 m2 x2 u2 (.slice p2 q2.length c2) q2] : List MT))).toArray) rfl rfl rfl (y_builtE (z := nC (.mk 2 s0 0 0 0 (.slice pr2 (([.mk k2 s2 m2 x2 u2 (.slice p2 q2.length c2) q2] : List MT).length) cr2) ([.mk k2 s2 m2 x2 u2 (.slice p2 q2.length c2) q2] : List MT))) rfl (by kernel_rfl)) ?_
  refine g_alloc rfl rfl Try.zeroValue30 rfl (fun b1 => ?_)
  refine g_stN 0 rfl rfl rfl (by kernel_rfl) rfl rfl rfl (nC_len _) ?_
  simp only [List.set_cons_zero]
  refine n_ (t_ (s_ (s_ (o_ ?_))))
  refine xg 3 [0] rfl rfl ?_
  refine g_lit 29 true rfl (by simp) ?_
  refine n_ (t_ (g_cond_t rfl (o_ ?_)))
  refine xg 1 [] rfl rfl ?_
  refine g_rowCase 1 rfl (by omega) (fun gr3 cr3 hv3 => ?_)
  cases hv3
  refine g_val rfl rfl rfl (y_idxAddr (m := 0 * 9 + 0) rfl rfl Try.underlying28 Try.sizeOf30 (by omega) (by omega) (by omega)) ?_
  refine g_val (v := .agg (nC (.mk k2 s2 m2 x2 u2 (.slice p2 q2.length c2) q2)).toArray) rfl rfl rfl (y_ldRN (k := 9) (vs := nC (.mk k2 s2 m2 x2 u2 (.slice p2 q2.length c2) q2)) 1 rfl Try.isAgg30 Try.sizeOf30 rfl rfl rfl) ?_
  refine g_stN 0 rfl rfl rfl (by kernel_rfl) rfl rfl rfl (nC_len _) ?_
  simp only [List.set_cons_zero]
  refine n_ (t_ (s_ ?_))
  obtain ⟨hsz, ps, her, ⟨gg, hwf⟩, hps, ⟨l1, hw1, hs1, hl1⟩, ⟨l2, hw2, hs2, hl2⟩⟩ := PB_facts hbt (by simp) (nilS)
  have hz1 := size_mk l1
  have hz2 := size_mk l2
  refine o_ ?_
  refine g_val rfl rfl rfl (y_ldN (vs := nC (.mk k2 s2 m2 x2 u2 (.slice p2 q2.length c2) q2)) 0 rfl Try.isAgg30 Try.sizeOf30 rfl rfl rfl) ?_
  refine g_call1 rfl rfl rfl Try.call12 (fun w hS => writtenT (t := (.mk k2 s2 m2 x2 u2 (.slice p2 q2.length c2) q2)) hw1 w (okL_cons.1 (hS.get (i := 2) rfl)).1 (by first | omega | exact Nat.le_trans hsz (by decide))) ?_
  refine xg 1 [] rfl rfl ?_
  refine ntso_ ?_
  refine g_val rfl rfl rfl (y_ldN (vs := nC (.mk k2 s2 m2 x2 u2 (.slice p2 q2.length c2) q2)) 0 rfl Try.isAgg30 Try.sizeOf30 rfl rfl rfl) ?_
  refine g_call1 rfl rfl rfl Try.call12 (fun w hS => writtenT (t := (.mk k2 s2 m2 x2 u2 (.slice p2 q2.length c2) q2)) hw2 w (okL_cons.1 (hS.get (i := 2) rfl)).1 (by first | omega | exact Nat.le_trans hsz (by decide))) ?_
  refine xg 1 [] rfl rfl ?_
  refine n_ (t_ (s_ (s_ (o_ ?_))))
  refine xg 4 [0] rfl rfl ?_
  refine g_casep 40 rfl (fun h4 => ?_) fun h4 => ?_
  ·refine xg 4 [] rfl rfl ?_
   refine n_ (t_ (g_cond_t rfl (s_ (o_ ?_))))
   refine g_call1 rfl rfl rfl Try.call8 (fun w hS => alive_any w (hS.maxHere hz (by simp))) ?_
   refine xg 1 [] rfl rfl ?_
   refine n_ (t_ (g_ret (g_then_ret ?_)))
   refine g_end1 Try.results4 rfl ?_
   exact fun w hS => ⟨rfl, hS.below⟩
  refine xg 4 [0] rfl rfl ?_
  refine n_ (t_ ?_)
  refine g_casep 44 rfl (fun h5 => ?_) fun h5 => ?_
  ·refine g_cond_t rfl (s_ (o_ ?_))
   refine g_call1 rfl rfl rfl Try.call8 (fun w hS => alive_any w (hS.maxHere hz (by simp))) ?_
   refine xg 1 [] rfl rfl ?_
   refine n_ (t_ (g_ret (g_then_ret ?_)))
   refine g_end1 Try.results4 rfl ?_
   exact fun w hS => ⟨rfl, hS.below⟩
  refine g_cond_f rfl (g_skip (t_ (s_ (o_ ?_))))
  refine xg 1 [] rfl rfl ?_
  refine g_callNew (fun x : {x : MT × Int // parX false l1 x} => .tuple #[.agg (nC x.1.1).toArray, .int .i64 x.1.2]) (fun x => [.forest [x.1.1]]) rfl rfl rfl Try.call9 (fun w hS => parse_xb l1 w (hS.maxHere hz (by simp))) ?_
  rintro ⟨⟨⟨kx, sx, mx, xx, ux, vx, qx⟩, erx⟩, hpar⟩
  obtain ⟨h0, hex⟩ := par_says hwf hps hs1 hl1 (by omega) hpar
  dsimp only at h0 hex
  subst h0
  simp only [List.cons_append, List.nil_append]
  refine g_kids 0 rfl (fun px cx hv => ?_)
  cases hv
  refine xg 1 [] rfl rfl ?_
  refine g_val (v := .agg (nC (.mk kx sx mx xx ux (.slice px qx.length cx) qx)).toArray) rfl rfl rfl (y_extract rfl rfl) ?_
  refine xg 1 [] rfl rfl ?_
  refine g_alloc rfl rfl Try.zeroValue30 rfl (fun b2 => ?_)
  refine g_stN 0 rfl rfl rfl (by kernel_rfl) rfl rfl rfl (nC_len _) ?_
  simp only [List.set_cons_zero]
  refine xg 1 [] rfl rfl ?_
  refine ntso_ ?_
  refine xg 1 [] rfl rfl ?_
  refine g_callNew (fun x : {x : MT × Int // parX true l2 x} => .tuple #[.agg (nC x.1.1).toArray, .int .i64 x.1.2]) (fun x => [.forest [x.1.1]]) rfl rfl rfl Try.call9 (fun w hS => parse_xe l2 w (hS.maxHere hz (by simp))) ?_
  rintro ⟨⟨⟨ky, sy, my, xy, uy, vy, qy⟩, ery⟩, hpar⟩
  obtain ⟨h0, hey⟩ := par_says hwf hps hs2 hl2 (by omega) hpar
  dsimp only at h0 hey
  subst h0
  simp only [List.cons_append, List.nil_append]
  refine g_kids 0 rfl (fun py cy hv => ?_)
  cases hv
  refine xg 1 [] rfl rfl ?_
  refine g_val (v := .agg (nC (.mk ky sy my xy uy (.slice py qy.length cy) qy)).toArray) rfl rfl rfl (y_extract rfl rfl) ?_
  refine xg 1 [] rfl rfl ?_
  refine g_alloc rfl rfl Try.zeroValue30 rfl (fun b3 => ?_)
  refine g_stN 0 rfl rfl rfl (by kernel_rfl) rfl rfl rfl (nC_len _) ?_
  simp only [List.set_cons_zero]
  refine xg 1 [] rfl rfl ?_
  refine ntso_ ?_
  refine g_val rfl rfl rfl (y_ldN (vs := nC (.mk kx sx mx xx ux (.slice px qx.length cx) qx)) 2 rfl Try.isAgg30 Try.sizeOf30 rfl rfl rfl) ?_
  refine g_val rfl rfl rfl (y_ldN (vs := nC (.mk k2 s2 m2 x2 u2 (.slice p2 q2.length c2) q2)) 4 rfl Try.isAgg30 Try.sizeOf30 rfl rfl rfl) ?_
  refine g_call1 rfl rfl rfl Try.call13 (fun w hS => same_yes (t := (.mk kx sx mx xx ux (.slice px qx.length cx) qx)) (u := (.mk k2 s2 m2 x2 u2 (.slice p2 q2.length c2) q2)) (hex.trans her.symm) w (okL_cons.1 (hS.get (i := 3) rfl)).1 (okL_cons.1 (hS.get (i := 6) rfl)).1) ?_
  refine xg 1 [] rfl rfl ?_
  refine ntso_ ?_
  refine g_val rfl rfl rfl (y_ldN (vs := nC (.mk ky sy my xy uy (.slice py qy.length cy) qy)) 0 rfl Try.isAgg30 Try.sizeOf30 rfl rfl rfl) ?_
  refine g_val rfl rfl rfl (y_ldN (vs := nC (.mk k2 s2 m2 x2 u2 (.slice p2 q2.length c2) q2)) 4 rfl Try.isAgg30 Try.sizeOf30 rfl rfl rfl) ?_
  refine g_call1 rfl rfl rfl Try.call13 (fun w hS => same_yes (t := (.mk ky sy my xy uy (.slice py qy.length cy) qy)) (u := (.mk k2 s2 m2 x2 u2 (.slice p2 q2.length c2) q2)) (hey.trans her.symm) w (okL_cons.1 (hS.get (i := 1) rfl)).1 (okL_cons.1 (hS.get (i := 6) rfl)).1) ?_
  refine xg 1 [] rfl rfl ?_
  refine ntso_ ?_
  refine g_call1 rfl rfl rfl Try.call8 (fun w hS => alive_any w (hS.maxHere hz (by simp))) ?_
  refine xg 15 [1,1] rfl (by omega) ?_
  refine n_ (t_ (g_ret ?_))
  refine g_end1 Try.results4 rfl ?_
  exact fun w hS => ⟨rfl, hS.below⟩
 refine xg 1 [] rfl rfl ?_
 refine g_val (v := v) rfl rfl rfl (y_extract rfl rfl) ?_
 refine g_val (v := .int .i64 a) rfl rfl rfl (y_extract rfl rfl) ?_
 refine g_val (v := .int .i64 g) rfl rfl rfl (y_extract rfl rfl) ?_
 refine xg 3 [] rfl rfl ?_
 refine n_ (t_ (s_ (s_ (o_ ?_))))
 refine xg 1 [] rfl rfl ?_
 refine g_rowLen 0 rfl (fun pr6 cr6 hv6 => ?_)
 cases hv6
 refine g_val rfl rfl rfl (y_llen rfl Try.underlying28) ?_
 refine xg 1 [0] rfl rfl ?_
 refine g_lit 23 false rfl (by simp; try omega) ?_
 refine n_ (t_ (g_cond_f rfl (g_skip (t_ (s_ (o_ ?_))))))
 refine xg 1 [] rfl rfl ?_
 refine g_val (v := .agg (nC (.mk 2 s0 0 0 0 (.slice pr6 ((.mk k2 s2 m2 x2 u2 v2 q2 :: t3 :: ms2).length) cr6) (.mk k2 s2 m2 x2 u2 v2 q2 :: t3 :: ms2))).toArray) rfl rfl rfl (y_builtE (z := nC (.mk 2 s0 0 0 0 (.slice pr6 ((.mk k2 s2 m2 x2 u2 v2 q2 :: t3 :: ms2).length) cr6) (.mk k2 s2 m2 x2 u2 v2 q2 :: t3 :: ms2))) rfl (by kernel_rfl)) ?_
 refine g_alloc rfl rfl Try.zeroValue30 rfl (fun b4 => ?_)
 refine g_stN 0 rfl rfl rfl (by kernel_rfl) rfl rfl rfl (nC_len _) ?_
 simp only [List.set_cons_zero]
 refine n_ (t_ (s_ (s_ (o_ ?_))))
 refine xg 3 [0] rfl rfl ?_
 refine g_lit 29 false rfl (by simp; try omega) ?_
 refine n_ (t_ (g_cond_f rfl (g_skip (t_ (s_ ?_)))))
 obtain ⟨hsz, ps, her, ⟨gg, hwf⟩, hps, ⟨l1, hw1, hs1, hl1⟩, ⟨l2, hw2, hs2, hl2⟩⟩ := PB_facts hbt (by simp) ((.slice pr6 ((.mk k2 s2 m2 x2 u2 v2 q2 :: t3 :: ms2).length) cr6))
 have hz1 := size_mk l1
 have hz2 := size_mk l2
 refine o_ ?_
 refine g_val rfl rfl rfl (y_ldN (vs := nC (.mk 2 s0 0 0 0 (.slice pr6 ((.mk k2 s2 m2 x2 u2 v2 q2 :: t3 :: ms2).length) cr6) (.mk k2 s2 m2 x2 u2 v2 q2 :: t3 :: ms2))) 0 rfl Try.isAgg30 Try.sizeOf30 rfl rfl rfl) ?_
 refine g_call1 rfl rfl rfl Try.call12 (fun w hS => writtenT (t := (.mk 2 s0 0 0 0 (.slice pr6 ((.mk k2 s2 m2 x2 u2 v2 q2 :: t3 :: ms2).length) cr6) (.mk k2 s2 m2 x2 u2 v2 q2 :: t3 :: ms2))) hw1 w (ok_mk.2 ⟨hS.get (i := 1) rfl, hS.get (i := 2) rfl⟩) (by first | omega | exact Nat.le_trans hsz (by decide))) ?_
 refine xg 1 [] rfl rfl ?_
 refine ntso_ ?_
 refine g_val rfl rfl rfl (y_ldN (vs := nC (.mk 2 s0 0 0 0 (.slice pr6 ((.mk k2 s2 m2 x2 u2 v2 q2 :: t3 :: ms2).length) cr6) (.mk k2 s2 m2 x2 u2 v2 q2 :: t3 :: ms2))) 0 rfl Try.isAgg30 Try.sizeOf30 rfl rfl rfl) ?_
 refine g_call1 rfl rfl rfl Try.call12 (fun w hS => writtenT (t := (.mk 2 s0 0 0 0 (.slice pr6 ((.mk k2 s2 m2 x2 u2 v2 q2 :: t3 :: ms2).length) cr6) (.mk k2 s2 m2 x2 u2 v2 q2 :: t3 :: ms2))) hw2 w (ok_mk.2 ⟨hS.get (i := 1) rfl, hS.get (i := 2) rfl⟩) (by first | omega | exact Nat.le_trans hsz (by decide))) ?_
 refine xg 1 [] rfl rfl ?_
 refine n_ (t_ (s_ (s_ (o_ ?_))))
 refine xg 4 [0] rfl rfl ?_
 refine g_casep 40 rfl (fun h7 => ?_) fun h7 => ?_
 ·refine xg 4 [] rfl rfl ?_
  refine n_ (t_ (g_cond_t rfl (s_ (o_ ?_))))
  refine g_call1 rfl rfl rfl Try.call8 (fun w hS => alive_any w (hS.maxHere hz (by simp))) ?_
  refine xg 1 [] rfl rfl ?_
  refine n_ (t_ (g_ret (g_then_ret ?_)))
  refine g_end1 Try.results4 rfl ?_
  exact fun w hS => ⟨rfl, hS.below⟩
 refine xg 4 [0] rfl rfl ?_
 refine n_ (t_ ?_)
 refine g_casep 44 rfl (fun h8 => ?_) fun h8 => ?_
 ·refine g_cond_t rfl (s_ (o_ ?_))
  refine g_call1 rfl rfl rfl Try.call8 (fun w hS => alive_any w (hS.maxHere hz (by simp))) ?_
  refine xg 1 [] rfl rfl ?_
  refine n_ (t_ (g_ret (g_then_ret ?_)))
  refine g_end1 Try.results4 rfl ?_
  exact fun w hS => ⟨rfl, hS.below⟩
 refine g_cond_f rfl (g_skip (t_ (s_ (o_ ?_))))
 refine xg 1 [] rfl rfl ?_
 refine g_callNew (fun x : {x : MT × Int // parX false l1 x} => .tuple #[.agg (nC x.1.1).toArray, .int .i64 x.1.2]) (fun x => [.forest [x.1.1]]) rfl rfl rfl Try.call9 (fun w hS => parse_xb l1 w (hS.maxHere hz (by simp))) ?_
 rintro ⟨⟨⟨kx, sx, mx, xx, ux, vx, qx⟩, erx⟩, hpar⟩
 obtain ⟨h0, hex⟩ := par_says hwf hps hs1 hl1 (by omega) hpar
 dsimp only at h0 hex
 subst h0
 simp only [List.cons_append, List.nil_append]
 refine g_kids 0 rfl (fun px cx hv => ?_)
 cases hv
 refine xg 1 [] rfl rfl ?_
 refine g_val (v := .agg (nC (.mk kx sx mx xx ux (.slice px qx.length cx) qx)).toArray) rfl rfl rfl (y_extract rfl rfl) ?_
 refine xg 1 [] rfl rfl ?_
 refine g_alloc rfl rfl Try.zeroValue30 rfl (fun b5 => ?_)
 refine g_stN 0 rfl rfl rfl (by kernel_rfl) rfl rfl rfl (nC_len _) ?_
 simp only [List.set_cons_zero]
 refine xg 1 [] rfl rfl ?_
 refine ntso_ ?_
 refine xg 1 [] rfl rfl ?_
 refine g_callNew (fun x : {x : MT × Int // parX true l2 x} => .tuple #[.agg (nC x.1.1).toArray, .int .i64 x.1.2]) (fun x => [.forest [x.1.1]]) rfl rfl rfl Try.call9 (fun w hS => parse_xe l2 w (hS.maxHere hz (by simp))) ?_
 rintro ⟨⟨⟨ky, sy, my, xy, uy, vy, qy⟩, ery⟩, hpar⟩
 obtain ⟨h0, hey⟩ := par_says hwf hps hs2 hl2 (by omega) hpar
 dsimp only at h0 hey
 subst h0
 simp only [List.cons_append, List.nil_append]
 refine g_kids 0 rfl (fun py cy hv => ?_)
 cases hv
 refine xg 1 [] rfl rfl ?_
 refine g_val (v := .agg (nC (.mk ky sy my xy uy (.slice py qy.length cy) qy)).toArray) rfl rfl rfl (y_extract rfl rfl) ?_
 refine xg 1 [] rfl rfl ?_
 refine g_alloc rfl rfl Try.zeroValue30 rfl (fun b6 => ?_)
 refine g_stN 0 rfl rfl rfl (by kernel_rfl) rfl rfl rfl (nC_len _) ?_
 simp only [List.set_cons_zero]
 refine xg 1 [] rfl rfl ?_
 refine ntso_ ?_
 refine g_val rfl rfl rfl (y_ldN (vs := nC (.mk kx sx mx xx ux (.slice px qx.length cx) qx)) 2 rfl Try.isAgg30 Try.sizeOf30 rfl rfl rfl) ?_
 refine g_val rfl rfl rfl (y_ldN (vs := nC (.mk 2 s0 0 0 0 (.slice pr6 ((.mk k2 s2 m2 x2 u2 v2 q2 :: t3 :: ms2).length) cr6) (.mk k2 s2 m2 x2 u2 v2 q2 :: t3 :: ms2))) 4 rfl Try.isAgg30 Try.sizeOf30 rfl rfl rfl) ?_
 refine g_call1 rfl rfl rfl Try.call13 (fun w hS => same_yes (t := (.mk kx sx mx xx ux (.slice px qx.length cx) qx)) (u := (.mk 2 s0 0 0 0 (.slice pr6 ((.mk k2 s2 m2 x2 u2 v2 q2 :: t3 :: ms2).length) cr6) (.mk k2 s2 m2 x2 u2 v2 q2 :: t3 :: ms2))) (hex.trans her.symm) w (okL_cons.1 (hS.get (i := 3) rfl)).1 (ok_mk.2 ⟨hS.get (i := 5) rfl, hS.get (i := 6) rfl⟩)) ?_
 refine xg 1 [] rfl rfl ?_
 refine ntso_ ?_
 refine g_val rfl rfl rfl (y_ldN (vs := nC (.mk ky sy my xy uy (.slice py qy.length cy) qy)) 0 rfl Try.isAgg30 Try.sizeOf30 rfl rfl rfl) ?_
 refine g_val rfl rfl rfl (y_ldN (vs := nC (.mk 2 s0 0 0 0 (.slice pr6 ((.mk k2 s2 m2 x2 u2 v2 q2 :: t3 :: ms2).length) cr6) (.mk k2 s2 m2 x2 u2 v2 q2 :: t3 :: ms2))) 4 rfl Try.isAgg30 Try.sizeOf30 rfl rfl rfl) ?_
 refine g_call1 rfl rfl rfl Try.call13 (fun w hS => same_yes (t := (.mk ky sy my xy uy (.slice py qy.length cy) qy)) (u := (.mk 2 s0 0 0 0 (.slice pr6 ((.mk k2 s2 m2 x2 u2 v2 q2 :: t3 :: ms2).length) cr6) (.mk k2 s2 m2 x2 u2 v2 q2 :: t3 :: ms2))) (hey.trans her.symm) w (okL_cons.1 (hS.get (i := 1) rfl)).1 (ok_mk.2 ⟨hS.get (i := 5) rfl, hS.get (i := 6) rfl⟩)) ?_
 refine xg 1 [] rfl rfl ?_
 refine ntso_ ?_
 refine g_call1 rfl rfl rfl Try.call8 (fun w hS => alive_any w (hS.maxHere hz (by simp))) ?_
 refine xg 15 [1,1] rfl (by omega) ?_
 refine n_ (t_ (g_ret ?_))
 refine g_end1 Try.results4 rfl ?_
 exact fun w hS => ⟨rfl, hS.below⟩

end Go.Proofs.Ytpoelkfncpjmfaa
