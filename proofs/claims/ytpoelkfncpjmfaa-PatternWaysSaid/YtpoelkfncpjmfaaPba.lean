/- The parser: all. -/
import Derived.Test.YtpoelkfncpjmfaaPaz
namespace Go.Proofs.Ytpoelkfncpjmfaa
open Go Go.RowKit

set_option maxRecDepth 100000 in
theorem all_step (m : Nat) (hrow : Meth 30 RRow (fun _ => True) m) : Meth 18 RAll (fun _ => True) m := by
 intro pb gb c0 k off c ts g b F w hb hpos hgb hts hm hS0
 refine fn_intro_own Try.func18 rfl Try.ntmps18 rfl rfl hS0 ?_
 refine s_ (o_ ?_)
 refine g_alloc rfl rfl Try.zeroValue30 rfl (fun b1 => ?_)
 refine ntso_ ?_
 refine xg 1 [] rfl rfl ?_
 refine g_perm (.trans (.swap _ _ _) (.cons _ (.swap _ _ _))) ?_
 refine g_callOwn (L0 := [.cells pb 53 [.slice (some ⟨gb, off, none⟩) (ts.length - k) c, .int .i64 g, .bool b], .row 64 7 (.slice (some ⟨gb, 0, none⟩) ts.length c0) ts.length (ts.flatMap tC)]) (fun x : {x : PX // RRow ts k g b x.t x.k x.g x.b ∧ Pos ts x.k x.off x.c ∧ GB x.g x.b ∧ k ≤ x.k} => .agg (nC x.1.t).toArray) (fun x => [PEnt pb gb ts x.1.k x.1.g x.1.b x.1.off x.1.c, TEnt gb c0 ts, .forest [x.1.t]]) rfl rfl rfl Try.call30 (fun w hS => hrow pb gb c0 k off c ts g b _ w (by first | trivial | rfl) hpos hgb hts (by omega) hS.part) ?_
 rintro ⟨⟨⟨nk_r, ns_r, nm_r, nx_r, nu_r, nv_r, nq_r⟩, k_r, g_r, b_r, off_r, c_r⟩, hr_r, hpos_r, hgb_r, hk_r⟩
 dsimp only at hr_r hpos_r hgb_r hk_r
 simp only [List.cons_append, List.nil_append]
 refine g_kids 2 rfl (fun pv_r cv_r hv_r => ?_)
 cases hv_r
 refine g_buildSlice (offs := [0]) rfl rfl Try.underlying28 rfl Try.zeroValue30 (by kernel_rfl) (fun b2 => ?_)
 refine g_val rfl rfl rfl (y_assign rfl) ?_
 refine g_rowOf (n := 1) nC [(.mk nk_r ns_r nm_r nx_r nu_r (.slice pv_r nq_r.length cv_r) nq_r)] 0 rfl rfl nC_len rfl (by decide) ?_
 simp only [List.set_cons_zero]
 refine g_perm (.trans (.cons _ (.cons _ (.swap _ _ _))) (.trans (.cons _ (.swap _ _ _)) (.trans (.cons _ (.cons _ (.cons _ (.swap _ _ _)))) (.cons _ (.cons _ (.swap _ _ _)))))) ?_
 refine n_ (t_ (s_ (g_block ?_)))
 refine g_loop (α := {x : Nat × Int × Bool × Nat × Nat × Value × List MT // Pos ts x.1 x.2.2.2.1 x.2.2.2.2.1 ∧ GB x.2.1 x.2.2.1 ∧ k_r ≤ x.1 ∧ x.2.2.2.2.2.2.length ≤ x.1 + 1 ∧ 1 ≤ x.2.2.2.2.2.2.length ∧ ∀ rows' k2 g2 b2, RBars ts x.1 x.2.1 x.2.2.1 x.2.2.2.2.2.2 rows' k2 g2 b2 → RBars ts k_r g_r b_r [(.mk nk_r ns_r nm_r nx_r nu_r (.slice pv_r nq_r.length cv_r) nq_r)] rows' k2 g2 b2}) (fun x => [(0, .pointer (some ⟨pb, 0, none⟩)), (2, .pointer (some ⟨b1, 0, none⟩)), (3, x.1.2.2.2.2.2.1)]) (fun x => St w F [.row 30 9 x.1.2.2.2.2.2.1 x.1.2.2.2.2.2.2.length (x.1.2.2.2.2.2.2.flatMap nC), .forest x.1.2.2.2.2.2.2, .cells b1 30 (nC (.mk 0 s0 0 0 0 nilS [])), .cells pb 53 [.slice (some ⟨gb, x.1.2.2.2.1, none⟩) (ts.length - x.1.1) x.1.2.2.2.2.1, .int .i64 x.1.2.1, .bool x.1.2.2.1], .row 64 7 (.slice (some ⟨gb, 0, none⟩) ts.length c0) ts.length (ts.flatMap tC)]) (fun x => ts.length - x.1.1) ⟨(k_r, g_r, b_r, off_r, c_r, (.slice (some ⟨b2, 0, none⟩) 1 1), [(.mk nk_r ns_r nm_r nx_r nu_r (.slice pv_r nq_r.length cv_r) nq_r)]), hpos_r, hgb_r, Nat.le_refl _, by simp, by simp, fun _ _ _ _ h => h⟩ [0, 2, 3] rfl (fun w h => h.pick [0,0,0,0,0] rfl) ?_
 rintro ⟨⟨k1, g1, b1, off1, c1, v, rows⟩, hx⟩
 dsimp only
 dsimp only at hx
 obtain ⟨hpos1, hgb1, hk01, hml, hne, hR⟩ := hx
 have hkl := hpos1.1
 refine s_ (s_ (o_ ?_))
 refine xg 6 [3] rfl (by omega) ?_
 first | refine g_casep 12 rfl (fun h1 => ?_) fun h1 => ?_ | refine g_caseb 12 rfl (fun h1 => ?_) fun h1 => ?_
 ·refine xg 1 [] rfl rfl ?_
  refine g_perm (.trans (.cons _ (.cons _ (.swap _ _ _))) (.trans (.cons _ (.swap _ _ _)) (.trans (.swap _ _ _) (.trans (.cons _ (.cons _ (.cons _ (.swap _ _ _)))) (.trans (.cons _ (.cons _ (.swap _ _ _))) (.cons _ (.swap _ _ _))))))) ?_
  refine g_callOwn (L0 := [.cells pb 53 [.slice (some ⟨gb, off1, none⟩) (ts.length - k1) c1, .int .i64 g1, .bool b1], .row 64 7 (.slice (some ⟨gb, 0, none⟩) ts.length c0) ts.length (ts.flatMap tC)]) (fun _ : Unit => .bool (isK ts k1 3)) (fun _ => [.cells pb 53 [.slice (some ⟨gb, off1, none⟩) (ts.length - k1) c1, .int .i64 g1, .bool b1], .row 64 7 (.slice (some ⟨gb, 0, none⟩) ts.length c0) ts.length (ts.flatMap tC)]) rfl rfl rfl Try.call31 (fun w hS => is_any pb gb c0 k1 off1 c1 ts _ _ 3 _ w hpos1 hS.part) (fun _ => ?_)
  simp only [List.cons_append, List.nil_append]
  refine xg 1 [] rfl rfl ?_
  refine n_ (t_ ?_)
  first | refine g_casep 15 rfl (fun h2 => ?_) fun h2 => ?_ | refine g_caseb 15 rfl (fun h2 => ?_) fun h2 => ?_
  ·refine g_cond_t rfl (g_skip (t_ (g_block (s_ ?_))))
   obtain rfl : b1 = false := by simpa using ‹(!b1) = true›
   have h3 : isK ts k1 3 = true := by assumption
   have hk1 := isK_lt h3
   refine o_ ?_
   refine xg 1 [] rfl rfl ?_
   refine g_callOwn (L0 := [.cells pb 53 [.slice (some ⟨gb, off1, none⟩) (ts.length - k1) c1, .int .i64 g1, .bool false], .row 64 7 (.slice (some ⟨gb, 0, none⟩) ts.length c0) ts.length (ts.flatMap tC)]) (fun x : {x : Tok × Nat × Nat // ts[k1]? = some x.1 ∧ Pos ts (k1 + 1) x.2.1 x.2.2} => .agg (tC x.1.1).toArray) (fun x => [.cells pb 53 [.slice (some ⟨gb, x.1.2.1, none⟩) (ts.length - (k1 + 1)) x.1.2.2, .int .i64 g1, .bool false], .row 64 7 (.slice (some ⟨gb, 0, none⟩) ts.length c0) ts.length (ts.flatMap tC)]) rfl rfl rfl Try.call32 (fun w hS => take_any pb gb c0 k1 off1 c1 ts _ _ (by first | omega | exact isK_lt (by assumption)) _ w hpos1 hS.part) ?_
   rintro ⟨⟨t_t, off_t, c_t⟩, ht_t, hpos_t⟩
   dsimp only at ht_t hpos_t
   simp only [List.cons_append, List.nil_append]
   refine nto_ ?_
   refine xg 2 [] rfl rfl ?_
   refine g_callOwn (L0 := [.cells pb 53 [.slice (some ⟨gb, off_t, none⟩) (ts.length - (k1 + 1)) c_t, .int .i64 g1, .bool false], .row 64 7 (.slice (some ⟨gb, 0, none⟩) ts.length c0) ts.length (ts.flatMap tC)]) (fun x : {x : PX // RRow ts (k1 + 1) g1 false x.t x.k x.g x.b ∧ Pos ts x.k x.off x.c ∧ GB x.g x.b ∧ (k1 + 1) ≤ x.k} => .agg (nC x.1.t).toArray) (fun x => [PEnt pb gb ts x.1.k x.1.g x.1.b x.1.off x.1.c, TEnt gb c0 ts, .forest [x.1.t]]) rfl rfl rfl Try.call30 (fun w hS => hrow pb gb c0 (k1 + 1) off_t c_t ts g1 false _ w (by first | trivial | rfl) hpos_t hgb1 hts (by omega) hS.part) ?_
   rintro ⟨⟨⟨nk_s, ns_s, nm_s, nx_s, nu_s, nv_s, nq_s⟩, k_s, g_s, b_s, off_s, c_s⟩, hr_s, hpos_s, hgb_s, hk_s⟩
   dsimp only at hr_s hpos_s hgb_s hk_s
   simp only [List.cons_append, List.nil_append]
   refine g_kids 2 rfl (fun pv_s cv_s hv_s => ?_)
   cases hv_s
   refine g_buildSlice (offs := [0]) rfl rfl Try.underlying28 rfl Try.zeroValue30 (by kernel_rfl) (fun b3 => ?_)
   refine g_appS (bytes := 88) nC ((.mk nk_s ns_s nm_s nx_s nu_s (.slice pv_s nq_s.length cv_s) nq_s)) 4 (j := 0) rfl rfl rfl rfl Try.underlying28 (by kernel_rfl) rfl rfl nC_len rfl (by omega) (by have : maxLen = 9223372036854775807 := rfl; omega) (fun v4 => ?_)
   simp only [List.set_cons_zero, List.set_cons_succ]
   refine xg 1 [] rfl rfl ?_
   refine n_ (g_in_normal ?_)
   refine g_perm (.trans (.cons _ (.cons _ (.cons _ (.cons _ (.swap _ _ _))))) (.trans (.cons _ (.cons _ (.cons _ (.swap _ _ _)))) (.trans (.cons _ (.cons _ (.swap _ _ _))) (.trans (.cons _ (.swap _ _ _)) (.trans (.swap _ _ _) (.trans (.cons _ (.cons _ (.cons _ (.swap _ _ _)))) (.trans (.cons _ (.cons _ (.swap _ _ _))) (.cons _ (.swap _ _ _))))))))) ?_
   refine g_grow ?_
   refine g_perm (.trans (.cons _ (.cons _ (.cons _ (.swap _ _ _)))) (.trans (.cons _ (.cons _ (.swap _ _ _))) (.trans (.cons _ (.swap _ _ _)) (.trans (.swap _ _ _) (.trans (.cons _ (.cons _ (.cons _ (.cons _ (.swap _ _ _))))) (.trans (.cons _ (.cons _ (.cons _ (.swap _ _ _)))) (.trans (.cons _ (.cons _ (.swap _ _ _))) (.trans (.cons _ (.cons _ (.cons _ (.swap _ _ _)))) (.cons _ (.cons _ (.cons _ (.cons _ (.swap _ _ _))))))))))))) ?_
   exact g_again ⟨(k_s, g_s, b_s, off_s, c_s, _, rows ++ [(.mk nk_s ns_s nm_s nx_s nu_s (.slice pv_s nq_s.length cv_s) nq_s)]), hpos_s, hgb_s, by dsimp only; omega, by dsimp only; rw [List.length_append, List.length_singleton]; omega, by dsimp only; rw [List.length_append, List.length_singleton]; omega, fun _ _ _ _ h => hR _ _ _ _ (.more h3 hr_s h)⟩ [0, 2, 3] (by dsimp only; omega) rfl (fun w h => h.pick [0,0,0,0,0] rfl)
  refine g_cond_f rfl (g_exit (g_then_exit (g_then_exit (g_in_exit (t_ (s_ (s_ ?_)))))))
  rcases rows with _ | ⟨⟨nk, ns, nm, nx, nu, nv, nq⟩, _ | ⟨t2, ms⟩⟩
  · exact absurd hne (by simp)
  ·refine o_ ?_
   refine xg 1 [] rfl rfl ?_
   refine g_rowLen 2 rfl (fun pr3 cr3 hv3 => ?_)
   cases hv3
   refine g_val rfl rfl rfl (y_llen rfl Try.underlying28) ?_
   refine xg 1 [0] rfl rfl ?_
   refine g_lit 25 true rfl (decide_eq_true rfl) ?_
   refine n_ (t_ (g_cond_t rfl (s_ ?_)))
   refine g_perm (.cons _ (.cons _ (.swap _ _ _))) ?_
   refine g_kids 2 rfl (fun pv cv hv => ?_)
   cases hv
   have hone : ([.mk nk ns nm nx nu (.slice pv nq.length cv) nq] : List MT).length = 1 := rfl
   refine o_ ?_
   refine xg 1 [] rfl rfl ?_
   refine g_rowCase 3 rfl (by omega) (fun gr4 cr4 hv4 => ?_)
   cases hv4
   refine g_val rfl rfl rfl (y_idxAddr (m := 0 * 9 + 0) rfl rfl Try.underlying28 Try.sizeOf30 (by omega) (by omega) (by omega)) ?_
   refine g_val rfl rfl rfl (y_ldRN (k := 9) (vs := nC (.mk nk ns nm nx nu (.slice pv nq.length cv) nq)) 3 rfl Try.isAgg30 Try.sizeOf30 rfl (fm_elem nC 9 nC_len _ 0 _ (rfl)) (nC_len _)) ?_
   refine xg 1 [4] rfl (by omega) ?_
   refine n_ (t_ (g_ret (g_then_ret ?_)))
   refine g_end_cell 4 Try.results18 rfl rfl Try.isAgg30 Try.sizeOf30 rfl ?_
   exact fun w hS => ⟨⟨⟨.mk nk ns nm nx nu _ nq, k1, g1, b1, off1, c1⟩, .one hr_r (hR _ _ _ _ (.stop (by first | exact .inr (by assumption) | exact .inl (by simpa using ‹(!b1) = false›)))), hpos1, hgb1, by dsimp only; omega⟩, rfl, hS.pick [0,0,0] rfl⟩
  refine o_ ?_
  refine xg 1 [] rfl rfl ?_
  refine g_rowLen 2 rfl (fun pr5 cr5 hv5 => ?_)
  cases hv5
  refine g_val rfl rfl rfl (y_llen rfl Try.underlying28) ?_
  refine xg 1 [0] rfl rfl ?_
  refine g_lit 25 false rfl (decide_eq_false (by simp; omega)) ?_
  refine n_ (t_ (g_cond_f rfl (g_skip (t_ (s_ ?_)))))
  refine g_perm (.trans (.cons _ (.swap _ _ _)) (.trans (.swap _ _ _) (.trans (.cons _ (.cons _ (.swap _ _ _))) (.cons _ (.swap _ _ _))))) ?_
  refine g_node 3 s0 0 0 0 rfl ?_
  refine g_perm (.trans (.swap _ _ _) (.cons _ (.swap _ _ _))) ?_
  refine o_ ?_
  refine xg 3 [3] rfl (by omega) ?_
  refine n_ (t_ (g_ret ?_))
  refine g_end_cell 3 Try.results18 rfl rfl Try.isAgg30 Try.sizeOf30 rfl ?_
  have hq := RAll.many (ts := ts) (v := (.slice pr5 ((.mk nk ns nm nx nu nv nq :: t2 :: ms).length) cr5)) hr_r (hR (.mk nk ns nm nx nu nv nq :: t2 :: ms) k1 g1 b1 (.stop (by first | exact .inr (by assumption) | exact .inl (by simpa using ‹(!b1) = false›)))) (by simp)
  exact fun w hS => ⟨⟨⟨.mk 3 s0 0 0 0 (.slice pr5 ((.mk nk ns nm nx nu nv nq :: t2 :: ms).length) cr5) (.mk nk ns nm nx nu nv nq :: t2 :: ms), k1, g1, b1, off1, c1⟩, hq, hpos1, hgb1, by dsimp only; omega⟩, rfl, hS.pick [0,0,0] rfl⟩
 refine xg 3 [] rfl rfl ?_
 refine n_ (t_ (g_cond_f rfl (g_exit (g_then_exit (g_then_exit (g_in_exit (t_ (s_ (s_ ?_)))))))))
 rcases rows with _ | ⟨⟨nk, ns, nm, nx, nu, nv, nq⟩, _ | ⟨t2, ms⟩⟩
 · exact absurd hne (by simp)
 ·refine o_ ?_
  refine xg 1 [] rfl rfl ?_
  refine g_rowLen 0 rfl (fun pr6 cr6 hv6 => ?_)
  cases hv6
  refine g_val rfl rfl rfl (y_llen rfl Try.underlying28) ?_
  refine xg 1 [0] rfl rfl ?_
  refine g_lit 25 true rfl (decide_eq_true rfl) ?_
  refine n_ (t_ (g_cond_t rfl (s_ ?_)))
  refine g_perm (.trans (.cons _ (.cons _ (.swap _ _ _))) (.trans (.cons _ (.swap _ _ _)) (.trans (.swap _ _ _) (.trans (.cons _ (.cons _ (.cons _ (.swap _ _ _)))) (.trans (.cons _ (.cons _ (.swap _ _ _))) (.trans (.cons _ (.swap _ _ _)) (.cons _ (.cons _ (.swap _ _ _))))))))) ?_
  refine g_kids 2 rfl (fun pv cv hv => ?_)
  cases hv
  have hone : ([.mk nk ns nm nx nu (.slice pv nq.length cv) nq] : List MT).length = 1 := rfl
  refine o_ ?_
  refine xg 1 [] rfl rfl ?_
  refine g_rowCase 3 rfl (by omega) (fun gr7 cr7 hv7 => ?_)
  cases hv7
  refine g_val rfl rfl rfl (y_idxAddr (m := 0 * 9 + 0) rfl rfl Try.underlying28 Try.sizeOf30 (by omega) (by omega) (by omega)) ?_
  refine g_val rfl rfl rfl (y_ldRN (k := 9) (vs := nC (.mk nk ns nm nx nu (.slice pv nq.length cv) nq)) 3 rfl Try.isAgg30 Try.sizeOf30 rfl (fm_elem nC 9 nC_len _ 0 _ (rfl)) (nC_len _)) ?_
  refine xg 1 [4] rfl (by omega) ?_
  refine n_ (t_ (g_ret (g_then_ret ?_)))
  refine g_end_cell 4 Try.results18 rfl rfl Try.isAgg30 Try.sizeOf30 rfl ?_
  exact fun w hS => ⟨⟨⟨.mk nk ns nm nx nu _ nq, k1, g1, b1, off1, c1⟩, .one hr_r (hR _ _ _ _ (.stop (by first | exact .inr (by assumption) | exact .inl (by simpa using ‹(!b1) = false›)))), hpos1, hgb1, by dsimp only; omega⟩, rfl, hS.pick [0,0,0] rfl⟩
 refine o_ ?_
 refine xg 1 [] rfl rfl ?_
 refine g_rowLen 0 rfl (fun pr8 cr8 hv8 => ?_)
 cases hv8
 refine g_val rfl rfl rfl (y_llen rfl Try.underlying28) ?_
 refine xg 1 [0] rfl rfl ?_
 refine g_lit 25 false rfl (decide_eq_false (by simp; omega)) ?_
 refine n_ (t_ (g_cond_f rfl (g_skip (t_ (s_ ?_)))))
 refine g_node 3 s0 0 0 0 rfl ?_
 refine g_perm (.trans (.cons _ (.swap _ _ _)) (.trans (.swap _ _ _) (.trans (.cons _ (.cons _ (.swap _ _ _))) (.cons _ (.swap _ _ _))))) ?_
 refine o_ ?_
 refine xg 3 [3] rfl (by omega) ?_
 refine n_ (t_ (g_ret ?_))
 refine g_end_cell 3 Try.results18 rfl rfl Try.isAgg30 Try.sizeOf30 rfl ?_
 have hq := RAll.many (ts := ts) (v := (.slice pr8 ((.mk nk ns nm nx nu nv nq :: t2 :: ms).length) cr8)) hr_r (hR (.mk nk ns nm nx nu nv nq :: t2 :: ms) k1 g1 b1 (.stop (by first | exact .inr (by assumption) | exact .inl (by simpa using ‹(!b1) = false›)))) (by simp)
 exact fun w hS => ⟨⟨⟨.mk 3 s0 0 0 0 (.slice pr8 ((.mk nk ns nm nx nu nv nq :: t2 :: ms).length) cr8) (.mk nk ns nm nx nu nv nq :: t2 :: ms), k1, g1, b1, off1, c1⟩, hq, hpos1, hgb1, by dsimp only; omega⟩, rfl, hS.pick [0,0,0] rfl⟩

/-- The parser's methods do what the relation tells. -/
theorem all_ok : ∀ m, Meth 18 RAll (fun _ => True) m := by
  intro m
  induction m with
  | zero => intro pb gb c0 k off c ts g b F w _ _ _ _ hm _; omega
  | succ m ih => exact all_step (m + 1) (row_step m (grp_step m ih))

end Go.Proofs.Ytpoelkfncpjmfaa
