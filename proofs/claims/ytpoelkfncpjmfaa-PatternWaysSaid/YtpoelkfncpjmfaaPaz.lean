/- The parser: row. -/
import Derived.Test.YtpoelkfncpjmfaaPay
namespace Go.Proofs.Ytpoelkfncpjmfaa
open Go Go.RowKit

set_option maxRecDepth 100000 in
theorem row_step (m : Nat) (hgrp : Meth 43 (fun ts k g _ t k' g' b' => RGrp ts k g t k' g' b') (fun b => b = false) m) : Meth 30 RRow (fun _ => True) (m + 1) := by
 intro pb gb c0 k off c ts g b F w hb hpos hgb hts hm hS0
 refine fn_intro_own Try.func30 rfl Try.ntmps30 rfl rfl hS0 ?_
 refine s_ (o_ ?_)
 refine g_alloc rfl rfl Try.zeroValue30 rfl (fun b1 => ?_)
 refine n_ (t_ (s_ ?_))
 refine g_forest0 ?_
 refine o_ ?_
 refine g_nilRow 30 9 ?_
 refine g_val rfl rfl rfl (y_assign rfl) ?_
 refine n_ (t_ (s_ (g_block ?_)))
 refine g_loop (α := {x : Nat × Int × Bool × Nat × Nat × Value × List MT // Pos ts x.1 x.2.2.2.1 x.2.2.2.2.1 ∧ GB x.2.1 x.2.2.1 ∧ k ≤ x.1 ∧ x.2.2.2.2.2.2.length ≤ x.1 ∧ ∀ ms' k2 g2 b2, RPcs ts x.1 x.2.1 x.2.2.1 x.2.2.2.2.2.2 ms' k2 g2 b2 → RPcs ts k g b [] ms' k2 g2 b2}) (fun x => [(0, .pointer (some ⟨pb, 0, none⟩)), (2, .pointer (some ⟨b1, 0, none⟩)), (3, x.1.2.2.2.2.2.1)]) (fun x => St w F [.row 30 9 x.1.2.2.2.2.2.1 x.1.2.2.2.2.2.2.length (x.1.2.2.2.2.2.2.flatMap nC), .forest x.1.2.2.2.2.2.2, .cells b1 30 (nC (.mk 0 s0 0 0 0 nilS [])), .cells pb 53 [.slice (some ⟨gb, x.1.2.2.2.1, none⟩) (ts.length - x.1.1) x.1.2.2.2.2.1, .int .i64 x.1.2.1, .bool x.1.2.2.1], .row 64 7 (.slice (some ⟨gb, 0, none⟩) ts.length c0) ts.length (ts.flatMap tC)]) (fun x => ts.length - x.1.1) ⟨(k, g, b, off, c, .slice none 0 0, []), hpos, hgb, Nat.le_refl _, Nat.zero_le _, fun _ _ _ _ h => h⟩ [0, 2, 3] rfl (fun w h => h.pick [0,0,0,0,0] rfl) ?_
 rintro ⟨⟨k1, g1, b1, off1, c1, v, ms⟩, hx⟩
 dsimp only
 dsimp only at hx
 obtain ⟨hpos1, hgb1, hk01, hml, hR⟩ := hx
 have hkl := hpos1.1
 refine s_ (s_ (o_ ?_))
 refine xg 7 [3,0] rfl (by omega) ?_
 refine g_casep 13 rfl (fun h1 => ?_) fun h1 => ?_
 ·refine xg 7 [3] rfl (by omega) ?_
  first | refine g_casep 20 rfl (fun h2 => ?_) fun h2 => ?_ | refine g_caseb 20 rfl (fun h2 => ?_) fun h2 => ?_
  ·refine xg 1 [] rfl rfl ?_
   refine g_perm (.trans (.cons _ (.cons _ (.swap _ _ _))) (.trans (.cons _ (.swap _ _ _)) (.trans (.swap _ _ _) (.trans (.cons _ (.cons _ (.cons _ (.swap _ _ _)))) (.trans (.cons _ (.cons _ (.swap _ _ _))) (.cons _ (.swap _ _ _))))))) ?_
   refine g_callOwn (L0 := [.cells pb 53 [.slice (some ⟨gb, off1, none⟩) (ts.length - k1) c1, .int .i64 g1, .bool b1], .row 64 7 (.slice (some ⟨gb, 0, none⟩) ts.length c0) ts.length (ts.flatMap tC)]) (fun _ : Unit => .bool (isK ts k1 3)) (fun _ => [.cells pb 53 [.slice (some ⟨gb, off1, none⟩) (ts.length - k1) c1, .int .i64 g1, .bool b1], .row 64 7 (.slice (some ⟨gb, 0, none⟩) ts.length c0) ts.length (ts.flatMap tC)]) rfl rfl rfl Try.call31 (fun w hS => is_any pb gb c0 k1 off1 c1 ts _ _ 3 _ w hpos1 hS.part) (fun _ => ?_)
   simp only [List.cons_append, List.nil_append]
   refine xg 3 [] rfl rfl ?_
   first | refine g_casep 25 rfl (fun h3 => ?_) fun h3 => ?_ | refine g_caseb 25 rfl (fun h3 => ?_) fun h3 => ?_
   ·refine xg 1 [] rfl rfl ?_
    refine g_callOwn (L0 := [.cells pb 53 [.slice (some ⟨gb, off1, none⟩) (ts.length - k1) c1, .int .i64 g1, .bool b1], .row 64 7 (.slice (some ⟨gb, 0, none⟩) ts.length c0) ts.length (ts.flatMap tC)]) (fun _ : Unit => .bool (isK ts k1 2)) (fun _ => [.cells pb 53 [.slice (some ⟨gb, off1, none⟩) (ts.length - k1) c1, .int .i64 g1, .bool b1], .row 64 7 (.slice (some ⟨gb, 0, none⟩) ts.length c0) ts.length (ts.flatMap tC)]) rfl rfl rfl Try.call31 (fun w hS => is_any pb gb c0 k1 off1 c1 ts _ _ 2 _ w hpos1 hS.part) (fun _ => ?_)
    simp only [List.cons_append, List.nil_append]
    refine xg 2 [] rfl rfl ?_
    refine n_ (t_ ?_)
    first | refine g_casep 29 rfl (fun h4 => ?_) fun h4 => ?_ | refine g_caseb 29 rfl (fun h4 => ?_) fun h4 => ?_
    ·refine g_cond_t rfl (g_skip (t_ (g_block (s_ ?_))))
     obtain rfl : b1 = false := by simpa using ‹(!b1) = true›
     have hk1 : k1 < ts.length := by omega
     have h3 : isK ts k1 3 = false := by simpa using ‹(!isK ts k1 3) = true›
     have h2 : isK ts k1 2 = false := by simpa using ‹(!isK ts k1 2) = true›
     refine o_ ?_
     refine g_alloc rfl rfl Try.zeroValue30 rfl (fun b2 => ?_)
     refine n_ (t_ (s_ (s_ (o_ ?_))))
     refine xg 1 [] rfl rfl ?_
     refine g_perm (.trans (.swap _ _ _) (.cons _ (.swap _ _ _))) ?_
     refine g_callOwn (L0 := [.cells pb 53 [.slice (some ⟨gb, off1, none⟩) (ts.length - k1) c1, .int .i64 g1, .bool false], .row 64 7 (.slice (some ⟨gb, 0, none⟩) ts.length c0) ts.length (ts.flatMap tC)]) (fun x : {x : Tok × Nat × Nat // ts[k1]? = some x.1 ∧ Pos ts (k1 + 1) x.2.1 x.2.2} => .agg (tC x.1.1).toArray) (fun x => [.cells pb 53 [.slice (some ⟨gb, x.1.2.1, none⟩) (ts.length - (k1 + 1)) x.1.2.2, .int .i64 g1, .bool false], .row 64 7 (.slice (some ⟨gb, 0, none⟩) ts.length c0) ts.length (ts.flatMap tC)]) rfl rfl rfl Try.call32 (fun w hS => take_any pb gb c0 k1 off1 c1 ts _ _ (by first | omega | exact isK_lt (by assumption)) _ w hpos1 hS.part) ?_
     rintro ⟨⟨t_t, off_t, c_t⟩, ht_t, hpos_t⟩
     dsimp only at ht_t hpos_t
     simp only [List.cons_append, List.nil_append]
     refine g_alloc rfl rfl Try.zeroValue64 rfl (fun b3 => ?_)
     refine xg 1 [0] rfl (by omega) ?_
     refine ntso_ ?_
     refine xg 2 [0] rfl (by omega) ?_
     refine n_ (t_ (g_block (s_ (o_ ?_))))
     refine xg 2 [0] rfl rfl ?_
     refine n_ (t_ ?_)
     refine g_casep 36 rfl (fun h5 => ?_) fun h5 => ?_
     ·refine g_cond_t rfl (s_ (o_ ?_))
      refine xg 2 [] rfl rfl ?_
      refine g_buildSlice (offs := [0]) rfl rfl Try.underlying28 rfl Try.zeroValue30 (by kernel_rfl) (fun b4 => ?_)
      refine g_appS (bytes := 88) nC ((.mk 6 s0 0 0 0 nilS [])) 5 (j := 0) rfl rfl rfl rfl Try.underlying28 (by kernel_rfl) rfl rfl nC_len rfl (by omega) (by have : maxLen = 9223372036854775807 := rfl; omega) (fun v5 => ?_)
      simp only [List.set_cons_zero, List.set_cons_succ]
      refine xg 1 [] rfl rfl ?_
      refine n_ (t_ (g_exit (g_in_exit_ne rfl (g_then_exit (g_in_exit ?_)))))
      refine g_leaf 6 s0 0 0 0 ?_
      refine g_perm (.trans (.cons _ (.cons _ (.cons _ (.cons _ (.cons _ (.cons _ (.swap _ _ _))))))) (.trans (.cons _ (.cons _ (.cons _ (.cons _ (.cons _ (.swap _ _ _)))))) (.trans (.cons _ (.cons _ (.cons _ (.cons _ (.swap _ _ _))))) (.trans (.cons _ (.cons _ (.cons _ (.swap _ _ _)))) (.trans (.cons _ (.cons _ (.swap _ _ _))) (.trans (.cons _ (.swap _ _ _)) (.swap _ _ _))))))) ?_
      refine g_grow ?_
      refine g_perm (.trans (.cons _ (.cons _ (.cons _ (.cons _ (.cons _ (.swap _ _ _)))))) (.trans (.cons _ (.cons _ (.cons _ (.cons _ (.swap _ _ _))))) (.trans (.cons _ (.cons _ (.cons _ (.swap _ _ _)))) (.trans (.cons _ (.cons _ (.swap _ _ _))) (.trans (.cons _ (.swap _ _ _)) (.trans (.swap _ _ _) (.trans (.cons _ (.cons _ (.cons _ (.cons _ (.cons _ (.cons _ (.swap _ _ _))))))) (.trans (.cons _ (.cons _ (.cons _ (.cons _ (.cons _ (.swap _ _ _)))))) (.trans (.cons _ (.cons _ (.cons _ (.cons _ (.swap _ _ _))))) (.trans (.cons _ (.cons _ (.cons _ (.swap _ _ _)))) (.trans (.cons _ (.cons _ (.swap _ _ _))) (.trans (.cons _ (.cons _ (.cons _ (.cons _ (.swap _ _ _))))) (.trans (.cons _ (.cons _ (.cons _ (.swap _ _ _)))) (.trans (.cons _ (.cons _ (.cons _ (.cons _ (.cons _ (.swap _ _ _)))))) (.cons _ (.cons _ (.cons _ (.cons _ (.swap _ _ _))))))))))))))))))) ?_
      exact g_again ⟨((k1 + 1), g1, false, off_t, c_t, _, ms ++ [(.mk 6 s0 0 0 0 nilS [])]), hpos_t, hgb1, by dsimp only; omega, by dsimp only; rw [List.length_append, List.length_singleton]; omega, fun _ _ _ _ h => hR _ _ _ _ (.anchor ht_t (by omega) h)⟩ [0, 2, 3] (by dsimp only; omega) rfl (fun w h => h.pick [0,0,0,0,0] rfl)
     refine g_cond_f rfl (s_ (o_ ?_))
     refine xg 2 [0] rfl rfl ?_
     refine n_ (t_ ?_)
     refine g_casep 42 rfl (fun h6 => ?_) fun h6 => ?_
     ·refine g_cond_t rfl (s_ (o_ ?_))
      refine xg 2 [] rfl rfl ?_
      refine g_buildSlice (offs := [0]) rfl rfl Try.underlying28 rfl Try.zeroValue30 (by kernel_rfl) (fun b6 => ?_)
      refine g_appS (bytes := 88) nC ((.mk 7 s0 0 0 0 nilS [])) 5 (j := 0) rfl rfl rfl rfl Try.underlying28 (by kernel_rfl) rfl rfl nC_len rfl (by omega) (by have : maxLen = 9223372036854775807 := rfl; omega) (fun v7 => ?_)
      simp only [List.set_cons_zero, List.set_cons_succ]
      refine xg 1 [] rfl rfl ?_
      refine n_ (t_ (g_exit (g_in_exit_ne rfl (g_then_exit (g_in_exit ?_)))))
      refine g_leaf 7 s0 0 0 0 ?_
      refine g_perm (.trans (.cons _ (.cons _ (.cons _ (.cons _ (.cons _ (.cons _ (.swap _ _ _))))))) (.trans (.cons _ (.cons _ (.cons _ (.cons _ (.cons _ (.swap _ _ _)))))) (.trans (.cons _ (.cons _ (.cons _ (.cons _ (.swap _ _ _))))) (.trans (.cons _ (.cons _ (.cons _ (.swap _ _ _)))) (.trans (.cons _ (.cons _ (.swap _ _ _))) (.trans (.cons _ (.swap _ _ _)) (.swap _ _ _))))))) ?_
      refine g_grow ?_
      refine g_perm (.trans (.cons _ (.cons _ (.cons _ (.cons _ (.cons _ (.swap _ _ _)))))) (.trans (.cons _ (.cons _ (.cons _ (.cons _ (.swap _ _ _))))) (.trans (.cons _ (.cons _ (.cons _ (.swap _ _ _)))) (.trans (.cons _ (.cons _ (.swap _ _ _))) (.trans (.cons _ (.swap _ _ _)) (.trans (.swap _ _ _) (.trans (.cons _ (.cons _ (.cons _ (.cons _ (.cons _ (.cons _ (.swap _ _ _))))))) (.trans (.cons _ (.cons _ (.cons _ (.cons _ (.cons _ (.swap _ _ _)))))) (.trans (.cons _ (.cons _ (.cons _ (.cons _ (.swap _ _ _))))) (.trans (.cons _ (.cons _ (.cons _ (.swap _ _ _)))) (.trans (.cons _ (.cons _ (.swap _ _ _))) (.trans (.cons _ (.cons _ (.cons _ (.cons _ (.swap _ _ _))))) (.trans (.cons _ (.cons _ (.cons _ (.swap _ _ _)))) (.trans (.cons _ (.cons _ (.cons _ (.cons _ (.cons _ (.swap _ _ _)))))) (.cons _ (.cons _ (.cons _ (.cons _ (.swap _ _ _))))))))))))))))))) ?_
      exact g_again ⟨((k1 + 1), g1, false, off_t, c_t, _, ms ++ [(.mk 7 s0 0 0 0 nilS [])]), hpos_t, hgb1, by dsimp only; omega, by dsimp only; rw [List.length_append, List.length_singleton]; omega, fun _ _ _ _ h => hR _ _ _ _ (.anchor ht_t (by omega) h)⟩ [0, 2, 3] (by dsimp only; omega) rfl (fun w h => h.pick [0,0,0,0,0] rfl)
     refine g_cond_f rfl (s_ (o_ ?_))
     refine xg 2 [0] rfl rfl ?_
     refine n_ (t_ ?_)
     refine g_casep 48 rfl (fun h7 => ?_) fun h7 => ?_
     ·refine g_cond_t rfl (o_ ?_)
      refine xg 3 [] rfl rfl ?_
      refine g_st 1 rfl rfl rfl Try.sizeOf4 rfl rfl rfl ?_
      simp only [List.set_cons_zero, List.set_cons_succ]
      refine n_ (g_in_normal (t_ (s_ (s_ ?_))))
      refine g_leaf 0 s0 0 0 0 ?_
      refine o_ ?_
      refine xg 1 [] rfl rfl ?_
      refine g_perm (.trans (.cons _ (.swap _ _ _)) (.trans (.swap _ _ _) (.trans (.cons _ (.cons _ (.swap _ _ _))) (.cons _ (.swap _ _ _))))) ?_
      refine g_callOwn (L0 := [.cells pb 53 [.slice (some ⟨gb, off_t, none⟩) (ts.length - (k1 + 1)) c_t, .int .i64 g1, .bool true], .row 64 7 (.slice (some ⟨gb, 0, none⟩) ts.length c0) ts.length (ts.flatMap tC)]) (fun _ : Unit => .bool (isK ts (k1 + 1) 4)) (fun _ => [.cells pb 53 [.slice (some ⟨gb, off_t, none⟩) (ts.length - (k1 + 1)) c_t, .int .i64 g1, .bool true], .row 64 7 (.slice (some ⟨gb, 0, none⟩) ts.length c0) ts.length (ts.flatMap tC)]) rfl rfl rfl Try.call31 (fun w hS => is_any pb gb c0 (k1 + 1) off_t c_t ts _ _ 4 _ w hpos_t hS.part) (fun _ => ?_)
      simp only [List.cons_append, List.nil_append]
      refine n_ (t_ ?_)
      first | refine g_casep 59 rfl (fun h8 => ?_) fun h8 => ?_ | refine g_caseb 59 rfl (fun h8 => ?_) fun h8 => ?_
      ·refine g_cond_t rfl (s_ (o_ ?_))
       refine xg 1 [] rfl rfl ?_
       refine g_callOwn (L0 := [.cells pb 53 [.slice (some ⟨gb, off_t, none⟩) (ts.length - (k1 + 1)) c_t, .int .i64 g1, .bool true], .row 64 7 (.slice (some ⟨gb, 0, none⟩) ts.length c0) ts.length (ts.flatMap tC)]) (fun x : {x : Tok × Nat × Nat // ts[(k1 + 1)]? = some x.1 ∧ Pos ts ((k1 + 1) + 1) x.2.1 x.2.2} => .agg (tC x.1.1).toArray) (fun x => [.cells pb 53 [.slice (some ⟨gb, x.1.2.1, none⟩) (ts.length - ((k1 + 1) + 1)) x.1.2.2, .int .i64 g1, .bool true], .row 64 7 (.slice (some ⟨gb, 0, none⟩) ts.length c0) ts.length (ts.flatMap tC)]) rfl rfl rfl Try.call32 (fun w hS => take_any pb gb c0 (k1 + 1) off_t c_t ts _ _ (by first | omega | exact isK_lt (by assumption)) _ w hpos_t hS.part) ?_
       rintro ⟨⟨t_u, off_u, c_u⟩, ht_u, hpos_u⟩
       dsimp only at ht_u hpos_u
       simp only [List.cons_append, List.nil_append]
       refine g_alloc rfl rfl Try.zeroValue64 rfl (fun b8 => ?_)
       refine xg 1 [0] rfl (by omega) ?_
       refine nto_ ?_
       refine xg 5 [0,0,5] rfl (by omega) ?_
       refine g_buildSlice (offs := [0]) rfl rfl Try.underlying28 rfl Try.zeroValue30 (by kernel_rfl) (fun b9 => ?_)
       refine xg 2 [6] rfl (by omega) ?_
       refine n_ (t_ ?_)
       refine g_rowOf (n := 1) nC [(.mk 0 s0 0 0 0 nilS [])] 0 rfl rfl nC_len rfl (by decide) ?_
       simp only [List.set_cons_zero]
       refine g_perm (.trans (.cons _ (.cons _ (.cons _ (.swap _ _ _)))) (.trans (.cons _ (.cons _ (.swap _ _ _))) (.cons _ (.swap _ _ _)))) ?_
       refine g_node 4 s0 t_u.mi t_u.ma 0 rfl ?_
       refine o_ ?_
       refine xg 2 [5] rfl (by omega) ?_
       refine g_buildSlice (offs := [0]) rfl rfl Try.underlying28 rfl Try.zeroValue30 (by kernel_rfl) (fun b10 => ?_)
       refine g_appS (bytes := 88) nC ((.mk 4 s0 t_u.mi t_u.ma 0 _ [(.mk 0 s0 0 0 0 nilS [])])) 7 (j := 0) rfl rfl rfl rfl Try.underlying28 (by kernel_rfl) rfl rfl nC_len rfl (by omega) (by have : maxLen = 9223372036854775807 := rfl; omega) (fun v11 => ?_)
       simp only [List.set_cons_zero, List.set_cons_succ]
       refine xg 1 [] rfl rfl ?_
       refine n_ (g_in_normal ?_)
       refine g_perm (.trans (.cons _ (.cons _ (.cons _ (.cons _ (.cons _ (.cons _ (.cons _ (.swap _ _ _)))))))) (.trans (.cons _ (.cons _ (.cons _ (.cons _ (.cons _ (.cons _ (.swap _ _ _))))))) (.trans (.cons _ (.cons _ (.cons _ (.cons _ (.cons _ (.swap _ _ _)))))) (.trans (.cons _ (.cons _ (.cons _ (.cons _ (.swap _ _ _))))) (.trans (.cons _ (.cons _ (.cons _ (.swap _ _ _)))) (.trans (.cons _ (.cons _ (.swap _ _ _))) (.trans (.cons _ (.swap _ _ _)) (.trans (.swap _ _ _) (.cons _ (.swap _ _ _)))))))))) ?_
       refine g_grow ?_
       refine g_perm (.trans (.cons _ (.cons _ (.cons _ (.cons _ (.cons _ (.cons _ (.swap _ _ _))))))) (.trans (.cons _ (.cons _ (.cons _ (.cons _ (.cons _ (.swap _ _ _)))))) (.trans (.cons _ (.cons _ (.cons _ (.cons _ (.swap _ _ _))))) (.trans (.cons _ (.cons _ (.cons _ (.swap _ _ _)))) (.trans (.cons _ (.cons _ (.swap _ _ _))) (.trans (.cons _ (.swap _ _ _)) (.trans (.swap _ _ _) (.trans (.cons _ (.cons _ (.cons _ (.cons _ (.cons _ (.cons _ (.cons _ (.swap _ _ _)))))))) (.trans (.cons _ (.cons _ (.cons _ (.cons _ (.cons _ (.cons _ (.swap _ _ _))))))) (.trans (.cons _ (.cons _ (.cons _ (.cons _ (.cons _ (.swap _ _ _)))))) (.trans (.cons _ (.cons _ (.cons _ (.cons _ (.swap _ _ _))))) (.trans (.cons _ (.cons _ (.cons _ (.swap _ _ _)))) (.trans (.cons _ (.cons _ (.swap _ _ _))) (.trans (.cons _ (.cons _ (.cons _ (.cons _ (.swap _ _ _))))) (.trans (.cons _ (.cons _ (.cons _ (.swap _ _ _)))) (.trans (.cons _ (.cons _ (.cons _ (.cons _ (.cons _ (.swap _ _ _)))))) (.cons _ (.cons _ (.cons _ (.cons _ (.swap _ _ _))))))))))))))))))))) ?_
       exact g_again ⟨(((k1 + 1) + 1), g1, true, off_u, c_u, _, ms ++ [(.mk 4 s0 t_u.mi t_u.ma 0 _ [(.mk 0 s0 0 0 0 nilS [])])]), hpos_u, ⟨hgb1.1, hgb1.2.1, fun h => by cases h⟩, by dsimp only; omega, by dsimp only; rw [List.length_append, List.length_singleton]; omega, fun _ _ _ _ h => hR _ _ _ _ (.piece h3 h2 (.rep (.times ht_t (by omega)) ht_u (isK_tok (by assumption) ht_u)) h)⟩ [0, 2, 3] (by dsimp only; omega) rfl (fun w h => h.pick [0,0,0,0,0] rfl)
      refine g_cond_f rfl (g_skip (t_ (o_ ?_)))
      refine xg 2 [4] rfl (by omega) ?_
      refine g_buildSlice (offs := [0]) rfl rfl Try.underlying28 rfl Try.zeroValue30 (by kernel_rfl) (fun b12 => ?_)
      refine g_appS (bytes := 88) nC ((.mk 0 s0 0 0 0 nilS [])) 6 (j := 0) rfl rfl rfl rfl Try.underlying28 (by kernel_rfl) rfl rfl nC_len rfl (by omega) (by have : maxLen = 9223372036854775807 := rfl; omega) (fun v13 => ?_)
      simp only [List.set_cons_zero, List.set_cons_succ]
      refine xg 1 [] rfl rfl ?_
      refine n_ (g_in_normal ?_)
      refine g_perm (.trans (.cons _ (.cons _ (.cons _ (.cons _ (.cons _ (.cons _ (.swap _ _ _))))))) (.trans (.cons _ (.cons _ (.cons _ (.cons _ (.cons _ (.swap _ _ _)))))) (.trans (.cons _ (.cons _ (.cons _ (.cons _ (.swap _ _ _))))) (.trans (.cons _ (.cons _ (.cons _ (.swap _ _ _)))) (.trans (.cons _ (.cons _ (.swap _ _ _))) (.trans (.cons _ (.swap _ _ _)) (.trans (.swap _ _ _) (.trans (.cons _ (.cons _ (.cons _ (.swap _ _ _)))) (.trans (.cons _ (.cons _ (.swap _ _ _))) (.cons _ (.swap _ _ _))))))))))) ?_
      refine g_grow ?_
      refine g_perm (.trans (.cons _ (.cons _ (.cons _ (.cons _ (.cons _ (.swap _ _ _)))))) (.trans (.cons _ (.cons _ (.cons _ (.cons _ (.swap _ _ _))))) (.trans (.cons _ (.cons _ (.cons _ (.swap _ _ _)))) (.trans (.cons _ (.cons _ (.swap _ _ _))) (.trans (.cons _ (.swap _ _ _)) (.trans (.swap _ _ _) (.trans (.cons _ (.cons _ (.cons _ (.cons _ (.cons _ (.cons _ (.swap _ _ _))))))) (.trans (.cons _ (.cons _ (.cons _ (.cons _ (.cons _ (.swap _ _ _)))))) (.trans (.cons _ (.cons _ (.cons _ (.cons _ (.swap _ _ _))))) (.trans (.cons _ (.cons _ (.cons _ (.swap _ _ _)))) (.trans (.cons _ (.cons _ (.swap _ _ _))) (.trans (.cons _ (.cons _ (.cons _ (.swap _ _ _)))) (.cons _ (.cons _ (.cons _ (.cons _ (.swap _ _ _))))))))))))))))) ?_
      exact g_again ⟨((k1 + 1), g1, true, off_t, c_t, _, ms ++ [(.mk 0 s0 0 0 0 nilS [])]), hpos_t, ⟨hgb1.1, hgb1.2.1, fun h => by cases h⟩, by dsimp only; omega, by dsimp only; rw [List.length_append, List.length_singleton]; omega, fun _ _ _ _ h => hR _ _ _ _ (.piece h3 h2 (.plain (.times ht_t (by omega)) (by assumption)) h)⟩ [0, 2, 3] (by dsimp only; omega) rfl (fun w h => h.pick [0,0,0,0,0] rfl)
     refine g_cond_f rfl (s_ (o_ ?_))
     refine xg 2 [0] rfl rfl ?_
     refine n_ (t_ ?_)
     refine g_casep 53 rfl (fun h9 => ?_) fun h9 => ?_
     ·refine g_cond_t rfl (o_ ?_)
      refine xg 4 [0,3] rfl (by omega) ?_
      refine n_ (g_in_normal (t_ (s_ (s_ ?_))))
      refine g_leaf 1 t_t.s 0 0 0 ?_
      refine o_ ?_
      refine xg 1 [] rfl rfl ?_
      refine g_perm (.trans (.cons _ (.swap _ _ _)) (.trans (.swap _ _ _) (.trans (.cons _ (.cons _ (.swap _ _ _))) (.cons _ (.swap _ _ _))))) ?_
      refine g_callOwn (L0 := [.cells pb 53 [.slice (some ⟨gb, off_t, none⟩) (ts.length - (k1 + 1)) c_t, .int .i64 g1, .bool false], .row 64 7 (.slice (some ⟨gb, 0, none⟩) ts.length c0) ts.length (ts.flatMap tC)]) (fun _ : Unit => .bool (isK ts (k1 + 1) 4)) (fun _ => [.cells pb 53 [.slice (some ⟨gb, off_t, none⟩) (ts.length - (k1 + 1)) c_t, .int .i64 g1, .bool false], .row 64 7 (.slice (some ⟨gb, 0, none⟩) ts.length c0) ts.length (ts.flatMap tC)]) rfl rfl rfl Try.call31 (fun w hS => is_any pb gb c0 (k1 + 1) off_t c_t ts _ _ 4 _ w hpos_t hS.part) (fun _ => ?_)
      simp only [List.cons_append, List.nil_append]
      refine n_ (t_ ?_)
      first | refine g_casep 59 rfl (fun h10 => ?_) fun h10 => ?_ | refine g_caseb 59 rfl (fun h10 => ?_) fun h10 => ?_
      ·refine g_cond_t rfl (s_ (o_ ?_))
       refine xg 1 [] rfl rfl ?_
       refine g_callOwn (L0 := [.cells pb 53 [.slice (some ⟨gb, off_t, none⟩) (ts.length - (k1 + 1)) c_t, .int .i64 g1, .bool false], .row 64 7 (.slice (some ⟨gb, 0, none⟩) ts.length c0) ts.length (ts.flatMap tC)]) (fun x : {x : Tok × Nat × Nat // ts[(k1 + 1)]? = some x.1 ∧ Pos ts ((k1 + 1) + 1) x.2.1 x.2.2} => .agg (tC x.1.1).toArray) (fun x => [.cells pb 53 [.slice (some ⟨gb, x.1.2.1, none⟩) (ts.length - ((k1 + 1) + 1)) x.1.2.2, .int .i64 g1, .bool false], .row 64 7 (.slice (some ⟨gb, 0, none⟩) ts.length c0) ts.length (ts.flatMap tC)]) rfl rfl rfl Try.call32 (fun w hS => take_any pb gb c0 (k1 + 1) off_t c_t ts _ _ (by first | omega | exact isK_lt (by assumption)) _ w hpos_t hS.part) ?_
       rintro ⟨⟨t_u, off_u, c_u⟩, ht_u, hpos_u⟩
       dsimp only at ht_u hpos_u
       simp only [List.cons_append, List.nil_append]
       refine g_alloc rfl rfl Try.zeroValue64 rfl (fun b14 => ?_)
       refine xg 1 [0] rfl (by omega) ?_
       refine nto_ ?_
       refine xg 5 [0,0,5] rfl (by omega) ?_
       refine g_buildSlice (offs := [0]) rfl rfl Try.underlying28 rfl Try.zeroValue30 (by kernel_rfl) (fun b15 => ?_)
       refine xg 2 [6] rfl (by omega) ?_
       refine n_ (t_ ?_)
       refine g_rowOf (n := 1) nC [(.mk 1 t_t.s 0 0 0 nilS [])] 0 rfl rfl nC_len rfl (by decide) ?_
       simp only [List.set_cons_zero]
       refine g_perm (.trans (.cons _ (.cons _ (.cons _ (.swap _ _ _)))) (.trans (.cons _ (.cons _ (.swap _ _ _))) (.cons _ (.swap _ _ _)))) ?_
       refine g_node 4 s0 t_u.mi t_u.ma 0 rfl ?_
       refine o_ ?_
       refine xg 2 [5] rfl (by omega) ?_
       refine g_buildSlice (offs := [0]) rfl rfl Try.underlying28 rfl Try.zeroValue30 (by kernel_rfl) (fun b16 => ?_)
       refine g_appS (bytes := 88) nC ((.mk 4 s0 t_u.mi t_u.ma 0 _ [(.mk 1 t_t.s 0 0 0 nilS [])])) 7 (j := 0) rfl rfl rfl rfl Try.underlying28 (by kernel_rfl) rfl rfl nC_len rfl (by omega) (by have : maxLen = 9223372036854775807 := rfl; omega) (fun v17 => ?_)
       simp only [List.set_cons_zero, List.set_cons_succ]
       refine xg 1 [] rfl rfl ?_
       refine n_ (g_in_normal ?_)
       refine g_perm (.trans (.cons _ (.cons _ (.cons _ (.cons _ (.cons _ (.cons _ (.cons _ (.swap _ _ _)))))))) (.trans (.cons _ (.cons _ (.cons _ (.cons _ (.cons _ (.cons _ (.swap _ _ _))))))) (.trans (.cons _ (.cons _ (.cons _ (.cons _ (.cons _ (.swap _ _ _)))))) (.trans (.cons _ (.cons _ (.cons _ (.cons _ (.swap _ _ _))))) (.trans (.cons _ (.cons _ (.cons _ (.swap _ _ _)))) (.trans (.cons _ (.cons _ (.swap _ _ _))) (.trans (.cons _ (.swap _ _ _)) (.trans (.swap _ _ _) (.cons _ (.swap _ _ _)))))))))) ?_
       refine g_grow ?_
       refine g_perm (.trans (.cons _ (.cons _ (.cons _ (.cons _ (.cons _ (.cons _ (.swap _ _ _))))))) (.trans (.cons _ (.cons _ (.cons _ (.cons _ (.cons _ (.swap _ _ _)))))) (.trans (.cons _ (.cons _ (.cons _ (.cons _ (.swap _ _ _))))) (.trans (.cons _ (.cons _ (.cons _ (.swap _ _ _)))) (.trans (.cons _ (.cons _ (.swap _ _ _))) (.trans (.cons _ (.swap _ _ _)) (.trans (.swap _ _ _) (.trans (.cons _ (.cons _ (.cons _ (.cons _ (.cons _ (.cons _ (.cons _ (.swap _ _ _)))))))) (.trans (.cons _ (.cons _ (.cons _ (.cons _ (.cons _ (.cons _ (.swap _ _ _))))))) (.trans (.cons _ (.cons _ (.cons _ (.cons _ (.cons _ (.swap _ _ _)))))) (.trans (.cons _ (.cons _ (.cons _ (.cons _ (.swap _ _ _))))) (.trans (.cons _ (.cons _ (.cons _ (.swap _ _ _)))) (.trans (.cons _ (.cons _ (.swap _ _ _))) (.trans (.cons _ (.cons _ (.cons _ (.cons _ (.swap _ _ _))))) (.trans (.cons _ (.cons _ (.cons _ (.swap _ _ _)))) (.trans (.cons _ (.cons _ (.cons _ (.cons _ (.cons _ (.swap _ _ _)))))) (.cons _ (.cons _ (.cons _ (.cons _ (.swap _ _ _))))))))))))))))))))) ?_
       exact g_again ⟨(((k1 + 1) + 1), g1, false, off_u, c_u, _, ms ++ [(.mk 4 s0 t_u.mi t_u.ma 0 _ [(.mk 1 t_t.s 0 0 0 nilS [])])]), hpos_u, hgb1, by dsimp only; omega, by dsimp only; rw [List.length_append, List.length_singleton]; omega, fun _ _ _ _ h => hR _ _ _ _ (.piece h3 h2 (.rep (.set ht_t (by omega)) ht_u (isK_tok (by assumption) ht_u)) h)⟩ [0, 2, 3] (by dsimp only; omega) rfl (fun w h => h.pick [0,0,0,0,0] rfl)
      refine g_cond_f rfl (g_skip (t_ (o_ ?_)))
      refine xg 2 [4] rfl (by omega) ?_
      refine g_buildSlice (offs := [0]) rfl rfl Try.underlying28 rfl Try.zeroValue30 (by kernel_rfl) (fun b18 => ?_)
      refine g_appS (bytes := 88) nC ((.mk 1 t_t.s 0 0 0 nilS [])) 6 (j := 0) rfl rfl rfl rfl Try.underlying28 (by kernel_rfl) rfl rfl nC_len rfl (by omega) (by have : maxLen = 9223372036854775807 := rfl; omega) (fun v19 => ?_)
      simp only [List.set_cons_zero, List.set_cons_succ]
      refine xg 1 [] rfl rfl ?_
      refine n_ (g_in_normal ?_)
      refine g_perm (.trans (.cons _ (.cons _ (.cons _ (.cons _ (.cons _ (.cons _ (.swap _ _ _))))))) (.trans (.cons _ (.cons _ (.cons _ (.cons _ (.cons _ (.swap _ _ _)))))) (.trans (.cons _ (.cons _ (.cons _ (.cons _ (.swap _ _ _))))) (.trans (.cons _ (.cons _ (.cons _ (.swap _ _ _)))) (.trans (.cons _ (.cons _ (.swap _ _ _))) (.trans (.cons _ (.swap _ _ _)) (.trans (.swap _ _ _) (.trans (.cons _ (.cons _ (.cons _ (.swap _ _ _)))) (.trans (.cons _ (.cons _ (.swap _ _ _))) (.cons _ (.swap _ _ _))))))))))) ?_
      refine g_grow ?_
      refine g_perm (.trans (.cons _ (.cons _ (.cons _ (.cons _ (.cons _ (.swap _ _ _)))))) (.trans (.cons _ (.cons _ (.cons _ (.cons _ (.swap _ _ _))))) (.trans (.cons _ (.cons _ (.cons _ (.swap _ _ _)))) (.trans (.cons _ (.cons _ (.swap _ _ _))) (.trans (.cons _ (.swap _ _ _)) (.trans (.swap _ _ _) (.trans (.cons _ (.cons _ (.cons _ (.cons _ (.cons _ (.cons _ (.swap _ _ _))))))) (.trans (.cons _ (.cons _ (.cons _ (.cons _ (.cons _ (.swap _ _ _)))))) (.trans (.cons _ (.cons _ (.cons _ (.cons _ (.swap _ _ _))))) (.trans (.cons _ (.cons _ (.cons _ (.swap _ _ _)))) (.trans (.cons _ (.cons _ (.swap _ _ _))) (.trans (.cons _ (.cons _ (.cons _ (.swap _ _ _)))) (.cons _ (.cons _ (.cons _ (.cons _ (.swap _ _ _))))))))))))))))) ?_
      exact g_again ⟨((k1 + 1), g1, false, off_t, c_t, _, ms ++ [(.mk 1 t_t.s 0 0 0 nilS [])]), hpos_t, hgb1, by dsimp only; omega, by dsimp only; rw [List.length_append, List.length_singleton]; omega, fun _ _ _ _ h => hR _ _ _ _ (.piece h3 h2 (.plain (.set ht_t (by omega)) (by assumption)) h)⟩ [0, 2, 3] (by dsimp only; omega) rfl (fun w h => h.pick [0,0,0,0,0] rfl)
     refine g_cond_f rfl (o_ ?_)
     refine xg 1 [] rfl rfl ?_
     refine g_perm (.trans (.swap _ _ _) (.cons _ (.swap _ _ _))) ?_
     refine g_callOwn (L0 := [.cells pb 53 [.slice (some ⟨gb, off_t, none⟩) (ts.length - (k1 + 1)) c_t, .int .i64 g1, .bool false], .row 64 7 (.slice (some ⟨gb, 0, none⟩) ts.length c0) ts.length (ts.flatMap tC)]) (fun x : {x : PX // (fun ts k g _ t k' g' b' => RGrp ts k g t k' g' b') ts (k1 + 1) g1 false x.t x.k x.g x.b ∧ Pos ts x.k x.off x.c ∧ GB x.g x.b ∧ (k1 + 1) ≤ x.k} => .agg (nC x.1.t).toArray) (fun x => [PEnt pb gb ts x.1.k x.1.g x.1.b x.1.off x.1.c, TEnt gb c0 ts, .forest [x.1.t]]) rfl rfl rfl Try.call43 (fun w hS => hgrp pb gb c0 (k1 + 1) off_t c_t ts g1 false _ w (by first | trivial | rfl) hpos_t hgb1 hts (by omega) hS.part) ?_
     rintro ⟨⟨⟨nk_q, ns_q, nm_q, nx_q, nu_q, nv_q, nq_q⟩, k_q, g_q, b_q, off_q, c_q⟩, hr_q, hpos_q, hgb_q, hk_q⟩
     dsimp only at hr_q hpos_q hgb_q hk_q
     simp only [List.cons_append, List.nil_append]
     refine g_kids 2 rfl (fun pv_q cv_q hv_q => ?_)
     cases hv_q
     refine xg 1 [4] rfl (by omega) ?_
     refine n_ (g_in_normal (t_ (s_ (s_ (o_ ?_)))))
     refine xg 1 [] rfl rfl ?_
     refine g_callOwn (L0 := [.cells pb 53 [.slice (some ⟨gb, off_q, none⟩) (ts.length - k_q) c_q, .int .i64 g_q, .bool b_q], .row 64 7 (.slice (some ⟨gb, 0, none⟩) ts.length c0) ts.length (ts.flatMap tC)]) (fun _ : Unit => .bool (isK ts k_q 4)) (fun _ => [.cells pb 53 [.slice (some ⟨gb, off_q, none⟩) (ts.length - k_q) c_q, .int .i64 g_q, .bool b_q], .row 64 7 (.slice (some ⟨gb, 0, none⟩) ts.length c0) ts.length (ts.flatMap tC)]) rfl rfl rfl Try.call31 (fun w hS => is_any pb gb c0 k_q off_q c_q ts _ _ 4 _ w hpos_q hS.part) (fun _ => ?_)
     simp only [List.cons_append, List.nil_append]
     refine n_ (t_ ?_)
     first | refine g_casep 59 rfl (fun h11 => ?_) fun h11 => ?_ | refine g_caseb 59 rfl (fun h11 => ?_) fun h11 => ?_
     ·refine g_cond_t rfl (s_ (o_ ?_))
      refine xg 1 [] rfl rfl ?_
      refine g_callOwn (L0 := [.cells pb 53 [.slice (some ⟨gb, off_q, none⟩) (ts.length - k_q) c_q, .int .i64 g_q, .bool b_q], .row 64 7 (.slice (some ⟨gb, 0, none⟩) ts.length c0) ts.length (ts.flatMap tC)]) (fun x : {x : Tok × Nat × Nat // ts[k_q]? = some x.1 ∧ Pos ts (k_q + 1) x.2.1 x.2.2} => .agg (tC x.1.1).toArray) (fun x => [.cells pb 53 [.slice (some ⟨gb, x.1.2.1, none⟩) (ts.length - (k_q + 1)) x.1.2.2, .int .i64 g_q, .bool b_q], .row 64 7 (.slice (some ⟨gb, 0, none⟩) ts.length c0) ts.length (ts.flatMap tC)]) rfl rfl rfl Try.call32 (fun w hS => take_any pb gb c0 k_q off_q c_q ts _ _ (by first | omega | exact isK_lt (by assumption)) _ w hpos_q hS.part) ?_
      rintro ⟨⟨t_u, off_u, c_u⟩, ht_u, hpos_u⟩
      dsimp only at ht_u hpos_u
      simp only [List.cons_append, List.nil_append]
      refine g_alloc rfl rfl Try.zeroValue64 rfl (fun b20 => ?_)
      refine xg 1 [0] rfl (by omega) ?_
      refine nto_ ?_
      refine xg 5 [0,0,5] rfl (by omega) ?_
      refine g_buildSlice (offs := [0]) rfl rfl Try.underlying28 rfl Try.zeroValue30 (by kernel_rfl) (fun b21 => ?_)
      refine xg 2 [6] rfl (by omega) ?_
      refine n_ (t_ ?_)
      refine g_rowOf (n := 1) nC [(.mk nk_q ns_q nm_q nx_q nu_q (.slice pv_q nq_q.length cv_q) nq_q)] 0 rfl rfl nC_len rfl (by decide) ?_
      simp only [List.set_cons_zero]
      refine g_perm (.trans (.cons _ (.cons _ (.cons _ (.swap _ _ _)))) (.trans (.cons _ (.cons _ (.swap _ _ _))) (.cons _ (.swap _ _ _)))) ?_
      refine g_node 4 s0 t_u.mi t_u.ma 0 rfl ?_
      refine o_ ?_
      refine xg 2 [5] rfl (by omega) ?_
      refine g_buildSlice (offs := [0]) rfl rfl Try.underlying28 rfl Try.zeroValue30 (by kernel_rfl) (fun b22 => ?_)
      refine g_appS (bytes := 88) nC ((.mk 4 s0 t_u.mi t_u.ma 0 _ [(.mk nk_q ns_q nm_q nx_q nu_q (.slice pv_q nq_q.length cv_q) nq_q)])) 7 (j := 0) rfl rfl rfl rfl Try.underlying28 (by kernel_rfl) rfl rfl nC_len rfl (by omega) (by have : maxLen = 9223372036854775807 := rfl; omega) (fun v23 => ?_)
      simp only [List.set_cons_zero, List.set_cons_succ]
      refine xg 1 [] rfl rfl ?_
      refine n_ (g_in_normal ?_)
      refine g_perm (.trans (.cons _ (.cons _ (.cons _ (.cons _ (.cons _ (.cons _ (.cons _ (.swap _ _ _)))))))) (.trans (.cons _ (.cons _ (.cons _ (.cons _ (.cons _ (.cons _ (.swap _ _ _))))))) (.trans (.cons _ (.cons _ (.cons _ (.cons _ (.cons _ (.swap _ _ _)))))) (.trans (.cons _ (.cons _ (.cons _ (.cons _ (.swap _ _ _))))) (.trans (.cons _ (.cons _ (.cons _ (.swap _ _ _)))) (.trans (.cons _ (.cons _ (.swap _ _ _))) (.trans (.cons _ (.swap _ _ _)) (.trans (.swap _ _ _) (.cons _ (.swap _ _ _)))))))))) ?_
      refine g_grow ?_
      refine g_perm (.trans (.cons _ (.cons _ (.cons _ (.cons _ (.cons _ (.cons _ (.swap _ _ _))))))) (.trans (.cons _ (.cons _ (.cons _ (.cons _ (.cons _ (.swap _ _ _)))))) (.trans (.cons _ (.cons _ (.cons _ (.cons _ (.swap _ _ _))))) (.trans (.cons _ (.cons _ (.cons _ (.swap _ _ _)))) (.trans (.cons _ (.cons _ (.swap _ _ _))) (.trans (.cons _ (.swap _ _ _)) (.trans (.swap _ _ _) (.trans (.cons _ (.cons _ (.cons _ (.cons _ (.cons _ (.cons _ (.cons _ (.swap _ _ _)))))))) (.trans (.cons _ (.cons _ (.cons _ (.cons _ (.cons _ (.cons _ (.swap _ _ _))))))) (.trans (.cons _ (.cons _ (.cons _ (.cons _ (.cons _ (.swap _ _ _)))))) (.trans (.cons _ (.cons _ (.cons _ (.cons _ (.swap _ _ _))))) (.trans (.cons _ (.cons _ (.cons _ (.swap _ _ _)))) (.trans (.cons _ (.cons _ (.swap _ _ _))) (.trans (.cons _ (.cons _ (.cons _ (.cons _ (.swap _ _ _))))) (.trans (.cons _ (.cons _ (.cons _ (.swap _ _ _)))) (.trans (.cons _ (.cons _ (.cons _ (.cons _ (.cons _ (.swap _ _ _)))))) (.cons _ (.cons _ (.cons _ (.cons _ (.swap _ _ _))))))))))))))))))))) ?_
      exact g_again ⟨((k_q + 1), g_q, b_q, off_u, c_u, _, ms ++ [(.mk 4 s0 t_u.mi t_u.ma 0 _ [(.mk nk_q ns_q nm_q nx_q nu_q (.slice pv_q nq_q.length cv_q) nq_q)])]), hpos_u, hgb_q, by dsimp only; omega, by dsimp only; rw [List.length_append, List.length_singleton]; omega, fun _ _ _ _ h => hR _ _ _ _ (.piece h3 h2 (.rep (.group ht_t (by omega) (by omega) (by omega) (by omega) hr_q) ht_u (isK_tok (by assumption) ht_u)) h)⟩ [0, 2, 3] (by dsimp only; omega) rfl (fun w h => h.pick [0,0,0,0,0] rfl)
     refine g_cond_f rfl (g_skip (t_ (o_ ?_)))
     refine xg 2 [4] rfl (by omega) ?_
     refine g_buildSlice (offs := [0]) rfl rfl Try.underlying28 rfl Try.zeroValue30 (by kernel_rfl) (fun b24 => ?_)
     refine g_appS (bytes := 88) nC ((.mk nk_q ns_q nm_q nx_q nu_q (.slice pv_q nq_q.length cv_q) nq_q)) 6 (j := 0) rfl rfl rfl rfl Try.underlying28 (by kernel_rfl) rfl rfl nC_len rfl (by omega) (by have : maxLen = 9223372036854775807 := rfl; omega) (fun v25 => ?_)
     simp only [List.set_cons_zero, List.set_cons_succ]
     refine xg 1 [] rfl rfl ?_
     refine n_ (g_in_normal ?_)
     refine g_perm (.trans (.cons _ (.cons _ (.cons _ (.cons _ (.cons _ (.cons _ (.swap _ _ _))))))) (.trans (.cons _ (.cons _ (.cons _ (.cons _ (.cons _ (.swap _ _ _)))))) (.trans (.cons _ (.cons _ (.cons _ (.cons _ (.swap _ _ _))))) (.trans (.cons _ (.cons _ (.cons _ (.swap _ _ _)))) (.trans (.cons _ (.cons _ (.swap _ _ _))) (.trans (.cons _ (.swap _ _ _)) (.trans (.swap _ _ _) (.trans (.cons _ (.cons _ (.cons _ (.swap _ _ _)))) (.trans (.cons _ (.cons _ (.swap _ _ _))) (.cons _ (.swap _ _ _))))))))))) ?_
     refine g_grow ?_
     refine g_perm (.trans (.cons _ (.cons _ (.cons _ (.cons _ (.cons _ (.swap _ _ _)))))) (.trans (.cons _ (.cons _ (.cons _ (.cons _ (.swap _ _ _))))) (.trans (.cons _ (.cons _ (.cons _ (.swap _ _ _)))) (.trans (.cons _ (.cons _ (.swap _ _ _))) (.trans (.cons _ (.swap _ _ _)) (.trans (.swap _ _ _) (.trans (.cons _ (.cons _ (.cons _ (.cons _ (.cons _ (.cons _ (.swap _ _ _))))))) (.trans (.cons _ (.cons _ (.cons _ (.cons _ (.cons _ (.swap _ _ _)))))) (.trans (.cons _ (.cons _ (.cons _ (.cons _ (.swap _ _ _))))) (.trans (.cons _ (.cons _ (.cons _ (.swap _ _ _)))) (.trans (.cons _ (.cons _ (.swap _ _ _))) (.trans (.cons _ (.cons _ (.cons _ (.swap _ _ _)))) (.cons _ (.cons _ (.cons _ (.cons _ (.swap _ _ _))))))))))))))))) ?_
     exact g_again ⟨(k_q, g_q, b_q, off_q, c_q, _, ms ++ [(.mk nk_q ns_q nm_q nx_q nu_q (.slice pv_q nq_q.length cv_q) nq_q)]), hpos_q, hgb_q, by dsimp only; omega, by dsimp only; rw [List.length_append, List.length_singleton]; omega, fun _ _ _ _ h => hR _ _ _ _ (.piece h3 h2 (.plain (.group ht_t (by omega) (by omega) (by omega) (by omega) hr_q) (by assumption)) h)⟩ [0, 2, 3] (by dsimp only; omega) rfl (fun w h => h.pick [0,0,0,0,0] rfl)
    refine g_cond_f rfl (g_exit (g_then_exit (g_then_exit (g_in_exit (t_ (s_ ?_))))))
    rcases b1 with _ | _ <;> rcases ms with _ | ⟨⟨nk, ns, nm, nx, nu, nv, nq⟩, _ | ⟨t2, ms⟩⟩
    ·refine o_ ?_
     refine xg 5 [0] rfl (by omega) ?_
     refine g_lit 77 false rfl (rfl) ?_
     refine xg 2 [] rfl rfl ?_
     refine g_rowLen 2 rfl (fun pr12 cr12 hv12 => ?_)
     cases hv12
     refine g_val rfl rfl rfl (y_llen rfl Try.underlying28) ?_
     refine xg 1 [0] rfl rfl ?_
     refine g_lit 81 true rfl (by decide) ?_
     refine xg 3 [] rfl rfl ?_
     refine g_st 0 rfl rfl rfl Try.sizeOf4 rfl rfl rfl ?_
     simp only [List.set_cons_zero]
     refine n_ (t_ (s_ (s_ (o_ ?_))))
     refine xg 3 [0] rfl rfl ?_
     refine g_lit 87 false rfl (by decide) ?_
     refine n_ (t_ (g_cond_f rfl (g_skip (t_ (s_ ?_)))))
     refine g_perm (.trans (.cons _ (.swap _ _ _)) (.trans (.swap _ _ _) (.trans (.cons _ (.cons _ (.swap _ _ _))) (.cons _ (.swap _ _ _))))) ?_
     refine g_node 2 s0 0 0 0 rfl ?_
     refine g_perm (.trans (.swap _ _ _) (.cons _ (.swap _ _ _))) ?_
     refine o_ ?_
     refine xg 3 [3] rfl (by omega) ?_
     refine n_ (t_ (g_ret ?_))
     refine g_end_cell 3 Try.results30 rfl rfl Try.isAgg30 Try.sizeOf30 rfl ?_
     have hq := RRow.many (ts := ts) (v := (.slice pr12 (([] : List MT).length) cr12)) (hR ([] : List MT) k1 g1 false (.stop (by first | exact .inr (.inl rfl) | exact .inl (by omega) | (refine .inr (.inr (.inl ?_)); simp_all; done) | (refine .inr (.inr (.inr ?_)); simp_all; done) | (exfalso; simp_all; done)))) (by simp)
     exact fun w hS => ⟨⟨⟨.mk 2 s0 0 0 0 (.slice pr12 (([] : List MT).length) cr12) ([] : List MT), k1, g1, true, off1, c1⟩, hq, hpos1, ⟨hgb1.1, hgb1.2.1, fun h => by cases h⟩, hk01⟩, rfl, hS.pick [0,0,0] rfl⟩
    ·refine o_ ?_
     refine xg 5 [0] rfl (by omega) ?_
     refine g_lit 77 false rfl (rfl) ?_
     refine xg 2 [] rfl rfl ?_
     refine g_rowLen 2 rfl (fun pr13 cr13 hv13 => ?_)
     cases hv13
     refine g_val rfl rfl rfl (y_llen rfl Try.underlying28) ?_
     refine xg 1 [0] rfl rfl ?_
     refine g_lit 81 false rfl (decide_eq_false (by simp)) ?_
     refine xg 3 [] rfl rfl ?_
     refine g_st 0 rfl rfl rfl Try.sizeOf4 rfl rfl rfl ?_
     simp only [List.set_cons_zero]
     refine n_ (t_ (s_ (s_ (o_ ?_))))
     refine xg 3 [0] rfl rfl ?_
     refine g_lit 87 true rfl (decide_eq_true rfl) ?_
     refine n_ (t_ (g_cond_t rfl (s_ ?_)))
     refine g_perm (.cons _ (.cons _ (.swap _ _ _))) ?_
     refine g_kids 2 rfl (fun pv cv hv => ?_)
     cases hv
     have hone : ([.mk nk ns nm nx nu (.slice pv nq.length cv) nq] : List MT).length = 1 := rfl
     refine o_ ?_
     refine xg 1 [] rfl rfl ?_
     refine g_rowCase 3 rfl (by omega) (fun gr14 cr14 hv14 => ?_)
     cases hv14
     refine g_val rfl rfl rfl (y_idxAddr (m := 0 * 9 + 0) rfl rfl Try.underlying28 Try.sizeOf30 (by omega) (by omega) (by omega)) ?_
     refine g_val rfl rfl rfl (y_ldRN (k := 9) (vs := nC (.mk nk ns nm nx nu (.slice pv nq.length cv) nq)) 3 rfl Try.isAgg30 Try.sizeOf30 rfl (fm_elem nC 9 nC_len _ 0 _ (rfl)) (nC_len _)) ?_
     refine xg 1 [4] rfl (by omega) ?_
     refine n_ (t_ (g_ret (g_then_ret ?_)))
     refine g_end_cell 4 Try.results30 rfl rfl Try.isAgg30 Try.sizeOf30 rfl ?_
     exact fun w hS => ⟨⟨⟨.mk nk ns nm nx nu _ nq, k1, g1, false, off1, c1⟩, .one (hR _ _ _ _ (.stop (by first | exact .inr (.inl rfl) | exact .inl (by omega) | (refine .inr (.inr (.inl ?_)); simp_all; done) | (refine .inr (.inr (.inr ?_)); simp_all; done) | (exfalso; simp_all; done)))), hpos1, hgb1, hk01⟩, rfl, hS.pick [0,0,0] rfl⟩
    ·refine o_ ?_
     refine xg 5 [0] rfl (by omega) ?_
     refine g_lit 77 false rfl (rfl) ?_
     refine xg 2 [] rfl rfl ?_
     refine g_rowLen 2 rfl (fun pr15 cr15 hv15 => ?_)
     cases hv15
     refine g_val rfl rfl rfl (y_llen rfl Try.underlying28) ?_
     refine xg 1 [0] rfl rfl ?_
     refine g_lit 81 false rfl (decide_eq_false (by simp; omega)) ?_
     refine xg 3 [] rfl rfl ?_
     refine g_st 0 rfl rfl rfl Try.sizeOf4 rfl rfl rfl ?_
     simp only [List.set_cons_zero]
     refine n_ (t_ (s_ (s_ (o_ ?_))))
     refine xg 3 [0] rfl rfl ?_
     refine g_lit 87 false rfl (decide_eq_false (by simp; omega)) ?_
     refine n_ (t_ (g_cond_f rfl (g_skip (t_ (s_ ?_)))))
     refine g_perm (.trans (.cons _ (.swap _ _ _)) (.trans (.swap _ _ _) (.trans (.cons _ (.cons _ (.swap _ _ _))) (.cons _ (.swap _ _ _))))) ?_
     refine g_node 2 s0 0 0 0 rfl ?_
     refine g_perm (.trans (.swap _ _ _) (.cons _ (.swap _ _ _))) ?_
     refine o_ ?_
     refine xg 3 [3] rfl (by omega) ?_
     refine n_ (t_ (g_ret ?_))
     refine g_end_cell 3 Try.results30 rfl rfl Try.isAgg30 Try.sizeOf30 rfl ?_
     have hq := RRow.many (ts := ts) (v := (.slice pr15 ((.mk nk ns nm nx nu nv nq :: t2 :: ms).length) cr15)) (hR (.mk nk ns nm nx nu nv nq :: t2 :: ms) k1 g1 false (.stop (by first | exact .inr (.inl rfl) | exact .inl (by omega) | (refine .inr (.inr (.inl ?_)); simp_all; done) | (refine .inr (.inr (.inr ?_)); simp_all; done) | (exfalso; simp_all; done)))) (by simp)
     exact fun w hS => ⟨⟨⟨.mk 2 s0 0 0 0 (.slice pr15 ((.mk nk ns nm nx nu nv nq :: t2 :: ms).length) cr15) (.mk nk ns nm nx nu nv nq :: t2 :: ms), k1, g1, false, off1, c1⟩, hq, hpos1, hgb1, hk01⟩, rfl, hS.pick [0,0,0] rfl⟩
    ·refine o_ ?_
     refine xg 5 [0] rfl (by omega) ?_
     refine g_lit 77 true rfl (rfl) ?_
     refine xg 7 [] rfl rfl ?_
     refine g_st 0 rfl rfl rfl Try.sizeOf4 rfl rfl rfl ?_
     simp only [List.set_cons_zero]
     refine n_ (t_ (s_ (s_ (o_ ?_))))
     refine xg 1 [] rfl rfl ?_
     refine g_rowLen 2 rfl (fun pr16 cr16 hv16 => ?_)
     cases hv16
     refine g_val rfl rfl rfl (y_llen rfl Try.underlying28) ?_
     refine xg 1 [0] rfl rfl ?_
     refine g_lit 87 false rfl (by decide) ?_
     refine n_ (t_ (g_cond_f rfl (g_skip (t_ (s_ ?_)))))
     refine g_perm (.trans (.cons _ (.swap _ _ _)) (.trans (.swap _ _ _) (.trans (.cons _ (.cons _ (.swap _ _ _))) (.cons _ (.swap _ _ _))))) ?_
     refine g_node 2 s0 0 0 0 rfl ?_
     refine g_perm (.trans (.swap _ _ _) (.cons _ (.swap _ _ _))) ?_
     refine o_ ?_
     refine xg 3 [3] rfl (by omega) ?_
     refine n_ (t_ (g_ret ?_))
     refine g_end_cell 3 Try.results30 rfl rfl Try.isAgg30 Try.sizeOf30 rfl ?_
     have hq := RRow.many (ts := ts) (v := (.slice pr16 (([] : List MT).length) cr16)) (hR ([] : List MT) k1 g1 true (.stop (by first | exact .inr (.inl rfl) | exact .inl (by omega) | (refine .inr (.inr (.inl ?_)); simp_all; done) | (refine .inr (.inr (.inr ?_)); simp_all; done) | (exfalso; simp_all; done)))) (by simp)
     exact fun w hS => ⟨⟨⟨.mk 2 s0 0 0 0 (.slice pr16 (([] : List MT).length) cr16) ([] : List MT), k1, g1, true, off1, c1⟩, hq, hpos1, hgb1, hk01⟩, rfl, hS.pick [0,0,0] rfl⟩
    ·refine o_ ?_
     refine xg 5 [0] rfl (by omega) ?_
     refine g_lit 77 true rfl (rfl) ?_
     refine xg 7 [] rfl rfl ?_
     refine g_st 0 rfl rfl rfl Try.sizeOf4 rfl rfl rfl ?_
     simp only [List.set_cons_zero]
     refine n_ (t_ (s_ (s_ (o_ ?_))))
     refine xg 1 [] rfl rfl ?_
     refine g_rowLen 2 rfl (fun pr17 cr17 hv17 => ?_)
     cases hv17
     refine g_val rfl rfl rfl (y_llen rfl Try.underlying28) ?_
     refine xg 1 [0] rfl rfl ?_
     refine g_lit 87 true rfl (decide_eq_true rfl) ?_
     refine n_ (t_ (g_cond_t rfl (s_ ?_)))
     refine g_perm (.cons _ (.cons _ (.swap _ _ _))) ?_
     refine g_kids 2 rfl (fun pv cv hv => ?_)
     cases hv
     have hone : ([.mk nk ns nm nx nu (.slice pv nq.length cv) nq] : List MT).length = 1 := rfl
     refine o_ ?_
     refine xg 1 [] rfl rfl ?_
     refine g_rowCase 3 rfl (by omega) (fun gr18 cr18 hv18 => ?_)
     cases hv18
     refine g_val rfl rfl rfl (y_idxAddr (m := 0 * 9 + 0) rfl rfl Try.underlying28 Try.sizeOf30 (by omega) (by omega) (by omega)) ?_
     refine g_val rfl rfl rfl (y_ldRN (k := 9) (vs := nC (.mk nk ns nm nx nu (.slice pv nq.length cv) nq)) 3 rfl Try.isAgg30 Try.sizeOf30 rfl (fm_elem nC 9 nC_len _ 0 _ (rfl)) (nC_len _)) ?_
     refine xg 1 [4] rfl (by omega) ?_
     refine n_ (t_ (g_ret (g_then_ret ?_)))
     refine g_end_cell 4 Try.results30 rfl rfl Try.isAgg30 Try.sizeOf30 rfl ?_
     exact fun w hS => ⟨⟨⟨.mk nk ns nm nx nu _ nq, k1, g1, true, off1, c1⟩, .one (hR _ _ _ _ (.stop (by first | exact .inr (.inl rfl) | exact .inl (by omega) | (refine .inr (.inr (.inl ?_)); simp_all; done) | (refine .inr (.inr (.inr ?_)); simp_all; done) | (exfalso; simp_all; done)))), hpos1, hgb1, hk01⟩, rfl, hS.pick [0,0,0] rfl⟩
    refine o_ ?_
    refine xg 5 [0] rfl (by omega) ?_
    refine g_lit 77 true rfl (rfl) ?_
    refine xg 7 [] rfl rfl ?_
    refine g_st 0 rfl rfl rfl Try.sizeOf4 rfl rfl rfl ?_
    simp only [List.set_cons_zero]
    refine n_ (t_ (s_ (s_ (o_ ?_))))
    refine xg 1 [] rfl rfl ?_
    refine g_rowLen 2 rfl (fun pr19 cr19 hv19 => ?_)
    cases hv19
    refine g_val rfl rfl rfl (y_llen rfl Try.underlying28) ?_
    refine xg 1 [0] rfl rfl ?_
    refine g_lit 87 false rfl (decide_eq_false (by simp; omega)) ?_
    refine n_ (t_ (g_cond_f rfl (g_skip (t_ (s_ ?_)))))
    refine g_perm (.trans (.cons _ (.swap _ _ _)) (.trans (.swap _ _ _) (.trans (.cons _ (.cons _ (.swap _ _ _))) (.cons _ (.swap _ _ _))))) ?_
    refine g_node 2 s0 0 0 0 rfl ?_
    refine g_perm (.trans (.swap _ _ _) (.cons _ (.swap _ _ _))) ?_
    refine o_ ?_
    refine xg 3 [3] rfl (by omega) ?_
    refine n_ (t_ (g_ret ?_))
    refine g_end_cell 3 Try.results30 rfl rfl Try.isAgg30 Try.sizeOf30 rfl ?_
    have hq := RRow.many (ts := ts) (v := (.slice pr19 ((.mk nk ns nm nx nu nv nq :: t2 :: ms).length) cr19)) (hR (.mk nk ns nm nx nu nv nq :: t2 :: ms) k1 g1 true (.stop (by first | exact .inr (.inl rfl) | exact .inl (by omega) | (refine .inr (.inr (.inl ?_)); simp_all; done) | (refine .inr (.inr (.inr ?_)); simp_all; done) | (exfalso; simp_all; done)))) (by simp)
    exact fun w hS => ⟨⟨⟨.mk 2 s0 0 0 0 (.slice pr19 ((.mk nk ns nm nx nu nv nq :: t2 :: ms).length) cr19) (.mk nk ns nm nx nu nv nq :: t2 :: ms), k1, g1, true, off1, c1⟩, hq, hpos1, hgb1, hk01⟩, rfl, hS.pick [0,0,0] rfl⟩
   refine xg 4 [] rfl rfl ?_
   refine n_ (t_ (g_cond_f rfl (g_exit (g_then_exit (g_then_exit (g_in_exit (t_ (s_ ?_))))))))
   rcases b1 with _ | _ <;> rcases ms with _ | ⟨⟨nk, ns, nm, nx, nu, nv, nq⟩, _ | ⟨t2, ms⟩⟩
   ·refine o_ ?_
    refine xg 5 [0] rfl (by omega) ?_
    refine g_lit 77 false rfl (rfl) ?_
    refine xg 2 [] rfl rfl ?_
    refine g_rowLen 2 rfl (fun pr20 cr20 hv20 => ?_)
    cases hv20
    refine g_val rfl rfl rfl (y_llen rfl Try.underlying28) ?_
    refine xg 1 [0] rfl rfl ?_
    refine g_lit 81 true rfl (by decide) ?_
    refine xg 3 [] rfl rfl ?_
    refine g_st 0 rfl rfl rfl Try.sizeOf4 rfl rfl rfl ?_
    simp only [List.set_cons_zero]
    refine n_ (t_ (s_ (s_ (o_ ?_))))
    refine xg 3 [0] rfl rfl ?_
    refine g_lit 87 false rfl (by decide) ?_
    refine n_ (t_ (g_cond_f rfl (g_skip (t_ (s_ ?_)))))
    refine g_perm (.trans (.cons _ (.swap _ _ _)) (.trans (.swap _ _ _) (.trans (.cons _ (.cons _ (.swap _ _ _))) (.cons _ (.swap _ _ _))))) ?_
    refine g_node 2 s0 0 0 0 rfl ?_
    refine g_perm (.trans (.swap _ _ _) (.cons _ (.swap _ _ _))) ?_
    refine o_ ?_
    refine xg 3 [3] rfl (by omega) ?_
    refine n_ (t_ (g_ret ?_))
    refine g_end_cell 3 Try.results30 rfl rfl Try.isAgg30 Try.sizeOf30 rfl ?_
    have hq := RRow.many (ts := ts) (v := (.slice pr20 (([] : List MT).length) cr20)) (hR ([] : List MT) k1 g1 false (.stop (by first | exact .inr (.inl rfl) | exact .inl (by omega) | (refine .inr (.inr (.inl ?_)); simp_all; done) | (refine .inr (.inr (.inr ?_)); simp_all; done) | (exfalso; simp_all; done)))) (by simp)
    exact fun w hS => ⟨⟨⟨.mk 2 s0 0 0 0 (.slice pr20 (([] : List MT).length) cr20) ([] : List MT), k1, g1, true, off1, c1⟩, hq, hpos1, ⟨hgb1.1, hgb1.2.1, fun h => by cases h⟩, hk01⟩, rfl, hS.pick [0,0,0] rfl⟩
   ·refine o_ ?_
    refine xg 5 [0] rfl (by omega) ?_
    refine g_lit 77 false rfl (rfl) ?_
    refine xg 2 [] rfl rfl ?_
    refine g_rowLen 2 rfl (fun pr21 cr21 hv21 => ?_)
    cases hv21
    refine g_val rfl rfl rfl (y_llen rfl Try.underlying28) ?_
    refine xg 1 [0] rfl rfl ?_
    refine g_lit 81 false rfl (decide_eq_false (by simp)) ?_
    refine xg 3 [] rfl rfl ?_
    refine g_st 0 rfl rfl rfl Try.sizeOf4 rfl rfl rfl ?_
    simp only [List.set_cons_zero]
    refine n_ (t_ (s_ (s_ (o_ ?_))))
    refine xg 3 [0] rfl rfl ?_
    refine g_lit 87 true rfl (decide_eq_true rfl) ?_
    refine n_ (t_ (g_cond_t rfl (s_ ?_)))
    refine g_perm (.cons _ (.cons _ (.swap _ _ _))) ?_
    refine g_kids 2 rfl (fun pv cv hv => ?_)
    cases hv
    have hone : ([.mk nk ns nm nx nu (.slice pv nq.length cv) nq] : List MT).length = 1 := rfl
    refine o_ ?_
    refine xg 1 [] rfl rfl ?_
    refine g_rowCase 3 rfl (by omega) (fun gr22 cr22 hv22 => ?_)
    cases hv22
    refine g_val rfl rfl rfl (y_idxAddr (m := 0 * 9 + 0) rfl rfl Try.underlying28 Try.sizeOf30 (by omega) (by omega) (by omega)) ?_
    refine g_val rfl rfl rfl (y_ldRN (k := 9) (vs := nC (.mk nk ns nm nx nu (.slice pv nq.length cv) nq)) 3 rfl Try.isAgg30 Try.sizeOf30 rfl (fm_elem nC 9 nC_len _ 0 _ (rfl)) (nC_len _)) ?_
    refine xg 1 [4] rfl (by omega) ?_
    refine n_ (t_ (g_ret (g_then_ret ?_)))
    refine g_end_cell 4 Try.results30 rfl rfl Try.isAgg30 Try.sizeOf30 rfl ?_
    exact fun w hS => ⟨⟨⟨.mk nk ns nm nx nu _ nq, k1, g1, false, off1, c1⟩, .one (hR _ _ _ _ (.stop (by first | exact .inr (.inl rfl) | exact .inl (by omega) | (refine .inr (.inr (.inl ?_)); simp_all; done) | (refine .inr (.inr (.inr ?_)); simp_all; done) | (exfalso; simp_all; done)))), hpos1, hgb1, hk01⟩, rfl, hS.pick [0,0,0] rfl⟩
   ·refine o_ ?_
    refine xg 5 [0] rfl (by omega) ?_
    refine g_lit 77 false rfl (rfl) ?_
    refine xg 2 [] rfl rfl ?_
    refine g_rowLen 2 rfl (fun pr23 cr23 hv23 => ?_)
    cases hv23
    refine g_val rfl rfl rfl (y_llen rfl Try.underlying28) ?_
    refine xg 1 [0] rfl rfl ?_
    refine g_lit 81 false rfl (decide_eq_false (by simp; omega)) ?_
    refine xg 3 [] rfl rfl ?_
    refine g_st 0 rfl rfl rfl Try.sizeOf4 rfl rfl rfl ?_
    simp only [List.set_cons_zero]
    refine n_ (t_ (s_ (s_ (o_ ?_))))
    refine xg 3 [0] rfl rfl ?_
    refine g_lit 87 false rfl (decide_eq_false (by simp; omega)) ?_
    refine n_ (t_ (g_cond_f rfl (g_skip (t_ (s_ ?_)))))
    refine g_perm (.trans (.cons _ (.swap _ _ _)) (.trans (.swap _ _ _) (.trans (.cons _ (.cons _ (.swap _ _ _))) (.cons _ (.swap _ _ _))))) ?_
    refine g_node 2 s0 0 0 0 rfl ?_
    refine g_perm (.trans (.swap _ _ _) (.cons _ (.swap _ _ _))) ?_
    refine o_ ?_
    refine xg 3 [3] rfl (by omega) ?_
    refine n_ (t_ (g_ret ?_))
    refine g_end_cell 3 Try.results30 rfl rfl Try.isAgg30 Try.sizeOf30 rfl ?_
    have hq := RRow.many (ts := ts) (v := (.slice pr23 ((.mk nk ns nm nx nu nv nq :: t2 :: ms).length) cr23)) (hR (.mk nk ns nm nx nu nv nq :: t2 :: ms) k1 g1 false (.stop (by first | exact .inr (.inl rfl) | exact .inl (by omega) | (refine .inr (.inr (.inl ?_)); simp_all; done) | (refine .inr (.inr (.inr ?_)); simp_all; done) | (exfalso; simp_all; done)))) (by simp)
    exact fun w hS => ⟨⟨⟨.mk 2 s0 0 0 0 (.slice pr23 ((.mk nk ns nm nx nu nv nq :: t2 :: ms).length) cr23) (.mk nk ns nm nx nu nv nq :: t2 :: ms), k1, g1, false, off1, c1⟩, hq, hpos1, hgb1, hk01⟩, rfl, hS.pick [0,0,0] rfl⟩
   ·refine o_ ?_
    refine xg 5 [0] rfl (by omega) ?_
    refine g_lit 77 true rfl (rfl) ?_
    refine xg 7 [] rfl rfl ?_
    refine g_st 0 rfl rfl rfl Try.sizeOf4 rfl rfl rfl ?_
    simp only [List.set_cons_zero]
    refine n_ (t_ (s_ (s_ (o_ ?_))))
    refine xg 1 [] rfl rfl ?_
    refine g_rowLen 2 rfl (fun pr24 cr24 hv24 => ?_)
    cases hv24
    refine g_val rfl rfl rfl (y_llen rfl Try.underlying28) ?_
    refine xg 1 [0] rfl rfl ?_
    refine g_lit 87 false rfl (by decide) ?_
    refine n_ (t_ (g_cond_f rfl (g_skip (t_ (s_ ?_)))))
    refine g_perm (.trans (.cons _ (.swap _ _ _)) (.trans (.swap _ _ _) (.trans (.cons _ (.cons _ (.swap _ _ _))) (.cons _ (.swap _ _ _))))) ?_
    refine g_node 2 s0 0 0 0 rfl ?_
    refine g_perm (.trans (.swap _ _ _) (.cons _ (.swap _ _ _))) ?_
    refine o_ ?_
    refine xg 3 [3] rfl (by omega) ?_
    refine n_ (t_ (g_ret ?_))
    refine g_end_cell 3 Try.results30 rfl rfl Try.isAgg30 Try.sizeOf30 rfl ?_
    have hq := RRow.many (ts := ts) (v := (.slice pr24 (([] : List MT).length) cr24)) (hR ([] : List MT) k1 g1 true (.stop (by first | exact .inr (.inl rfl) | exact .inl (by omega) | (refine .inr (.inr (.inl ?_)); simp_all; done) | (refine .inr (.inr (.inr ?_)); simp_all; done) | (exfalso; simp_all; done)))) (by simp)
    exact fun w hS => ⟨⟨⟨.mk 2 s0 0 0 0 (.slice pr24 (([] : List MT).length) cr24) ([] : List MT), k1, g1, true, off1, c1⟩, hq, hpos1, hgb1, hk01⟩, rfl, hS.pick [0,0,0] rfl⟩
   ·refine o_ ?_
    refine xg 5 [0] rfl (by omega) ?_
    refine g_lit 77 true rfl (rfl) ?_
    refine xg 7 [] rfl rfl ?_
    refine g_st 0 rfl rfl rfl Try.sizeOf4 rfl rfl rfl ?_
    simp only [List.set_cons_zero]
    refine n_ (t_ (s_ (s_ (o_ ?_))))
    refine xg 1 [] rfl rfl ?_
    refine g_rowLen 2 rfl (fun pr25 cr25 hv25 => ?_)
    cases hv25
    refine g_val rfl rfl rfl (y_llen rfl Try.underlying28) ?_
    refine xg 1 [0] rfl rfl ?_
    refine g_lit 87 true rfl (decide_eq_true rfl) ?_
    refine n_ (t_ (g_cond_t rfl (s_ ?_)))
    refine g_perm (.cons _ (.cons _ (.swap _ _ _))) ?_
    refine g_kids 2 rfl (fun pv cv hv => ?_)
    cases hv
    have hone : ([.mk nk ns nm nx nu (.slice pv nq.length cv) nq] : List MT).length = 1 := rfl
    refine o_ ?_
    refine xg 1 [] rfl rfl ?_
    refine g_rowCase 3 rfl (by omega) (fun gr26 cr26 hv26 => ?_)
    cases hv26
    refine g_val rfl rfl rfl (y_idxAddr (m := 0 * 9 + 0) rfl rfl Try.underlying28 Try.sizeOf30 (by omega) (by omega) (by omega)) ?_
    refine g_val rfl rfl rfl (y_ldRN (k := 9) (vs := nC (.mk nk ns nm nx nu (.slice pv nq.length cv) nq)) 3 rfl Try.isAgg30 Try.sizeOf30 rfl (fm_elem nC 9 nC_len _ 0 _ (rfl)) (nC_len _)) ?_
    refine xg 1 [4] rfl (by omega) ?_
    refine n_ (t_ (g_ret (g_then_ret ?_)))
    refine g_end_cell 4 Try.results30 rfl rfl Try.isAgg30 Try.sizeOf30 rfl ?_
    exact fun w hS => ⟨⟨⟨.mk nk ns nm nx nu _ nq, k1, g1, true, off1, c1⟩, .one (hR _ _ _ _ (.stop (by first | exact .inr (.inl rfl) | exact .inl (by omega) | (refine .inr (.inr (.inl ?_)); simp_all; done) | (refine .inr (.inr (.inr ?_)); simp_all; done) | (exfalso; simp_all; done)))), hpos1, hgb1, hk01⟩, rfl, hS.pick [0,0,0] rfl⟩
   refine o_ ?_
   refine xg 5 [0] rfl (by omega) ?_
   refine g_lit 77 true rfl (rfl) ?_
   refine xg 7 [] rfl rfl ?_
   refine g_st 0 rfl rfl rfl Try.sizeOf4 rfl rfl rfl ?_
   simp only [List.set_cons_zero]
   refine n_ (t_ (s_ (s_ (o_ ?_))))
   refine xg 1 [] rfl rfl ?_
   refine g_rowLen 2 rfl (fun pr27 cr27 hv27 => ?_)
   cases hv27
   refine g_val rfl rfl rfl (y_llen rfl Try.underlying28) ?_
   refine xg 1 [0] rfl rfl ?_
   refine g_lit 87 false rfl (decide_eq_false (by simp; omega)) ?_
   refine n_ (t_ (g_cond_f rfl (g_skip (t_ (s_ ?_)))))
   refine g_perm (.trans (.cons _ (.swap _ _ _)) (.trans (.swap _ _ _) (.trans (.cons _ (.cons _ (.swap _ _ _))) (.cons _ (.swap _ _ _))))) ?_
   refine g_node 2 s0 0 0 0 rfl ?_
   refine g_perm (.trans (.swap _ _ _) (.cons _ (.swap _ _ _))) ?_
   refine o_ ?_
   refine xg 3 [3] rfl (by omega) ?_
   refine n_ (t_ (g_ret ?_))
   refine g_end_cell 3 Try.results30 rfl rfl Try.isAgg30 Try.sizeOf30 rfl ?_
   have hq := RRow.many (ts := ts) (v := (.slice pr27 ((.mk nk ns nm nx nu nv nq :: t2 :: ms).length) cr27)) (hR (.mk nk ns nm nx nu nv nq :: t2 :: ms) k1 g1 true (.stop (by first | exact .inr (.inl rfl) | exact .inl (by omega) | (refine .inr (.inr (.inl ?_)); simp_all; done) | (refine .inr (.inr (.inr ?_)); simp_all; done) | (exfalso; simp_all; done)))) (by simp)
   exact fun w hS => ⟨⟨⟨.mk 2 s0 0 0 0 (.slice pr27 ((.mk nk ns nm nx nu nv nq :: t2 :: ms).length) cr27) (.mk nk ns nm nx nu nv nq :: t2 :: ms), k1, g1, true, off1, c1⟩, hq, hpos1, hgb1, hk01⟩, rfl, hS.pick [0,0,0] rfl⟩
  refine xg 9 [] rfl rfl ?_
  refine n_ (t_ (g_cond_f rfl (g_exit (g_then_exit (g_then_exit (g_in_exit (t_ (s_ ?_))))))))
  rcases b1 with _ | _ <;> rcases ms with _ | ⟨⟨nk, ns, nm, nx, nu, nv, nq⟩, _ | ⟨t2, ms⟩⟩
  ·refine o_ ?_
   refine xg 5 [3] rfl (by omega) ?_
   refine g_lit 77 false rfl (rfl) ?_
   refine xg 2 [] rfl rfl ?_
   refine g_rowLen 0 rfl (fun pr28 cr28 hv28 => ?_)
   cases hv28
   refine g_val rfl rfl rfl (y_llen rfl Try.underlying28) ?_
   refine xg 1 [0] rfl rfl ?_
   refine g_lit 81 true rfl (by decide) ?_
   refine xg 3 [] rfl rfl ?_
   refine g_st 3 rfl rfl rfl Try.sizeOf4 rfl rfl rfl ?_
   simp only [List.set_cons_zero, List.set_cons_succ]
   refine n_ (t_ (s_ (s_ (o_ ?_))))
   refine xg 3 [0] rfl rfl ?_
   refine g_lit 87 false rfl (by decide) ?_
   refine n_ (t_ (g_cond_f rfl (g_skip (t_ (s_ ?_)))))
   refine g_node 2 s0 0 0 0 rfl ?_
   refine g_perm (.trans (.cons _ (.swap _ _ _)) (.trans (.swap _ _ _) (.trans (.cons _ (.cons _ (.swap _ _ _))) (.cons _ (.swap _ _ _))))) ?_
   refine o_ ?_
   refine xg 3 [3] rfl (by omega) ?_
   refine n_ (t_ (g_ret ?_))
   refine g_end_cell 3 Try.results30 rfl rfl Try.isAgg30 Try.sizeOf30 rfl ?_
   have hq := RRow.many (ts := ts) (v := (.slice pr28 (([] : List MT).length) cr28)) (hR ([] : List MT) k1 g1 false (.stop (by first | exact .inr (.inl rfl) | exact .inl (by omega) | (refine .inr (.inr (.inl ?_)); simp_all; done) | (refine .inr (.inr (.inr ?_)); simp_all; done) | (exfalso; simp_all; done)))) (by simp)
   exact fun w hS => ⟨⟨⟨.mk 2 s0 0 0 0 (.slice pr28 (([] : List MT).length) cr28) ([] : List MT), k1, g1, true, off1, c1⟩, hq, hpos1, ⟨hgb1.1, hgb1.2.1, fun h => by cases h⟩, hk01⟩, rfl, hS.pick [0,0,0] rfl⟩
  ·refine o_ ?_
   refine xg 5 [3] rfl (by omega) ?_
   refine g_lit 77 false rfl (rfl) ?_
   refine xg 2 [] rfl rfl ?_
   refine g_rowLen 0 rfl (fun pr29 cr29 hv29 => ?_)
   cases hv29
   refine g_val rfl rfl rfl (y_llen rfl Try.underlying28) ?_
   refine xg 1 [0] rfl rfl ?_
   refine g_lit 81 false rfl (decide_eq_false (by simp)) ?_
   refine xg 3 [] rfl rfl ?_
   refine g_st 3 rfl rfl rfl Try.sizeOf4 rfl rfl rfl ?_
   simp only [List.set_cons_zero, List.set_cons_succ]
   refine n_ (t_ (s_ (s_ (o_ ?_))))
   refine xg 3 [0] rfl rfl ?_
   refine g_lit 87 true rfl (decide_eq_true rfl) ?_
   refine n_ (t_ (g_cond_t rfl (s_ ?_)))
   refine g_perm (.trans (.cons _ (.cons _ (.swap _ _ _))) (.trans (.cons _ (.swap _ _ _)) (.trans (.swap _ _ _) (.trans (.cons _ (.cons _ (.cons _ (.swap _ _ _)))) (.trans (.cons _ (.cons _ (.swap _ _ _))) (.trans (.cons _ (.swap _ _ _)) (.cons _ (.cons _ (.swap _ _ _))))))))) ?_
   refine g_kids 2 rfl (fun pv cv hv => ?_)
   cases hv
   have hone : ([.mk nk ns nm nx nu (.slice pv nq.length cv) nq] : List MT).length = 1 := rfl
   refine o_ ?_
   refine xg 1 [] rfl rfl ?_
   refine g_rowCase 3 rfl (by omega) (fun gr30 cr30 hv30 => ?_)
   cases hv30
   refine g_val rfl rfl rfl (y_idxAddr (m := 0 * 9 + 0) rfl rfl Try.underlying28 Try.sizeOf30 (by omega) (by omega) (by omega)) ?_
   refine g_val rfl rfl rfl (y_ldRN (k := 9) (vs := nC (.mk nk ns nm nx nu (.slice pv nq.length cv) nq)) 3 rfl Try.isAgg30 Try.sizeOf30 rfl (fm_elem nC 9 nC_len _ 0 _ (rfl)) (nC_len _)) ?_
   refine xg 1 [4] rfl (by omega) ?_
   refine n_ (t_ (g_ret (g_then_ret ?_)))
   refine g_end_cell 4 Try.results30 rfl rfl Try.isAgg30 Try.sizeOf30 rfl ?_
   exact fun w hS => ⟨⟨⟨.mk nk ns nm nx nu _ nq, k1, g1, false, off1, c1⟩, .one (hR _ _ _ _ (.stop (by first | exact .inr (.inl rfl) | exact .inl (by omega) | (refine .inr (.inr (.inl ?_)); simp_all; done) | (refine .inr (.inr (.inr ?_)); simp_all; done) | (exfalso; simp_all; done)))), hpos1, hgb1, hk01⟩, rfl, hS.pick [0,0,0] rfl⟩
  ·refine o_ ?_
   refine xg 5 [3] rfl (by omega) ?_
   refine g_lit 77 false rfl (rfl) ?_
   refine xg 2 [] rfl rfl ?_
   refine g_rowLen 0 rfl (fun pr31 cr31 hv31 => ?_)
   cases hv31
   refine g_val rfl rfl rfl (y_llen rfl Try.underlying28) ?_
   refine xg 1 [0] rfl rfl ?_
   refine g_lit 81 false rfl (decide_eq_false (by simp; omega)) ?_
   refine xg 3 [] rfl rfl ?_
   refine g_st 3 rfl rfl rfl Try.sizeOf4 rfl rfl rfl ?_
   simp only [List.set_cons_zero, List.set_cons_succ]
   refine n_ (t_ (s_ (s_ (o_ ?_))))
   refine xg 3 [0] rfl rfl ?_
   refine g_lit 87 false rfl (decide_eq_false (by simp; omega)) ?_
   refine n_ (t_ (g_cond_f rfl (g_skip (t_ (s_ ?_)))))
   refine g_node 2 s0 0 0 0 rfl ?_
   refine g_perm (.trans (.cons _ (.swap _ _ _)) (.trans (.swap _ _ _) (.trans (.cons _ (.cons _ (.swap _ _ _))) (.cons _ (.swap _ _ _))))) ?_
   refine o_ ?_
   refine xg 3 [3] rfl (by omega) ?_
   refine n_ (t_ (g_ret ?_))
   refine g_end_cell 3 Try.results30 rfl rfl Try.isAgg30 Try.sizeOf30 rfl ?_
   have hq := RRow.many (ts := ts) (v := (.slice pr31 ((.mk nk ns nm nx nu nv nq :: t2 :: ms).length) cr31)) (hR (.mk nk ns nm nx nu nv nq :: t2 :: ms) k1 g1 false (.stop (by first | exact .inr (.inl rfl) | exact .inl (by omega) | (refine .inr (.inr (.inl ?_)); simp_all; done) | (refine .inr (.inr (.inr ?_)); simp_all; done) | (exfalso; simp_all; done)))) (by simp)
   exact fun w hS => ⟨⟨⟨.mk 2 s0 0 0 0 (.slice pr31 ((.mk nk ns nm nx nu nv nq :: t2 :: ms).length) cr31) (.mk nk ns nm nx nu nv nq :: t2 :: ms), k1, g1, false, off1, c1⟩, hq, hpos1, hgb1, hk01⟩, rfl, hS.pick [0,0,0] rfl⟩
  ·refine o_ ?_
   refine xg 5 [3] rfl (by omega) ?_
   refine g_lit 77 true rfl (rfl) ?_
   refine xg 7 [] rfl rfl ?_
   refine g_st 3 rfl rfl rfl Try.sizeOf4 rfl rfl rfl ?_
   simp only [List.set_cons_zero, List.set_cons_succ]
   refine n_ (t_ (s_ (s_ (o_ ?_))))
   refine xg 1 [] rfl rfl ?_
   refine g_rowLen 0 rfl (fun pr32 cr32 hv32 => ?_)
   cases hv32
   refine g_val rfl rfl rfl (y_llen rfl Try.underlying28) ?_
   refine xg 1 [0] rfl rfl ?_
   refine g_lit 87 false rfl (by decide) ?_
   refine n_ (t_ (g_cond_f rfl (g_skip (t_ (s_ ?_)))))
   refine g_node 2 s0 0 0 0 rfl ?_
   refine g_perm (.trans (.cons _ (.swap _ _ _)) (.trans (.swap _ _ _) (.trans (.cons _ (.cons _ (.swap _ _ _))) (.cons _ (.swap _ _ _))))) ?_
   refine o_ ?_
   refine xg 3 [3] rfl (by omega) ?_
   refine n_ (t_ (g_ret ?_))
   refine g_end_cell 3 Try.results30 rfl rfl Try.isAgg30 Try.sizeOf30 rfl ?_
   have hq := RRow.many (ts := ts) (v := (.slice pr32 (([] : List MT).length) cr32)) (hR ([] : List MT) k1 g1 true (.stop (by first | exact .inr (.inl rfl) | exact .inl (by omega) | (refine .inr (.inr (.inl ?_)); simp_all; done) | (refine .inr (.inr (.inr ?_)); simp_all; done) | (exfalso; simp_all; done)))) (by simp)
   exact fun w hS => ⟨⟨⟨.mk 2 s0 0 0 0 (.slice pr32 (([] : List MT).length) cr32) ([] : List MT), k1, g1, true, off1, c1⟩, hq, hpos1, hgb1, hk01⟩, rfl, hS.pick [0,0,0] rfl⟩
  ·refine o_ ?_
   refine xg 5 [3] rfl (by omega) ?_
   refine g_lit 77 true rfl (rfl) ?_
   refine xg 7 [] rfl rfl ?_
   refine g_st 3 rfl rfl rfl Try.sizeOf4 rfl rfl rfl ?_
   simp only [List.set_cons_zero, List.set_cons_succ]
   refine n_ (t_ (s_ (s_ (o_ ?_))))
   refine xg 1 [] rfl rfl ?_
   refine g_rowLen 0 rfl (fun pr33 cr33 hv33 => ?_)
   cases hv33
   refine g_val rfl rfl rfl (y_llen rfl Try.underlying28) ?_
   refine xg 1 [0] rfl rfl ?_
   refine g_lit 87 true rfl (decide_eq_true rfl) ?_
   refine n_ (t_ (g_cond_t rfl (s_ ?_)))
   refine g_perm (.trans (.cons _ (.cons _ (.swap _ _ _))) (.trans (.cons _ (.swap _ _ _)) (.trans (.swap _ _ _) (.trans (.cons _ (.cons _ (.cons _ (.swap _ _ _)))) (.trans (.cons _ (.cons _ (.swap _ _ _))) (.trans (.cons _ (.swap _ _ _)) (.cons _ (.cons _ (.swap _ _ _))))))))) ?_
   refine g_kids 2 rfl (fun pv cv hv => ?_)
   cases hv
   have hone : ([.mk nk ns nm nx nu (.slice pv nq.length cv) nq] : List MT).length = 1 := rfl
   refine o_ ?_
   refine xg 1 [] rfl rfl ?_
   refine g_rowCase 3 rfl (by omega) (fun gr34 cr34 hv34 => ?_)
   cases hv34
   refine g_val rfl rfl rfl (y_idxAddr (m := 0 * 9 + 0) rfl rfl Try.underlying28 Try.sizeOf30 (by omega) (by omega) (by omega)) ?_
   refine g_val rfl rfl rfl (y_ldRN (k := 9) (vs := nC (.mk nk ns nm nx nu (.slice pv nq.length cv) nq)) 3 rfl Try.isAgg30 Try.sizeOf30 rfl (fm_elem nC 9 nC_len _ 0 _ (rfl)) (nC_len _)) ?_
   refine xg 1 [4] rfl (by omega) ?_
   refine n_ (t_ (g_ret (g_then_ret ?_)))
   refine g_end_cell 4 Try.results30 rfl rfl Try.isAgg30 Try.sizeOf30 rfl ?_
   exact fun w hS => ⟨⟨⟨.mk nk ns nm nx nu _ nq, k1, g1, true, off1, c1⟩, .one (hR _ _ _ _ (.stop (by first | exact .inr (.inl rfl) | exact .inl (by omega) | (refine .inr (.inr (.inl ?_)); simp_all; done) | (refine .inr (.inr (.inr ?_)); simp_all; done) | (exfalso; simp_all; done)))), hpos1, hgb1, hk01⟩, rfl, hS.pick [0,0,0] rfl⟩
  refine o_ ?_
  refine xg 5 [3] rfl (by omega) ?_
  refine g_lit 77 true rfl (rfl) ?_
  refine xg 7 [] rfl rfl ?_
  refine g_st 3 rfl rfl rfl Try.sizeOf4 rfl rfl rfl ?_
  simp only [List.set_cons_zero, List.set_cons_succ]
  refine n_ (t_ (s_ (s_ (o_ ?_))))
  refine xg 1 [] rfl rfl ?_
  refine g_rowLen 0 rfl (fun pr35 cr35 hv35 => ?_)
  cases hv35
  refine g_val rfl rfl rfl (y_llen rfl Try.underlying28) ?_
  refine xg 1 [0] rfl rfl ?_
  refine g_lit 87 false rfl (decide_eq_false (by simp; omega)) ?_
  refine n_ (t_ (g_cond_f rfl (g_skip (t_ (s_ ?_)))))
  refine g_node 2 s0 0 0 0 rfl ?_
  refine g_perm (.trans (.cons _ (.swap _ _ _)) (.trans (.swap _ _ _) (.trans (.cons _ (.cons _ (.swap _ _ _))) (.cons _ (.swap _ _ _))))) ?_
  refine o_ ?_
  refine xg 3 [3] rfl (by omega) ?_
  refine n_ (t_ (g_ret ?_))
  refine g_end_cell 3 Try.results30 rfl rfl Try.isAgg30 Try.sizeOf30 rfl ?_
  have hq := RRow.many (ts := ts) (v := (.slice pr35 ((.mk nk ns nm nx nu nv nq :: t2 :: ms).length) cr35)) (hR (.mk nk ns nm nx nu nv nq :: t2 :: ms) k1 g1 true (.stop (by first | exact .inr (.inl rfl) | exact .inl (by omega) | (refine .inr (.inr (.inl ?_)); simp_all; done) | (refine .inr (.inr (.inr ?_)); simp_all; done) | (exfalso; simp_all; done)))) (by simp)
  exact fun w hS => ⟨⟨⟨.mk 2 s0 0 0 0 (.slice pr35 ((.mk nk ns nm nx nu nv nq :: t2 :: ms).length) cr35) (.mk nk ns nm nx nu nv nq :: t2 :: ms), k1, g1, true, off1, c1⟩, hq, hpos1, hgb1, hk01⟩, rfl, hS.pick [0,0,0] rfl⟩
 refine xg 16 [] rfl rfl ?_
 refine n_ (t_ (g_cond_f rfl (g_exit (g_then_exit (g_then_exit (g_in_exit (t_ (s_ ?_))))))))
 rcases b1 with _ | _ <;> rcases ms with _ | ⟨⟨nk, ns, nm, nx, nu, nv, nq⟩, _ | ⟨t2, ms⟩⟩
 ·refine o_ ?_
  refine xg 5 [3] rfl (by omega) ?_
  refine g_lit 77 false rfl (rfl) ?_
  refine xg 2 [] rfl rfl ?_
  refine g_rowLen 0 rfl (fun pr36 cr36 hv36 => ?_)
  cases hv36
  refine g_val rfl rfl rfl (y_llen rfl Try.underlying28) ?_
  refine xg 1 [0] rfl rfl ?_
  refine g_lit 81 true rfl (by decide) ?_
  refine xg 3 [] rfl rfl ?_
  refine g_st 3 rfl rfl rfl Try.sizeOf4 rfl rfl rfl ?_
  simp only [List.set_cons_zero, List.set_cons_succ]
  refine n_ (t_ (s_ (s_ (o_ ?_))))
  refine xg 3 [0] rfl rfl ?_
  refine g_lit 87 false rfl (by decide) ?_
  refine n_ (t_ (g_cond_f rfl (g_skip (t_ (s_ ?_)))))
  refine g_node 2 s0 0 0 0 rfl ?_
  refine g_perm (.trans (.cons _ (.swap _ _ _)) (.trans (.swap _ _ _) (.trans (.cons _ (.cons _ (.swap _ _ _))) (.cons _ (.swap _ _ _))))) ?_
  refine o_ ?_
  refine xg 3 [3] rfl (by omega) ?_
  refine n_ (t_ (g_ret ?_))
  refine g_end_cell 3 Try.results30 rfl rfl Try.isAgg30 Try.sizeOf30 rfl ?_
  have hq := RRow.many (ts := ts) (v := (.slice pr36 (([] : List MT).length) cr36)) (hR ([] : List MT) k1 g1 false (.stop (by first | exact .inr (.inl rfl) | exact .inl (by omega) | (refine .inr (.inr (.inl ?_)); simp_all; done) | (refine .inr (.inr (.inr ?_)); simp_all; done) | (exfalso; simp_all; done)))) (by simp)
  exact fun w hS => ⟨⟨⟨.mk 2 s0 0 0 0 (.slice pr36 (([] : List MT).length) cr36) ([] : List MT), k1, g1, true, off1, c1⟩, hq, hpos1, ⟨hgb1.1, hgb1.2.1, fun h => by cases h⟩, hk01⟩, rfl, hS.pick [0,0,0] rfl⟩
 ·refine o_ ?_
  refine xg 5 [3] rfl (by omega) ?_
  refine g_lit 77 false rfl (rfl) ?_
  refine xg 2 [] rfl rfl ?_
  refine g_rowLen 0 rfl (fun pr37 cr37 hv37 => ?_)
  cases hv37
  refine g_val rfl rfl rfl (y_llen rfl Try.underlying28) ?_
  refine xg 1 [0] rfl rfl ?_
  refine g_lit 81 false rfl (decide_eq_false (by simp)) ?_
  refine xg 3 [] rfl rfl ?_
  refine g_st 3 rfl rfl rfl Try.sizeOf4 rfl rfl rfl ?_
  simp only [List.set_cons_zero, List.set_cons_succ]
  refine n_ (t_ (s_ (s_ (o_ ?_))))
  refine xg 3 [0] rfl rfl ?_
  refine g_lit 87 true rfl (decide_eq_true rfl) ?_
  refine n_ (t_ (g_cond_t rfl (s_ ?_)))
  refine g_perm (.trans (.cons _ (.cons _ (.swap _ _ _))) (.trans (.cons _ (.swap _ _ _)) (.trans (.swap _ _ _) (.trans (.cons _ (.cons _ (.cons _ (.swap _ _ _)))) (.trans (.cons _ (.cons _ (.swap _ _ _))) (.trans (.cons _ (.swap _ _ _)) (.cons _ (.cons _ (.swap _ _ _))))))))) ?_
  refine g_kids 2 rfl (fun pv cv hv => ?_)
  cases hv
  have hone : ([.mk nk ns nm nx nu (.slice pv nq.length cv) nq] : List MT).length = 1 := rfl
  refine o_ ?_
  refine xg 1 [] rfl rfl ?_
  refine g_rowCase 3 rfl (by omega) (fun gr38 cr38 hv38 => ?_)
  cases hv38
  refine g_val rfl rfl rfl (y_idxAddr (m := 0 * 9 + 0) rfl rfl Try.underlying28 Try.sizeOf30 (by omega) (by omega) (by omega)) ?_
  refine g_val rfl rfl rfl (y_ldRN (k := 9) (vs := nC (.mk nk ns nm nx nu (.slice pv nq.length cv) nq)) 3 rfl Try.isAgg30 Try.sizeOf30 rfl (fm_elem nC 9 nC_len _ 0 _ (rfl)) (nC_len _)) ?_
  refine xg 1 [4] rfl (by omega) ?_
  refine n_ (t_ (g_ret (g_then_ret ?_)))
  refine g_end_cell 4 Try.results30 rfl rfl Try.isAgg30 Try.sizeOf30 rfl ?_
  exact fun w hS => ⟨⟨⟨.mk nk ns nm nx nu _ nq, k1, g1, false, off1, c1⟩, .one (hR _ _ _ _ (.stop (by first | exact .inr (.inl rfl) | exact .inl (by omega) | (refine .inr (.inr (.inl ?_)); simp_all; done) | (refine .inr (.inr (.inr ?_)); simp_all; done) | (exfalso; simp_all; done)))), hpos1, hgb1, hk01⟩, rfl, hS.pick [0,0,0] rfl⟩
 ·refine o_ ?_
  refine xg 5 [3] rfl (by omega) ?_
  refine g_lit 77 false rfl (rfl) ?_
  refine xg 2 [] rfl rfl ?_
  refine g_rowLen 0 rfl (fun pr39 cr39 hv39 => ?_)
  cases hv39
  refine g_val rfl rfl rfl (y_llen rfl Try.underlying28) ?_
  refine xg 1 [0] rfl rfl ?_
  refine g_lit 81 false rfl (decide_eq_false (by simp; omega)) ?_
  refine xg 3 [] rfl rfl ?_
  refine g_st 3 rfl rfl rfl Try.sizeOf4 rfl rfl rfl ?_
  simp only [List.set_cons_zero, List.set_cons_succ]
  refine n_ (t_ (s_ (s_ (o_ ?_))))
  refine xg 3 [0] rfl rfl ?_
  refine g_lit 87 false rfl (decide_eq_false (by simp; omega)) ?_
  refine n_ (t_ (g_cond_f rfl (g_skip (t_ (s_ ?_)))))
  refine g_node 2 s0 0 0 0 rfl ?_
  refine g_perm (.trans (.cons _ (.swap _ _ _)) (.trans (.swap _ _ _) (.trans (.cons _ (.cons _ (.swap _ _ _))) (.cons _ (.swap _ _ _))))) ?_
  refine o_ ?_
  refine xg 3 [3] rfl (by omega) ?_
  refine n_ (t_ (g_ret ?_))
  refine g_end_cell 3 Try.results30 rfl rfl Try.isAgg30 Try.sizeOf30 rfl ?_
  have hq := RRow.many (ts := ts) (v := (.slice pr39 ((.mk nk ns nm nx nu nv nq :: t2 :: ms).length) cr39)) (hR (.mk nk ns nm nx nu nv nq :: t2 :: ms) k1 g1 false (.stop (by first | exact .inr (.inl rfl) | exact .inl (by omega) | (refine .inr (.inr (.inl ?_)); simp_all; done) | (refine .inr (.inr (.inr ?_)); simp_all; done) | (exfalso; simp_all; done)))) (by simp)
  exact fun w hS => ⟨⟨⟨.mk 2 s0 0 0 0 (.slice pr39 ((.mk nk ns nm nx nu nv nq :: t2 :: ms).length) cr39) (.mk nk ns nm nx nu nv nq :: t2 :: ms), k1, g1, false, off1, c1⟩, hq, hpos1, hgb1, hk01⟩, rfl, hS.pick [0,0,0] rfl⟩
 ·refine o_ ?_
  refine xg 5 [3] rfl (by omega) ?_
  refine g_lit 77 true rfl (rfl) ?_
  refine xg 7 [] rfl rfl ?_
  refine g_st 3 rfl rfl rfl Try.sizeOf4 rfl rfl rfl ?_
  simp only [List.set_cons_zero, List.set_cons_succ]
  refine n_ (t_ (s_ (s_ (o_ ?_))))
  refine xg 1 [] rfl rfl ?_
  refine g_rowLen 0 rfl (fun pr40 cr40 hv40 => ?_)
  cases hv40
  refine g_val rfl rfl rfl (y_llen rfl Try.underlying28) ?_
  refine xg 1 [0] rfl rfl ?_
  refine g_lit 87 false rfl (by decide) ?_
  refine n_ (t_ (g_cond_f rfl (g_skip (t_ (s_ ?_)))))
  refine g_node 2 s0 0 0 0 rfl ?_
  refine g_perm (.trans (.cons _ (.swap _ _ _)) (.trans (.swap _ _ _) (.trans (.cons _ (.cons _ (.swap _ _ _))) (.cons _ (.swap _ _ _))))) ?_
  refine o_ ?_
  refine xg 3 [3] rfl (by omega) ?_
  refine n_ (t_ (g_ret ?_))
  refine g_end_cell 3 Try.results30 rfl rfl Try.isAgg30 Try.sizeOf30 rfl ?_
  have hq := RRow.many (ts := ts) (v := (.slice pr40 (([] : List MT).length) cr40)) (hR ([] : List MT) k1 g1 true (.stop (by first | exact .inr (.inl rfl) | exact .inl (by omega) | (refine .inr (.inr (.inl ?_)); simp_all; done) | (refine .inr (.inr (.inr ?_)); simp_all; done) | (exfalso; simp_all; done)))) (by simp)
  exact fun w hS => ⟨⟨⟨.mk 2 s0 0 0 0 (.slice pr40 (([] : List MT).length) cr40) ([] : List MT), k1, g1, true, off1, c1⟩, hq, hpos1, hgb1, hk01⟩, rfl, hS.pick [0,0,0] rfl⟩
 ·refine o_ ?_
  refine xg 5 [3] rfl (by omega) ?_
  refine g_lit 77 true rfl (rfl) ?_
  refine xg 7 [] rfl rfl ?_
  refine g_st 3 rfl rfl rfl Try.sizeOf4 rfl rfl rfl ?_
  simp only [List.set_cons_zero, List.set_cons_succ]
  refine n_ (t_ (s_ (s_ (o_ ?_))))
  refine xg 1 [] rfl rfl ?_
  refine g_rowLen 0 rfl (fun pr41 cr41 hv41 => ?_)
  cases hv41
  refine g_val rfl rfl rfl (y_llen rfl Try.underlying28) ?_
  refine xg 1 [0] rfl rfl ?_
  refine g_lit 87 true rfl (decide_eq_true rfl) ?_
  refine n_ (t_ (g_cond_t rfl (s_ ?_)))
  refine g_perm (.trans (.cons _ (.cons _ (.swap _ _ _))) (.trans (.cons _ (.swap _ _ _)) (.trans (.swap _ _ _) (.trans (.cons _ (.cons _ (.cons _ (.swap _ _ _)))) (.trans (.cons _ (.cons _ (.swap _ _ _))) (.trans (.cons _ (.swap _ _ _)) (.cons _ (.cons _ (.swap _ _ _))))))))) ?_
  refine g_kids 2 rfl (fun pv cv hv => ?_)
  cases hv
  have hone : ([.mk nk ns nm nx nu (.slice pv nq.length cv) nq] : List MT).length = 1 := rfl
  refine o_ ?_
  refine xg 1 [] rfl rfl ?_
  refine g_rowCase 3 rfl (by omega) (fun gr42 cr42 hv42 => ?_)
  cases hv42
  refine g_val rfl rfl rfl (y_idxAddr (m := 0 * 9 + 0) rfl rfl Try.underlying28 Try.sizeOf30 (by omega) (by omega) (by omega)) ?_
  refine g_val rfl rfl rfl (y_ldRN (k := 9) (vs := nC (.mk nk ns nm nx nu (.slice pv nq.length cv) nq)) 3 rfl Try.isAgg30 Try.sizeOf30 rfl (fm_elem nC 9 nC_len _ 0 _ (rfl)) (nC_len _)) ?_
  refine xg 1 [4] rfl (by omega) ?_
  refine n_ (t_ (g_ret (g_then_ret ?_)))
  refine g_end_cell 4 Try.results30 rfl rfl Try.isAgg30 Try.sizeOf30 rfl ?_
  exact fun w hS => ⟨⟨⟨.mk nk ns nm nx nu _ nq, k1, g1, true, off1, c1⟩, .one (hR _ _ _ _ (.stop (by first | exact .inr (.inl rfl) | exact .inl (by omega) | (refine .inr (.inr (.inl ?_)); simp_all; done) | (refine .inr (.inr (.inr ?_)); simp_all; done) | (exfalso; simp_all; done)))), hpos1, hgb1, hk01⟩, rfl, hS.pick [0,0,0] rfl⟩
 refine o_ ?_
 refine xg 5 [3] rfl (by omega) ?_
 refine g_lit 77 true rfl (rfl) ?_
 refine xg 7 [] rfl rfl ?_
 refine g_st 3 rfl rfl rfl Try.sizeOf4 rfl rfl rfl ?_
 simp only [List.set_cons_zero, List.set_cons_succ]
 refine n_ (t_ (s_ (s_ (o_ ?_))))
 refine xg 1 [] rfl rfl ?_
 refine g_rowLen 0 rfl (fun pr43 cr43 hv43 => ?_)
 cases hv43
 refine g_val rfl rfl rfl (y_llen rfl Try.underlying28) ?_
 refine xg 1 [0] rfl rfl ?_
 refine g_lit 87 false rfl (decide_eq_false (by simp; omega)) ?_
 refine n_ (t_ (g_cond_f rfl (g_skip (t_ (s_ ?_)))))
 refine g_node 2 s0 0 0 0 rfl ?_
 refine g_perm (.trans (.cons _ (.swap _ _ _)) (.trans (.swap _ _ _) (.trans (.cons _ (.cons _ (.swap _ _ _))) (.cons _ (.swap _ _ _))))) ?_
 refine o_ ?_
 refine xg 3 [3] rfl (by omega) ?_
 refine n_ (t_ (g_ret ?_))
 refine g_end_cell 3 Try.results30 rfl rfl Try.isAgg30 Try.sizeOf30 rfl ?_
 have hq := RRow.many (ts := ts) (v := (.slice pr43 ((.mk nk ns nm nx nu nv nq :: t2 :: ms).length) cr43)) (hR (.mk nk ns nm nx nu nv nq :: t2 :: ms) k1 g1 true (.stop (by first | exact .inr (.inl rfl) | exact .inl (by omega) | (refine .inr (.inr (.inl ?_)); simp_all; done) | (refine .inr (.inr (.inr ?_)); simp_all; done) | (exfalso; simp_all; done)))) (by simp)
 exact fun w hS => ⟨⟨⟨.mk 2 s0 0 0 0 (.slice pr43 ((.mk nk ns nm nx nu nv nq :: t2 :: ms).length) cr43) (.mk nk ns nm nx nu nv nq :: t2 :: ms), k1, g1, true, off1, c1⟩, hq, hpos1, hgb1, hk01⟩, rfl, hS.pick [0,0,0] rfl⟩

end Go.Proofs.Ytpoelkfncpjmfaa
