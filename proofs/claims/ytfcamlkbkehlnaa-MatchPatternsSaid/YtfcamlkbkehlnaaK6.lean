/- The texts that the proof leans on, one behind the other (6 of 7). -/
import Derived.Test.YtfcamlkbkehlnaaK5
/- The document's sets of bytes, loosely: named, Bracket. -/
namespace Go.Proofs.Ytfcamlkbkehlnaa
open Go Go.RowKit

set_option maxRecDepth 100000 in
theorem nd10_any (l : List UInt8) (hl : l.length ≤ 1000000) (i : Nat) (hi : i ≤ 1000000) (w : World) :
    Calls Try.prog 94 #[st8 l, .int .i64 (i : Int)] w fun e w' => ∃ x : {x : (Nat → Int) × Int × Bool // (∀ j, 0 ≤ x.1 j) ∧ (x.2.2 = true → (i : Int) + 4 ≤ x.2.1 ∧ x.2.1 ≤ l.length)}, e = .returned (.tuple #[.agg (s4C x.1.1).toArray, .int .i64 x.1.2.1, .bool x.1.2.2]) ∧ Below w.heap.size w w' := by
 have hszl := size_mk l
 refine fn_intro Try.func94 rfl Try.ntmps94 rfl rfl ?_
 refine s_ (o_ ?_)
 refine g_alloc rfl rfl Try.zeroValue25 rfl (fun b1 => ?_)
 refine g_nrm (L' := .cells b1 25 (s4C s0) :: _) rfl ?_
 refine xg 2 [] rfl rfl ?_
 refine n_ (t_ (s_ (s_ ?_)))
 refine g_cutc (α := {b : Bool // b = false → i + 1 < l.length}) (fun x => [(0, st8 l), (1, .int .i64 (i : Int)), (4, .pointer (some ⟨b1, 0, none⟩)), (27, .bool x.1)]) (fun x => [.cells b1 25 (s4C s0)]) ?_ ?_
 ·rintro ⟨u, hu⟩
  try dsimp only
  refine t_ ?_
  first | refine g_casep 27 rfl (fun h1 => ?_) fun h1 => ?_ | refine g_caseb 27 rfl (fun h1 => ?_) fun h1 => ?_
  ·refine g_cond_t rfl (s_ (o_ ?_))
   refine g_val (v := .agg (s4C s0).toArray) rfl rfl rfl (y_build (offs := []) rfl Try.zeroValue25 (by kernel_rfl)) ?_
   refine g_stN 0 rfl rfl rfl (by kernel_rfl) rfl rfl rfl rfl ?_
   simp only [List.set_cons_zero, List.set_cons_succ]
   refine xg 2 [] rfl rfl ?_
   refine n_ (t_ (g_ret (g_then_ret ?_)))
   refine g_end_cell3 0 Try.results94 rfl rfl rfl rfl Try.isAgg25 Try.sizeOf25 rfl ?_
   exact fun w hS => ⟨⟨(s0, _, _), ⟨s0_nn, fun h => by cases h⟩⟩, rfl, hS.below⟩
  refine g_cond_f rfl (g_skip (t_ (s_ (s_ (o_ ?_)))))
  refine xg 3 [] rfl (by omega) ?_
  refine n_ (t_ (g_block ?_))
  refine g_loop (α := {x : Nat // i + 2 ≤ x ∧ x ≤ l.length}) (fun x => [(0, st8 l), (1, .int .i64 (i : Int)), (4, .pointer (some ⟨b1, 0, none⟩)), (7, .int .i64 (x.1 : Int))]) (fun x => St w [] [.cells b1 25 (s4C s0)]) (fun x => l.length - x.1) ⟨i + 2, by have := hu (by assumption); omega, by have := hu (by assumption); omega⟩ [0, 1, 4, 7] rfl (fun w h => h.pick [0] rfl) ?_
  rintro ⟨k, hk1, hk2⟩
  dsimp only
  refine s_ (s_ (o_ ?_))
  refine xg 3 [] rfl (by omega) ?_
  refine g_val (v := .int .i64 (l.length : Int)) rfl rfl rfl (y_val (y_slen rfl Try.underlying9) (by rw [size_mk])) ?_
  refine xg 1 [0] rfl rfl ?_
  refine n_ (t_ ?_)
  refine g_casep 35 rfl (fun h2 => ?_) fun h2 => ?_
  ·refine g_cond_t rfl (g_skip (t_ (s_ (g_block (s_ ?_)))))
   refine g_cutc (α := Bool) (fun x => [(0, st8 l), (1, .int .i64 (i : Int)), (4, .pointer (some ⟨b1, 0, none⟩)), (7, .int .i64 (k : Int)), (48, .bool x)]) (fun x => [.cells b1 25 (s4C s0)]) ?_ ?_
   ·intro u2
    try dsimp only
    refine t_ ?_
    first | refine g_casep 48 rfl (fun h3 => ?_) fun h3 => ?_ | refine g_caseb 48 rfl (fun h3 => ?_) fun h3 => ?_
    ·refine g_cond_t rfl (s_ (o_ ?_))
     refine xg 5 [] rfl (by omega) ?_
     refine g_callE (fun x : {x : (Nat → Int) × Bool // ∀ j, 0 ≤ x.1 j} => .tuple #[.agg (s4C x.1.1).toArray, .bool x.1.2]) rfl rfl rfl Try.call100 (fun w hS => named10_any _ w) ?_
     rintro ⟨⟨s, ok⟩, hs⟩
     dsimp only at hs ⊢
     refine xg 3 [] rfl rfl ?_
     refine g_alloc rfl rfl Try.zeroValue25 rfl (fun b2 => ?_)
     refine g_nrm (L' := .cells b2 25 (s4C s0) :: _) rfl ?_
     refine g_stN 0 rfl rfl rfl (by kernel_rfl) rfl rfl rfl rfl ?_
     simp only [List.set_cons_zero, List.set_cons_succ]
     refine xg 1 [] rfl rfl ?_
     refine ntso_ ?_
     refine g_val (v := .agg (s4C s).toArray) rfl rfl rfl (y_ldN (vs := s4C s) 0 rfl Try.isAgg25 Try.sizeOf25 rfl rfl rfl) ?_
     refine xg 3 [] rfl (by omega) ?_
     refine g_stN 1 rfl rfl rfl (by kernel_rfl) rfl rfl rfl rfl ?_
     simp only [List.set_cons_zero, List.set_cons_succ]
     refine xg 2 [] rfl rfl ?_
     refine n_ (t_ (g_ret (g_in_ret (g_then_ret (g_then_ret (g_in_ret (g_then_ret ?_)))))))
     refine g_end_cell3 1 Try.results94 rfl rfl rfl rfl Try.isAgg25 Try.sizeOf25 rfl ?_
     exact fun w hS => ⟨⟨(s, _, _), ⟨hs, fun _ => ⟨by dsimp only; omega, by dsimp only; omega⟩⟩⟩, rfl, hS.below⟩
    refine g_cond_f rfl (g_skip (g_in_normal (t_ (o_ ?_))))
    refine xg 3 [] rfl (by omega) ?_
    refine n_ ?_
    exact g_again ⟨k + 1, by omega, by omega⟩ [0, 1, 4, 7] (by dsimp only; omega) rfl (fun w h => h.pick [0] rfl)
   intro hj
   refine o_ ?_
   refine xg 2 [] rfl rfl ?_
   refine g_val (v := .int .u8 (bt ⟨l.toArray⟩ (k : Int))) rfl rfl rfl (y_sat rfl rfl Try.underlying9 (by omega) (by rw [size_mk]; omega)) ?_
   refine xg 2 [0] rfl rfl ?_
   refine g_casep 42 rfl (fun h4 => ?_) fun h4 => ?_
   ·refine xg 3 [] rfl (by omega) ?_
    refine g_val (v := .int .u8 (bt ⟨l.toArray⟩ ((k : Int) + 1))) rfl rfl rfl (y_sat rfl rfl Try.underlying9 (by omega) (by rw [size_mk]; omega)) ?_
    refine xg 2 [0] rfl rfl ?_
    refine n_ ?_
    exact g_fall (hj _) [0, 1, 4, 7, 48] rfl (fun w h => h.pick [0] rfl)
   refine xg 6 [] rfl rfl ?_
   refine n_ ?_
   exact g_fall (hj _) [0, 1, 4, 7, 48] rfl (fun w h => h.pick [0] rfl)
  refine g_cond_f rfl (g_exit (g_then_exit (g_then_exit (g_in_exit (t_ (s_ (o_ ?_)))))))
  refine g_val (v := .agg (s4C s0).toArray) rfl rfl rfl (y_build (offs := []) rfl Try.zeroValue25 (by kernel_rfl)) ?_
  refine g_stN 0 rfl rfl rfl (by kernel_rfl) rfl rfl rfl rfl ?_
  simp only [List.set_cons_zero, List.set_cons_succ]
  refine xg 2 [] rfl rfl ?_
  refine n_ (t_ (g_ret ?_))
  refine g_end_cell3 0 Try.results94 rfl rfl rfl rfl Try.isAgg25 Try.sizeOf25 rfl ?_
  exact fun w hS => ⟨⟨(s0, _, _), ⟨s0_nn, fun h => by cases h⟩⟩, rfl, hS.below⟩
 intro hj
 refine o_ ?_
 refine xg 3 [] rfl (by omega) ?_
 refine g_val (v := .int .i64 (l.length : Int)) rfl rfl rfl (y_val (y_slen rfl Try.underlying9) (by rw [size_mk])) ?_
 refine xg 2 [0] rfl rfl ?_
 refine g_casep 15 rfl (fun h5 => ?_) fun h5 => ?_
 ·refine xg 12 [] rfl rfl ?_
  refine n_ ?_
  exact g_fall (hj ⟨_, by first | (intro h; cases h; done) | (intro _; omega)⟩) [0, 1, 4, 27] rfl (fun w h => h.pick [0] rfl)
 refine xg 2 [] rfl rfl ?_
 refine g_val (v := .int .u8 (bt ⟨l.toArray⟩ (i : Int))) rfl rfl rfl (y_sat rfl rfl Try.underlying9 (by omega) (by rw [size_mk]; omega)) ?_
 refine xg 3 [0] rfl rfl ?_
 refine g_casep 21 rfl (fun h6 => ?_) fun h6 => ?_
 ·refine xg 6 [] rfl rfl ?_
  refine n_ ?_
  exact g_fall (hj ⟨_, by first | (intro h; cases h; done) | (intro _; omega)⟩) [0, 1, 4, 27] rfl (fun w h => h.pick [0] rfl)
 refine xg 3 [] rfl (by omega) ?_
 refine g_val (v := .int .u8 (bt ⟨l.toArray⟩ ((i : Int) + 1))) rfl rfl rfl (y_sat rfl rfl Try.underlying9 (by omega) (by rw [size_mk]; omega)) ?_
 refine xg 2 [0] rfl rfl ?_
 refine n_ ?_
 exact g_fall (hj ⟨_, by first | (intro h; cases h; done) | (intro _; omega)⟩) [0, 1, 4, 27] rfl (fun w h => h.pick [0] rfl)

set_option maxRecDepth 100000 in
theorem bk10_any (l : List UInt8) (hl : l.length ≤ 1000000) (w : World) :
    Calls Try.prog 85 #[st8 l] w fun e w' => ∃ x : {x : (Nat → Int) × Int × Int // (∀ j, 0 ≤ x.1 j) ∧ 0 ≤ x.2.1 ∧ x.2.1 ≤ l.length}, e = .returned (.tuple #[.agg (s4C x.1.1).toArray, .int .i64 x.1.2.1, .int .i64 x.1.2.2]) ∧ Below w.heap.size w w' := by
 have hszl := size_mk l
 refine fn_intro Try.func85 rfl Try.ntmps85 rfl rfl ?_
 refine s_ (o_ ?_)
 refine g_alloc rfl rfl Try.zeroValue25 rfl (fun b1 => ?_)
 refine g_nrm (L' := .cells b1 25 (s4C s0) :: _) rfl ?_
 refine xg 2 [] rfl rfl ?_
 refine ntso_ ?_
 refine g_alloc rfl rfl Try.zeroValue25 rfl (fun b2 => ?_)
 refine g_nrm (L' := .cells b2 25 (s4C s0) :: _) rfl ?_
 refine ntso_ ?_
 refine xg 1 [] rfl rfl ?_
 refine n_ (t_ (s_ ?_))
 refine g_cutc (α := {b : Bool // b = true → 0 < l.length}) (fun x => [(0, st8 l), (2, .pointer (some ⟨b1, 0, none⟩)), (5, .pointer (some ⟨b2, 0, none⟩)), (6, .int .i64 0), (7, .bool x.1)]) (fun x => [.cells b2 25 (s4C s0), .cells b1 25 (s4C s0)]) ?_ ?_
 ·rintro ⟨tu, htu⟩
  try dsimp only
  refine t_ (s_ (s_ (o_ ?_)))
  refine xg 1 [] rfl rfl ?_
  refine n_ (t_ ?_)
  refine g_cutc (α := {i : Nat // i ≤ l.length}) (fun x => [(0, st8 l), (2, .pointer (some ⟨b1, 0, none⟩)), (5, .pointer (some ⟨b2, 0, none⟩)), (7, .bool tu), (6, .int .i64 (x.1 : Int))]) (fun x => [.cells b2 25 (s4C s0), .cells b1 25 (s4C s0)]) ?_ ?_
  ·rintro ⟨i0, hi0⟩
   try dsimp only
   refine t_ (s_ (s_ (o_ ?_)))
   refine xg 1 [] rfl rfl ?_
   refine n_ (t_ (g_block ?_))
   refine g_loop (α := {x : Nat × (Nat → Int) × Bool // x.1 ≤ l.length ∧ ∀ j, 0 ≤ x.2.1 j}) (fun x => [(0, st8 l), (2, .pointer (some ⟨b1, 0, none⟩)), (5, .pointer (some ⟨b2, 0, none⟩)), (7, .bool tu), (6, .int .i64 (x.1.1 : Int)), (8, .bool x.1.2.2)]) (fun x => St w [] [.cells b2 25 (s4C x.1.2.1), .cells b1 25 (s4C s0)]) (fun x => l.length - x.1.1) ⟨(i0, s0, true), by dsimp only; omega, s0_nn⟩ [0, 2, 5, 7, 6, 8] rfl (fun w h => h.pick [0,0] rfl) ?_
   rintro ⟨⟨i, s, f⟩, hi, hs⟩
   dsimp only
   dsimp only at hi hs
   refine s_ (s_ ?_)
   refine g_cutc (α := {b : Bool // b = false → i < l.length}) (fun x => [(0, st8 l), (2, .pointer (some ⟨b1, 0, none⟩)), (5, .pointer (some ⟨b2, 0, none⟩)), (7, .bool tu), (6, .int .i64 (i : Int)), (8, .bool f), (35, .bool x.1)]) (fun x => [.cells b2 25 (s4C s), .cells b1 25 (s4C s0)]) ?_ ?_
   ·rintro ⟨u7, hu7⟩
    try dsimp only
    refine t_ ?_
    first | refine g_casep 35 rfl (fun h1 => ?_) fun h1 => ?_ | refine g_caseb 35 rfl (fun h1 => ?_) fun h1 => ?_
    ·refine g_cond_t rfl (g_skip (t_ (s_ (g_block (s_ (o_ ?_))))))
     refine xg 2 [] rfl rfl ?_
     refine g_callE (fun x : {x : (Nat → Int) × Int × Bool // (∀ j, 0 ≤ x.1 j) ∧ (x.2.2 = true → (i : Int) + 4 ≤ x.2.1 ∧ x.2.1 ≤ l.length)} => .tuple #[.agg (s4C x.1.1).toArray, .int .i64 x.1.2.1, .bool x.1.2.2]) rfl rfl rfl Try.call94 (fun w hS => nd10_any l hl i (by omega) w) ?_
     rintro ⟨⟨s2, en, ok⟩, hs2, hen⟩
     dsimp only at hs2 hen ⊢
     refine xg 4 [] rfl rfl ?_
     refine g_alloc rfl rfl Try.zeroValue25 rfl (fun b3 => ?_)
     refine g_nrm (L' := .cells b3 25 (s4C s0) :: _) rfl ?_
     refine g_stN 0 rfl rfl rfl (by kernel_rfl) rfl rfl rfl rfl ?_
     simp only [List.set_cons_zero, List.set_cons_succ]
     refine xg 2 [] rfl rfl ?_
     refine n_ (t_ (s_ (s_ (o_ ?_))))
     refine xg 1 [] rfl rfl ?_
     refine n_ (t_ ?_)
     first | refine g_casep 43 rfl (fun h2 => ?_) fun h2 => ?_ | refine g_caseb 43 rfl (fun h2 => ?_) fun h2 => ?_
     ·refine g_cond_t rfl (s_ (o_ ?_))
      refine g_val (v := .agg (s4C s).toArray) rfl rfl rfl (y_ldN (vs := s4C s) 1 rfl Try.isAgg25 Try.sizeOf25 rfl rfl rfl) ?_
      refine g_val (v := .agg (s4C s2).toArray) rfl rfl rfl (y_ldN (vs := s4C s2) 0 rfl Try.isAgg25 Try.sizeOf25 rfl rfl rfl) ?_
      refine g_callE (fun x : {x : Nat → Int // ∀ j, 0 ≤ x j} => .agg (s4C x.1).toArray) rfl rfl rfl Try.call95 (fun w hS => both10_any s s2 (fun j _ => hs j) (fun j _ => hs2 j) w) ?_
      rintro ⟨s3, hs3⟩
      dsimp only
      refine g_stN 1 rfl rfl rfl (by kernel_rfl) rfl rfl rfl rfl ?_
      simp only [List.set_cons_zero, List.set_cons_succ]
      refine n_ (t_ (s_ ?_))
      have hen2 := hen (by assumption)
      obtain ⟨en, rfl⟩ := Int.eq_ofNat_of_zero_le (show 0 ≤ en by omega)
      refine o_ ?_
      refine xg 2 [] rfl rfl ?_
      refine n_ (t_ (g_exit (g_then_exit (g_in_exit (t_ (o_ ?_))))))
      refine xg 1 [] rfl rfl ?_
      refine n_ ?_
      exact g_again ⟨(en, s3, false), by dsimp only; omega, hs3⟩ [0, 2, 5, 7, 6, 8] (by dsimp only; omega) rfl (fun w h => h.pick [1,1] rfl)
     refine g_cond_f rfl (g_skip (t_ (s_ (o_ ?_))))
     refine xg 3 [] rfl rfl ?_
     refine g_callE (fun x : {b : Bool // b = true → i < l.length} => .bool x.1) rfl rfl rfl Try.call96 (fun w hS => single10_any l hl i (by omega) _ w) ?_
     rintro ⟨sb, hsb⟩
     dsimp only
     refine xg 1 [] rfl rfl ?_
     refine n_ (t_ (s_ (s_ (o_ ?_))))
     refine xg 2 [] rfl rfl ?_
     refine n_ (t_ ?_)
     first | refine g_casep 53 rfl (fun h3 => ?_) fun h3 => ?_ | refine g_caseb 53 rfl (fun h3 => ?_) fun h3 => ?_
     ·refine g_cond_t rfl (s_ (o_ ?_))
      refine g_val (v := .agg (s4C s0).toArray) rfl rfl rfl (y_build (offs := []) rfl Try.zeroValue25 (by kernel_rfl)) ?_
      refine g_stN 2 rfl rfl rfl (by kernel_rfl) rfl rfl rfl rfl ?_
      simp only [List.set_cons_zero, List.set_cons_succ]
      refine xg 2 [] rfl rfl ?_
      refine n_ (t_ (g_ret (g_then_ret (g_in_ret (g_then_ret (g_then_ret (g_in_ret (g_then_ret ?_))))))))
      refine g_end_cell3 2 Try.results85 rfl rfl rfl rfl Try.isAgg25 Try.sizeOf25 rfl ?_
      exact fun w hS => ⟨⟨(s0, 0, 81), s0_nn, by dsimp only; omega, by dsimp only; omega⟩, rfl, hS.below⟩
     refine g_cond_f rfl (g_skip (t_ (s_ (s_ ?_))))
     refine g_cutc (α := {b : Bool // b = true → i + 2 < l.length}) (fun x => [(0, st8 l), (2, .pointer (some ⟨b1, 0, none⟩)), (5, .pointer (some ⟨b2, 0, none⟩)), (7, .bool tu), (6, .int .i64 (i : Int)), (8, .bool f), (73, .bool x.1)]) (fun x => [.cells b2 25 (s4C s), .cells b1 25 (s4C s0)]) ?_ ?_
     ·rintro ⟨u16, hu16⟩
      try dsimp only
      refine t_ ?_
      first | refine g_casep 73 rfl (fun h4 => ?_) fun h4 => ?_ | refine g_caseb 73 rfl (fun h4 => ?_) fun h4 => ?_
      ·refine g_cond_t rfl (s_ ?_)
       have hi2 := hu16 (by assumption)
       refine o_ ?_
       refine xg 3 [] rfl (by omega) ?_
       refine g_callE (fun x : {b : Bool // b = true → (i + 2) < l.length} => .bool x.1) rfl rfl rfl Try.call96 (fun w hS => single10_any l hl (i + 2) (by omega) _ w) ?_
       rintro ⟨sd, hsd⟩
       dsimp only
       refine xg 1 [] rfl rfl ?_
       refine n_ (t_ (s_ (s_ ?_)))
       refine g_cutc (α := Bool) (fun x => [(0, st8 l), (2, .pointer (some ⟨b1, 0, none⟩)), (5, .pointer (some ⟨b2, 0, none⟩)), (7, .bool tu), (6, .int .i64 (i : Int)), (8, .bool f), (89, .bool x)]) (fun x => [.cells b2 25 (s4C s), .cells b1 25 (s4C s0)]) ?_ ?_
       ·intro u18
        try dsimp only
        refine t_ ?_
        first | refine g_casep 89 rfl (fun h5 => ?_) fun h5 => ?_ | refine g_caseb 89 rfl (fun h5 => ?_) fun h5 => ?_
        ·refine g_cond_t rfl (s_ (o_ ?_))
         refine g_val (v := .agg (s4C s0).toArray) rfl rfl rfl (y_build (offs := []) rfl Try.zeroValue25 (by kernel_rfl)) ?_
         refine g_stN 1 rfl rfl rfl (by kernel_rfl) rfl rfl rfl rfl ?_
         simp only [List.set_cons_zero, List.set_cons_succ]
         refine xg 2 [] rfl rfl ?_
         refine n_ (t_ (g_ret (g_then_ret (g_then_ret (g_in_ret (g_then_ret (g_then_ret (g_in_ret (g_then_ret ?_)))))))))
         refine g_end_cell3 1 Try.results85 rfl rfl rfl rfl Try.isAgg25 Try.sizeOf25 rfl ?_
         exact fun w hS => ⟨⟨(s0, 0, 81), s0_nn, by dsimp only; omega, by dsimp only; omega⟩, rfl, hS.below⟩
        refine g_cond_f rfl (g_skip (t_ (s_ ?_)))
        refine k_go [] rfl (by kernel_rfl) (fun _ _ _ _ _ h => h) fun hQ => ?_
        refine k_x 1 [] [] hQ (by kernel_rfl) rfl rfl rfl rfl rfl rfl ?_
        refine k_x 2 [] [] hQ (by kernel_rfl) rfl rfl rfl rfl rfl rfl ?_
        refine k_take (v := .int .u8 (bt ⟨l.toArray⟩ (i : Int))) 3 rfl (by kernel_rfl) hQ rfl rfl rfl (fun _ h => h.pick [] rfl) (y_sat rfl rfl Try.underlying9 (by omega) (by rw [size_mk]; omega)) ?_
        refine k_x 4 [] [] hQ (by kernel_rfl) rfl rfl rfl rfl rfl rfl ?_
        refine k_x 5 [] [] hQ (by kernel_rfl) rfl rfl rfl rfl rfl rfl ?_
        refine k_xc 6 [] [] hQ (by kernel_rfl) rfl rfl rfl rfl rfl rfl (by omega) ?_
        refine k_take (v := .int .u8 (bt ⟨l.toArray⟩ ((i : Int) + 2))) 7 rfl (by kernel_rfl) hQ rfl rfl rfl (fun _ h => h.pick [] rfl) (y_sat rfl rfl Try.underlying9 (by omega) (by rw [size_mk]; omega)) ?_
        refine k_one 0 (by kernel_rfl) ?_
        refine k_op 0 rfl ?_
        refine g_val (v := .agg (s4C s).toArray) rfl rfl rfl (y_ldN (vs := s4C s) 0 rfl Try.isAgg25 Try.sizeOf25 rfl rfl rfl) ?_
        refine n_ ?_
        refine k_end (fun _ h => h.pick [] rfl) ?_
        refine k_call 8 (m_rwith s (by8 ⟨l.toArray⟩ (i : Int)).toNat (by8 ⟨l.toArray⟩ ((i : Int) + 2)).toNat (by have := (by8 ⟨l.toArray⟩ (i : Int)).toNat_lt; omega) (by have := (by8 ⟨l.toArray⟩ ((i : Int) + 2)).toNat_lt; omega)) any_I rfl (by kernel_rfl) hQ rfl rfl rfl (fun _ h => h.pick [] rfl) ?_
        refine k_one 9 (by kernel_rfl) ?_
        refine k_op 9 rfl ?_
        refine g_stN 0 rfl rfl rfl (by kernel_rfl) rfl rfl rfl rfl ?_
        simp only [List.set_cons_zero, List.set_cons_succ]
        refine n_ ?_
        refine k_end (fun _ h => h.pick [] rfl) ?_
        refine k_done (by kernel_rfl) ?_
        refine t_ (s_ (o_ ?_))
        refine xg 3 [] rfl (by omega) ?_
        refine n_ (t_ (g_exit (g_then_exit (g_in_exit (t_ (o_ ?_))))))
        refine xg 1 [] rfl rfl ?_
        refine n_ ?_
        exact g_again ⟨((i + 3), (withS s (by8 ⟨l.toArray⟩ (i : Int)).toNat ((by8 ⟨l.toArray⟩ ((i : Int) + 2)).toNat + 1 - (by8 ⟨l.toArray⟩ (i : Int)).toNat)), false), by dsimp only; omega, withS_nn hs _⟩ [0, 2, 5, 7, 6, 8] (by dsimp only; omega) rfl (fun w h => h.pick [0,0] rfl)
       intro hj
       refine g_quiet (by kernel_rfl) (by kernel_rfl) ?_
       refine xq 3 [] rfl rfl ?_
       first | refine q_casep 80 rfl (fun h6 => ?_) fun h6 => ?_ | refine q_caseb 80 rfl (fun h6 => ?_) fun h6 => ?_
       ·refine xq 9 [] rfl rfl ?_
        refine q_nil ?_
        exact g_fall (hj _) [0, 2, 5, 7, 6, 8, 89] rfl (fun w h => h.pick [0,0] rfl)
       refine xq 3 [] rfl (by omega) ?_
       refine q_val (v := .int .u8 (bt ⟨l.toArray⟩ ((i : Int) + 2))) rfl rfl rfl (y_sat rfl rfl Try.underlying9 (by omega) (by rw [size_mk]; omega)) ?_
       refine xq 2 [] rfl rfl ?_
       refine q_val (v := .int .u8 (bt ⟨l.toArray⟩ (i : Int))) rfl rfl rfl (y_sat rfl rfl Try.underlying9 (by omega) (by rw [size_mk]; omega)) ?_
       refine xq 2 [0] rfl rfl ?_
       refine q_nil ?_
       exact g_fall (hj _) [0, 2, 5, 7, 6, 8, 89] rfl (fun w h => h.pick [0,0] rfl)
      refine g_cond_f rfl (g_skip (t_ (s_ ?_)))
      have hil := hsb (by simpa using ‹(!sb) = false›)
      refine k_go [] rfl (by kernel_rfl) (fun _ _ _ _ _ h => h) fun hQ => ?_
      refine k_x 1 [] [] hQ (by kernel_rfl) rfl rfl rfl rfl rfl rfl ?_
      refine k_x 2 [] [] hQ (by kernel_rfl) rfl rfl rfl rfl rfl rfl ?_
      refine k_take (v := .int .u8 (bt ⟨l.toArray⟩ (i : Int))) 3 rfl (by kernel_rfl) hQ rfl rfl rfl (fun _ h => h.pick [] rfl) (y_sat rfl rfl Try.underlying9 (by omega) (by rw [size_mk]; omega)) ?_
      refine k_x 4 [] [] hQ (by kernel_rfl) rfl rfl rfl rfl rfl rfl ?_
      refine k_x 5 [] [] hQ (by kernel_rfl) rfl rfl rfl rfl rfl rfl ?_
      refine k_take (v := .int .u8 (bt ⟨l.toArray⟩ (i : Int))) 6 rfl (by kernel_rfl) hQ rfl rfl rfl (fun _ h => h.pick [] rfl) (y_sat rfl rfl Try.underlying9 (by omega) (by rw [size_mk]; omega)) ?_
      refine k_one 0 (by kernel_rfl) ?_
      refine k_op 0 rfl ?_
      refine g_val (v := .agg (s4C s).toArray) rfl rfl rfl (y_ldN (vs := s4C s) 0 rfl Try.isAgg25 Try.sizeOf25 rfl rfl rfl) ?_
      refine n_ ?_
      refine k_end (fun _ h => h.pick [] rfl) ?_
      refine k_call 7 (m_rwith s (by8 ⟨l.toArray⟩ (i : Int)).toNat (by8 ⟨l.toArray⟩ (i : Int)).toNat (by have := (by8 ⟨l.toArray⟩ (i : Int)).toNat_lt; omega) (by have := (by8 ⟨l.toArray⟩ (i : Int)).toNat_lt; omega)) any_I rfl (by kernel_rfl) hQ rfl rfl rfl (fun _ h => h.pick [] rfl) ?_
      refine k_one 8 (by kernel_rfl) ?_
      refine k_op 8 rfl ?_
      refine g_stN 0 rfl rfl rfl (by kernel_rfl) rfl rfl rfl rfl ?_
      simp only [List.set_cons_zero, List.set_cons_succ]
      refine n_ ?_
      refine k_end (fun _ h => h.pick [] rfl) ?_
      refine k_done (by kernel_rfl) ?_
      refine t_ (o_ ?_)
      refine xg 3 [] rfl (by omega) ?_
      refine n_ (g_in_normal (t_ (o_ ?_)))
      refine xg 1 [] rfl rfl ?_
      refine n_ ?_
      exact g_again ⟨((i + 1), (withS s (by8 ⟨l.toArray⟩ (i : Int)).toNat ((by8 ⟨l.toArray⟩ (i : Int)).toNat + 1 - (by8 ⟨l.toArray⟩ (i : Int)).toNat)), false), by dsimp only; omega, withS_nn hs _⟩ [0, 2, 5, 7, 6, 8] (by dsimp only; omega) rfl (fun w h => h.pick [0,0] rfl)
     intro hj
     have hil := hsb (by simpa using ‹(!sb) = false›)
     refine o_ ?_
     refine xg 3 [] rfl (by omega) ?_
     refine g_val (v := .int .i64 (l.length : Int)) rfl rfl rfl (y_val (y_slen rfl Try.underlying9) (by rw [size_mk])) ?_
     refine xg 2 [0] rfl rfl ?_
     refine g_casep 60 rfl (fun h7 => ?_) fun h7 => ?_
     ·refine xg 3 [] rfl (by omega) ?_
      refine g_val (v := .int .u8 (bt ⟨l.toArray⟩ ((i : Int) + 1))) rfl rfl rfl (y_sat rfl rfl Try.underlying9 (by omega) (by rw [size_mk]; omega)) ?_
      refine xg 3 [0] rfl rfl ?_
      refine g_casep 67 rfl (fun h8 => ?_) fun h8 => ?_
      ·refine xg 3 [] rfl (by omega) ?_
       refine g_val (v := .int .u8 (bt ⟨l.toArray⟩ ((i : Int) + 2))) rfl rfl rfl (y_sat rfl rfl Try.underlying9 (by omega) (by rw [size_mk]; omega)) ?_
       refine xg 2 [0] rfl rfl ?_
       refine n_ ?_
       exact g_fall (hj ⟨_, by first | (intro h; cases h; done) | (intro _; omega)⟩) [0, 2, 5, 7, 6, 8, 73] rfl (fun w h => h.pick [1,1] rfl)
      refine xg 6 [] rfl rfl ?_
      refine n_ ?_
      exact g_fall (hj ⟨_, by first | (intro h; cases h; done) | (intro _; omega)⟩) [0, 2, 5, 7, 6, 8, 73] rfl (fun w h => h.pick [1,1] rfl)
     refine xg 13 [] rfl rfl ?_
     refine n_ ?_
     exact g_fall (hj ⟨_, by first | (intro h; cases h; done) | (intro _; omega)⟩) [0, 2, 5, 7, 6, 8, 73] rfl (fun w h => h.pick [1,1] rfl)
    refine g_cond_f rfl (g_exit (g_then_exit (g_then_exit (g_in_exit (t_ (s_ (s_ (o_ ?_))))))))
    refine xg 1 [] rfl rfl ?_
    refine n_ (t_ ?_)
    first | refine g_casep 112 rfl (fun h9 => ?_) fun h9 => ?_ | refine g_caseb 112 rfl (fun h9 => ?_) fun h9 => ?_
    ·refine g_cond_t rfl (o_ ?_)
     refine g_val (v := .agg (s4C s).toArray) rfl rfl rfl (y_ldN (vs := s4C s) 0 rfl Try.isAgg25 Try.sizeOf25 rfl rfl rfl) ?_
     refine g_c1 (m_rwith s 10 10 (by decide) (by decide)) any_I rfl rfl rfl ?_
     refine g_callE (fun x : {x : Nat → Int // ∀ j, 0 ≤ x j} => .agg (s4C x.1).toArray) rfl rfl rfl Try.call97 (fun w hS => not10_any (withS s 10 (10 + 1 - 10)) (fun j _ => withS_nn hs _ j) w) ?_
     rintro ⟨s4, hs4⟩
     dsimp only
     refine g_stN 0 rfl rfl rfl (by kernel_rfl) rfl rfl rfl rfl ?_
     simp only [List.set_cons_zero, List.set_cons_succ]
     refine ntso_ ?_
     refine g_val (v := .agg (s4C s4).toArray) rfl rfl rfl (y_ldN (vs := s4C s4) 0 rfl Try.isAgg25 Try.sizeOf25 rfl rfl rfl) ?_
     refine xg 2 [] rfl (by omega) ?_
     refine g_stN 1 rfl rfl rfl (by kernel_rfl) rfl rfl rfl rfl ?_
     simp only [List.set_cons_zero, List.set_cons_succ]
     refine xg 2 [] rfl rfl ?_
     refine n_ (t_ (g_ret ?_))
     refine g_end_cell3 1 Try.results85 rfl rfl rfl rfl Try.isAgg25 Try.sizeOf25 rfl ?_
     have hil := hu7 (by assumption)
     exact fun w hS => ⟨⟨(s4, _, 0), hs4, by dsimp only; omega, by dsimp only; omega⟩, rfl, hS.below⟩
    refine g_cond_f rfl (g_skip (t_ (s_ (o_ ?_))))
    refine g_val (v := .agg (s4C s).toArray) rfl rfl rfl (y_ldN (vs := s4C s) 0 rfl Try.isAgg25 Try.sizeOf25 rfl rfl rfl) ?_
    refine xg 2 [] rfl (by omega) ?_
    refine g_stN 1 rfl rfl rfl (by kernel_rfl) rfl rfl rfl rfl ?_
    simp only [List.set_cons_zero, List.set_cons_succ]
    refine xg 2 [] rfl rfl ?_
    refine n_ (t_ (g_ret ?_))
    refine g_end_cell3 1 Try.results85 rfl rfl rfl rfl Try.isAgg25 Try.sizeOf25 rfl ?_
    have hil := hu7 (by assumption)
    exact fun w hS => ⟨⟨(s, _, 0), hs, by dsimp only; omega, by dsimp only; omega⟩, rfl, hS.below⟩
   intro hj
   refine o_ ?_
   refine xg 2 [] rfl rfl ?_
   first | refine g_casep 24 rfl (fun h10 => ?_) fun h10 => ?_ | refine g_caseb 24 rfl (fun h10 => ?_) fun h10 => ?_
   ·refine xg 11 [] rfl rfl ?_
    refine n_ ?_
    exact g_fall (hj ⟨_, by first | (intro h; cases h; done) | (intro _; omega)⟩) [0, 2, 5, 7, 6, 8, 35] rfl (fun w h => h.pick [0,0] rfl)
   refine xg 2 [] rfl rfl ?_
   refine g_val (v := .int .i64 (l.length : Int)) rfl rfl rfl (y_val (y_slen rfl Try.underlying9) (by rw [size_mk])) ?_
   refine xg 3 [0] rfl rfl ?_
   refine g_casep 30 rfl (fun h11 => ?_) fun h11 => ?_
   ·refine xg 5 [] rfl rfl ?_
    refine n_ ?_
    exact g_fall (hj ⟨_, by first | (intro h; cases h; done) | (intro _; omega)⟩) [0, 2, 5, 7, 6, 8, 35] rfl (fun w h => h.pick [0,0] rfl)
   refine xg 2 [] rfl rfl ?_
   refine g_val (v := .int .u8 (bt ⟨l.toArray⟩ (i : Int))) rfl rfl rfl (y_sat rfl rfl Try.underlying9 (by omega) (by rw [size_mk]; omega)) ?_
   refine xg 2 [0] rfl rfl ?_
   refine n_ ?_
   exact g_fall (hj ⟨_, by first | (intro h; cases h; done) | (intro _; omega)⟩) [0, 2, 5, 7, 6, 8, 35] rfl (fun w h => h.pick [0,0] rfl)
  intro hj
  first | refine g_casep 22 rfl (fun h12 => ?_) fun h12 => ?_ | refine g_caseb 22 rfl (fun h12 => ?_) fun h12 => ?_
  ·refine g_cond_t rfl (o_ ?_)
   refine xg 1 [] rfl rfl ?_
   refine n_ ?_
   exact g_fall (hj ⟨1, by first | exact Nat.zero_le _ | (have := htu (by assumption); omega)⟩) [0, 2, 5, 7, 6] rfl (fun w h => h.pick [0,0] rfl)
  refine g_cond_f rfl (g_skip ?_)
  exact g_fall (hj ⟨0, by first | exact Nat.zero_le _ | (have := htu (by assumption); omega)⟩) [0, 2, 5, 7, 6] rfl (fun w h => h.pick [0,0] rfl)
 intro hj
 refine o_ ?_
 refine xg 1 [] rfl rfl ?_
 refine g_val (v := .int .i64 (l.length : Int)) rfl rfl rfl (y_val (y_slen rfl Try.underlying9) (by rw [size_mk])) ?_
 refine xg 2 [0] rfl rfl ?_
 refine g_casep 17 rfl (fun h13 => ?_) fun h13 => ?_
 ·refine xg 1 [] rfl rfl ?_
  refine g_val (v := .int .u8 (bt ⟨l.toArray⟩ 0)) rfl rfl rfl (y_sat rfl rfl Try.underlying9 (by omega) (by rw [size_mk]; omega)) ?_
  refine xg 3 [0] rfl rfl ?_
  refine n_ ?_
  exact g_fall (hj ⟨_, by first | (intro h; cases h; done) | (intro _; omega)⟩) [0, 2, 5, 6, 7] rfl (fun w h => h.pick [0,0] rfl)
 refine xg 5 [] rfl rfl ?_
 refine n_ ?_
 exact g_fall (hj ⟨_, by first | (intro h; cases h; done) | (intro _; omega)⟩) [0, 2, 5, 6, 7] rfl (fun w h => h.pick [0,0] rfl)

end Go.Proofs.Ytfcamlkbkehlnaa

/- The document's parser, loosely: at, member, one, over, number, interval. -/
namespace Go.Proofs.Ytfcamlkbkehlnaa
open Go Go.RowKit

set_option maxRecDepth 100000 in
theorem at10 (l : List UInt8) (hl : l.length ≤ 200) (ex : Bool) (rb : Nat) (bd : Bool) (i g : Nat) (hi : i ≤ 1000) (p : ByteArray) (hp : p.size ≤ 10) (F : List Nat) (w : World) (hS0 : St w F [.cells rb 56 [st8 l, .int .i64 (i : Int), .bool ex, .int .i64 (g : Int), .bool bd]] w) :
    Calls Try.prog 35 #[.pointer (some ⟨rb, 0, none⟩), .string p] w fun e w' => ∃ x : {x : Bool // x = true → i + p.size ≤ l.length}, e = .returned (.bool x.1) ∧ St w F [.cells rb 56 [st8 l, .int .i64 (i : Int), .bool ex, .int .i64 (g : Int), .bool bd]] w' := by
 have hszl := size_mk l
 refine fn_intro_own Try.func35 rfl Try.ntmps35 rfl rfl hS0 ?_
 refine s_ (o_ ?_)
 refine xg 1 [] rfl rfl ?_
 refine n_ (t_ (s_ ?_))
 refine g_quiet (by kernel_rfl) (by kernel_rfl) ?_
 refine xq 4 [0] rfl (by omega) ?_
 refine q_val (v := .int .i64 (l.length : Int)) rfl rfl rfl (y_val (y_slen rfl Try.underlying9) (by rw [size_mk])) ?_
 refine xq 9 [0,0] rfl (by omega) ?_
 refine q_casep 18 rfl (fun h1 => ?_) fun h1 => ?_
 ·refine xq 20 [0,0,0] rfl (by omega) ?_
  refine q_nil (t_ (g_ret ?_))
  refine g_end1 Try.results35 rfl ?_
  exact fun w hS => ⟨⟨_, by first | (intro h; cases h; done) | (intro _; omega)⟩, rfl, hS.pick [0] rfl⟩
 refine xq 20 [] rfl rfl ?_
 refine q_nil (t_ (g_ret ?_))
 refine g_end1 Try.results35 rfl ?_
 exact fun w hS => ⟨⟨_, by first | (intro h; cases h; done) | (intro _; omega)⟩, rfl, hS.pick [0] rfl⟩

set_option maxRecDepth 100000 in
theorem member10 (c : Int) (t : ByteArray) (ht : t.size ≤ 100) (w : World) :
    Calls Try.prog 84 #[.int .u8 c, .string t] w fun e w' => ∃ b : Bool, e = .returned (.bool b) ∧ Below w.heap.size w w' := by
 refine fn_intro Try.func84 rfl Try.ntmps84 rfl rfl ?_
 refine s_ (o_ ?_)
 refine xg 1 [] rfl rfl ?_
 refine n_ (t_ (s_ (s_ (o_ ?_))))
 refine xg 1 [] rfl rfl ?_
 refine n_ (t_ (g_block ?_))
 refine g_loop (α := {x : Nat // x ≤ t.size}) (fun x => [(0, .int .u8 c), (1, .string t), (5, .int .i64 (x.1 : Int))]) (fun x => St w [] []) (fun x => t.size - x.1) ⟨0, Nat.zero_le _⟩ [0, 1, 5] rfl (fun w h => h.pick [] rfl) ?_
 rintro ⟨i, hi⟩
 dsimp only
 refine s_ (s_ (o_ ?_))
 refine xg 4 [0] rfl rfl ?_
 refine n_ (t_ ?_)
 refine g_casep 9 rfl (fun h1 => ?_) fun h1 => ?_
 ·refine g_cond_t rfl (g_skip (t_ (s_ (g_block (s_ (o_ ?_))))))
  refine xg 5 [0] rfl (by omega) ?_
  refine n_ (t_ ?_)
  refine g_casep 16 rfl (fun h2 => ?_) fun h2 => ?_
  ·refine g_cond_t rfl (s_ (o_ ?_))
   refine xg 1 [] rfl rfl ?_
   refine n_ (t_ (g_ret (g_in_ret (g_then_ret (g_then_ret (g_in_ret (g_then_ret ?_)))))))
   refine g_end1 Try.results84 rfl ?_
   exact fun w hS => ⟨_, rfl, hS.below⟩
  refine g_cond_f rfl (g_skip (g_in_normal (t_ (o_ ?_))))
  refine xg 3 [] rfl (by omega) ?_
  refine n_ ?_
  exact g_again ⟨i + 1, by omega⟩ [0, 1, 5] (by dsimp only; omega) rfl (fun w h => h.pick [] rfl)
 refine g_cond_f rfl (g_exit (g_then_exit (g_then_exit (g_in_exit (t_ (s_ (o_ ?_)))))))
 refine xg 1 [] rfl rfl ?_
 refine n_ (t_ (g_ret ?_))
 refine g_end1 Try.results84 rfl ?_
 exact fun w hS => ⟨_, rfl, hS.below⟩

set_option maxRecDepth 100000 in
theorem one10 (c : Nat) (hc : c ≤ 255) (w : World) :
    Calls Try.prog 68 #[.int .u8 (c : Int)] w fun e w' => e = .returned (.agg (nC (MT.mk 1 (withS s0 c (c + 1 - c)) 0 0 0 (Value.slice none 0 0) [])).toArray) ∧ Below w.heap.size w w' := by
 refine fn_intro Try.func68 rfl Try.ntmps68 rfl rfl ?_
 refine s_ (o_ ?_)
 refine g_alloc rfl rfl Try.zeroValue28 rfl (fun b1 => ?_)
 refine ntso_ ?_
 refine g_val (v := .agg (s4C s0).toArray) rfl rfl rfl (y_build (offs := []) rfl Try.zeroValue25 (by kernel_rfl)) ?_
 refine xg 2 [] rfl rfl ?_
 refine g_c1 (m_rwith s0 c c hc hc) any_I rfl rfl rfl ?_
 refine xg 2 [0] rfl (by omega) ?_
 refine n_ (t_ (g_ret ?_))
 refine g_end_cell 0 Try.results68 rfl rfl Try.isAgg28 Try.sizeOf28 rfl ?_
 exact fun w hS => ⟨rfl, hS.below⟩

theorem m_one10 (c : Nat) (hc : c ≤ 255) : Meets Try.prog (fun _ => True) 68 [.int .u8 (c : Int)] (fun _ : Unit => .agg (nC (MT.mk 1 (withS s0 c (c + 1 - c)) 0 0 0 (Value.slice none 0 0) [])).toArray) [] (fun _ => []) := meets1 Try.call68 (fun w hI => one10 c hc w)
end Go.Proofs.Ytfcamlkbkehlnaa

/- The document's parser, loosely: over, number, interval. -/
namespace Go.Proofs.Ytfcamlkbkehlnaa
open Go Go.RowKit

set_option maxRecDepth 100000 in
theorem over10 (l : List UInt8) (hl : l.length ≤ 200) (ex : Bool) (rb : Nat) (bd : Bool) (i g : Nat) (hi : i ≤ 1000) (wi : Bool) (F : List Nat) (w : World) (hS0 : St w F [.cells rb 56 [st8 l, .int .i64 (i : Int), .bool ex, .int .i64 (g : Int), .bool bd]] w) :
    Calls Try.prog 66 #[.pointer (some ⟨rb, 0, none⟩), .bool wi] w fun e w' => ∃ x : {x : Bool // x = false → i < l.length}, e = .returned (.bool x.1) ∧ St w F [.cells rb 56 [st8 l, .int .i64 (i : Int), .bool ex, .int .i64 (g : Int), .bool bd]] w' := by
 have hszl := size_mk l
 refine fn_intro_own Try.func66 rfl Try.ntmps66 rfl rfl hS0 ?_
 refine s_ (o_ ?_)
 refine xg 1 [] rfl rfl ?_
 refine ntso_ ?_
 refine xg 1 [] rfl rfl ?_
 refine g_buildSlice (offs := [0, 1]) rfl rfl Try.underlying133 rfl Try.zeroValue5 (by kernel_rfl) (fun b1 => ?_)
 refine g_val rfl rfl rfl (y_cellsStr (l := [92, 41]) 0 rfl Try.underlying133 Try.underlying9 Try.underlying5 rfl rfl rfl) ?_
 refine g_ahead [1] rfl ?_
 simp only [List.cons_append, List.nil_append]
 refine g_callOwn (L0 := [.cells rb 56 [st8 l, .int .i64 ((i : Nat) : Int), .bool ex, .int .i64 ((g : Nat) : Int), .bool bd]]) (fun x : {x : Bool // x = true → i + 2 ≤ l.length} => .bool x.1) (fun _ => [.cells rb 56 [st8 l, .int .i64 ((i : Nat) : Int), .bool ex, .int .i64 ((g : Nat) : Int), .bool bd]]) rfl rfl rfl Try.call35 (fun w hS => at10 l hl ex rb bd i g (by omega) _ (by decide) _ w hS.part) ?_
 rintro ⟨ua1, hua1⟩
 dsimp only
 simp only [List.cons_append, List.nil_append]
 refine xg 1 [] rfl rfl ?_
 refine ntso_ ?_
 refine xg 1 [] rfl rfl ?_
 refine g_callOwn (L0 := [.cells rb 56 [st8 l, .int .i64 ((i : Nat) : Int), .bool ex, .int .i64 ((g : Nat) : Int), .bool bd]]) (fun x : {x : Bool // x = true → i + 1 ≤ l.length} => .bool x.1) (fun _ => [.cells rb 56 [st8 l, .int .i64 ((i : Nat) : Int), .bool ex, .int .i64 ((g : Nat) : Int), .bool bd]]) rfl rfl rfl Try.call35 (fun w hS => at10 l hl ex rb bd i g (by omega) _ (by decide) _ w hS.part) ?_
 rintro ⟨ua2, hua2⟩
 dsimp only
 simp only [List.cons_append, List.nil_append]
 refine xg 1 [] rfl rfl ?_
 refine ntso_ ?_
 refine xg 1 [] rfl rfl ?_
 refine g_callOwn (L0 := [.cells rb 56 [st8 l, .int .i64 ((i : Nat) : Int), .bool ex, .int .i64 ((g : Nat) : Int), .bool bd]]) (fun x : {x : Bool // x = true → i + 1 ≤ l.length} => .bool x.1) (fun _ => [.cells rb 56 [st8 l, .int .i64 ((i : Nat) : Int), .bool ex, .int .i64 ((g : Nat) : Int), .bool bd]]) rfl rfl rfl Try.call35 (fun w hS => at10 l hl ex rb bd i g (by omega) _ (by decide) _ w hS.part) ?_
 rintro ⟨ua3, hua3⟩
 dsimp only
 simp only [List.cons_append, List.nil_append]
 refine xg 1 [] rfl rfl ?_
 refine n_ (t_ (s_ (s_ ?_)))
 refine g_quiet (by kernel_rfl) (by kernel_rfl) ?_
 refine xq 8 [0,0] rfl (by omega) ?_
 refine q_val (v := .int .i64 (l.length : Int)) rfl rfl rfl (y_val (y_slen rfl Try.underlying9) (by rw [size_mk])) ?_
 refine xq 1 [0] rfl rfl ?_
 refine q_nil (t_ ?_)
 refine g_casep 25 rfl (fun h4 => ?_) fun h4 => ?_
 ·refine g_cond_t rfl (s_ (o_ ?_))
  refine xg 1 [] rfl rfl ?_
  refine n_ (t_ (g_ret (g_then_ret ?_)))
  refine g_end1 Try.results66 rfl ?_
  exact fun w hS => ⟨⟨_, by first | (intro h; cases h; done) | (intro _; omega)⟩, rfl, hS.pick [0] rfl⟩
 refine g_cond_f rfl (g_skip (t_ (s_ (s_ (o_ ?_)))))
 refine xg 4 [0] rfl (by omega) ?_
 refine n_ (t_ ?_)
 first | refine g_casep 29 rfl (fun h5 => ?_) fun h5 => ?_ | refine g_caseb 29 rfl (fun h5 => ?_) fun h5 => ?_
 ·refine g_cond_t rfl (s_ (o_ ?_))
  refine xg 2 [] rfl rfl ?_
  first | refine g_casep 31 rfl (fun h6 => ?_) fun h6 => ?_ | refine g_caseb 31 rfl (fun h6 => ?_) fun h6 => ?_
  ·refine xg 6 [] rfl rfl ?_
   refine n_ (t_ (g_ret (g_then_ret ?_)))
   refine g_end1 Try.results66 rfl ?_
   exact fun w hS => ⟨⟨_, by first | (intro h; cases h; done) | (intro _; omega)⟩, rfl, hS.pick [0] rfl⟩
  refine xg 2 [] rfl rfl ?_
  first | refine g_casep 33 rfl (fun h7 => ?_) fun h7 => ?_ | refine g_caseb 33 rfl (fun h7 => ?_) fun h7 => ?_
  ·refine xg 4 [] rfl rfl ?_
   refine n_ (t_ (g_ret (g_then_ret ?_)))
   refine g_end1 Try.results66 rfl ?_
   exact fun w hS => ⟨⟨_, by first | (intro h; cases h; done) | (intro _; omega)⟩, rfl, hS.pick [0] rfl⟩
  refine xg 4 [] rfl rfl ?_
  refine n_ (t_ (g_ret (g_then_ret ?_)))
  refine g_end1 Try.results66 rfl ?_
  exact fun w hS => ⟨⟨_, by first | (intro h; cases h; done) | (intro _; omega)⟩, rfl, hS.pick [0] rfl⟩
 refine g_cond_f rfl (g_skip (t_ (s_ (o_ ?_))))
 refine xg 2 [] rfl rfl ?_
 first | refine g_casep 38 rfl (fun h8 => ?_) fun h8 => ?_ | refine g_caseb 38 rfl (fun h8 => ?_) fun h8 => ?_
 ·refine xg 3 [] rfl rfl ?_
  refine n_ (t_ (g_ret ?_))
  refine g_end1 Try.results66 rfl ?_
  exact fun w hS => ⟨⟨_, by first | (intro h; cases h; done) | (intro _; omega)⟩, rfl, hS.pick [0] rfl⟩
 refine xg 3 [] rfl rfl ?_
 refine n_ (t_ (g_ret ?_))
 refine g_end1 Try.results66 rfl ?_
 exact fun w hS => ⟨⟨_, by first | (intro h; cases h; done) | (intro _; omega)⟩, rfl, hS.pick [0] rfl⟩

set_option maxRecDepth 100000 in
theorem number10 (l : List UInt8) (hl : l.length ≤ 200) (ex : Bool) (rb : Nat) (bd : Bool) (i g : Nat) (hi : i ≤ 1000) (F : List Nat) (w : World) (hS0 : St w F [.cells rb 56 [st8 l, .int .i64 (i : Int), .bool ex, .int .i64 (g : Int), .bool bd]] w) :
    Calls Try.prog 92 #[.pointer (some ⟨rb, 0, none⟩)] w fun e w' => ∃ x : {x : Int × Nat // -1 ≤ x.1 ∧ x.1 ≤ 999 ∧ i ≤ x.2 ∧ x.2 ≤ i + 3 ∧ (i ≤ l.length → x.2 ≤ l.length)}, e = .returned (.int .i64 x.1.1) ∧ St w F [.cells rb 56 [st8 l, .int .i64 (x.1.2 : Int), .bool ex, .int .i64 (g : Int), .bool bd]] w' := by
 have hszl := size_mk l
 refine fn_intro_own Try.func92 rfl Try.ntmps92 rfl rfl hS0 ?_
 refine s_ (o_ ?_)
 refine xg 1 [] rfl rfl ?_
 refine ntso_ ?_
 refine xg 1 [] rfl rfl ?_
 refine ntso_ ?_
 refine xg 1 [] rfl rfl ?_
 refine n_ (t_ (s_ (g_block ?_)))
 refine g_loop (α := {x : Nat × Int × Nat // x.1 ≤ 3 ∧ 0 ≤ x.2.1 ∧ x.2.1 ≤ 999 ∧ (x.1 = 0 → x.2.1 = 0) ∧ (x.1 = 1 → x.2.1 ≤ 9) ∧ (x.1 = 2 → x.2.1 ≤ 99) ∧ i ≤ x.2.2 ∧ x.2.2 ≤ i + x.1 ∧ (i ≤ l.length → x.2.2 ≤ l.length)}) (fun x => [(0, .pointer (some ⟨rb, 0, none⟩)), (3, .int .i64 x.1.2.1), (4, .int .i64 (x.1.1 : Int))]) (fun x => St w F [.cells rb 56 [st8 l, .int .i64 (x.1.2.2 : Int), .bool ex, .int .i64 (g : Int), .bool bd]]) (fun x => 3 - x.1.1) ⟨(0, 0, i), by dsimp only; omega⟩ [0, 3, 4] rfl (fun w h => h.pick [0] rfl) ?_
 rintro ⟨⟨k, n, i2⟩, hx⟩
 dsimp only
 dsimp only at hx
 refine s_ (s_ ?_)
 refine g_quiet (by kernel_rfl) (by kernel_rfl) ?_
 refine xq 3 [0] rfl rfl ?_
 refine q_casep 7 rfl (fun h1 => ?_) fun h1 => ?_
 ·refine xq 8 [0,0] rfl (by omega) ?_
  refine q_val (v := .int .i64 (l.length : Int)) rfl rfl rfl (y_val (y_slen rfl Try.underlying9) (by rw [size_mk])) ?_
  refine xq 3 [0] rfl rfl ?_
  refine q_casep 19 rfl (fun h2 => ?_) fun h2 => ?_
  ·refine xq 8 [0,0] rfl (by omega) ?_
   refine q_val (v := .int .u8 (bt ⟨l.toArray⟩ (i2 : Int))) rfl rfl rfl (y_sat rfl rfl Try.underlying9 (by omega) (by rw [size_mk]; omega)) ?_
   refine xq 3 [0] rfl rfl ?_
   refine q_casep 31 rfl (fun h3 => ?_) fun h3 => ?_
   ·refine xq 8 [0,0] rfl (by omega) ?_
    refine q_val (v := .int .u8 (bt ⟨l.toArray⟩ (i2 : Int))) rfl rfl rfl (y_sat rfl rfl Try.underlying9 (by omega) (by rw [size_mk]; omega)) ?_
    refine xq 2 [0] rfl rfl ?_
    refine q_nil (t_ ?_)
    refine g_casep 42 rfl (fun h4 => ?_) fun h4 => ?_
    ·refine g_cond_t rfl (g_skip (t_ (g_block (s_ ?_))))
     refine g_quiet (by kernel_rfl) (by kernel_rfl) ?_
     refine xq 10 [0,0] rfl (by omega) ?_
     refine q_val (v := .int .u8 (bt ⟨l.toArray⟩ (i2 : Int))) rfl rfl rfl (y_sat rfl rfl Try.underlying9 (by omega) (by rw [size_mk]; omega)) ?_
     refine xq 4 [] rfl (by omega) ?_
     refine q_nil (t_ (s_ (o_ ?_)))
     refine xg 8 [0,0] rfl (by omega) ?_
     refine nto_ ?_
     refine xg 3 [] rfl (by omega) ?_
     refine n_ (g_in_normal ?_)
     exact g_again ⟨(k + 1, ((10 * n) + ((bt ⟨l.toArray⟩ (i2 : Int)) - 48)), i2 + 1), by dsimp only; omega⟩ [0, 3, 4] (by dsimp only; omega) rfl (fun w h => h.pick [0] rfl)
    refine g_cond_f rfl (g_exit (g_then_exit (g_then_exit (g_in_exit (t_ (s_ (s_ (o_ ?_))))))))
    refine xg 2 [0] rfl rfl ?_
    refine n_ (t_ ?_)
    refine g_casep 67 rfl (fun h5 => ?_) fun h5 => ?_
    ·refine g_cond_t rfl (s_ (o_ ?_))
     refine xg 1 [] rfl rfl ?_
     refine n_ (t_ (g_ret (g_then_ret ?_)))
     refine g_end1 Try.results92 rfl ?_
     exact fun w hS => ⟨⟨((-1), i2), by dsimp only; omega⟩, rfl, hS.pick [0] rfl⟩
    refine g_cond_f rfl (g_skip (t_ (s_ (o_ ?_))))
    refine xg 2 [] rfl rfl ?_
    refine n_ (t_ (g_ret ?_))
    refine g_end1 Try.results92 rfl ?_
    exact fun w hS => ⟨⟨(n, i2), by dsimp only; omega⟩, rfl, hS.pick [0] rfl⟩
   refine xq 11 [] rfl rfl ?_
   refine q_nil (t_ (g_cond_f rfl (g_exit (g_then_exit (g_then_exit (g_in_exit (t_ (s_ (s_ (o_ ?_))))))))))
   refine xg 2 [0] rfl rfl ?_
   refine n_ (t_ ?_)
   refine g_casep 67 rfl (fun h6 => ?_) fun h6 => ?_
   ·refine g_cond_t rfl (s_ (o_ ?_))
    refine xg 1 [] rfl rfl ?_
    refine n_ (t_ (g_ret (g_then_ret ?_)))
    refine g_end1 Try.results92 rfl ?_
    exact fun w hS => ⟨⟨((-1), i2), by dsimp only; omega⟩, rfl, hS.pick [0] rfl⟩
   refine g_cond_f rfl (g_skip (t_ (s_ (o_ ?_))))
   refine xg 2 [] rfl rfl ?_
   refine n_ (t_ (g_ret ?_))
   refine g_end1 Try.results92 rfl ?_
   exact fun w hS => ⟨⟨(n, i2), by dsimp only; omega⟩, rfl, hS.pick [0] rfl⟩
  refine xq 23 [] rfl rfl ?_
  refine q_nil (t_ (g_cond_f rfl (g_exit (g_then_exit (g_then_exit (g_in_exit (t_ (s_ (s_ (o_ ?_))))))))))
  refine xg 2 [0] rfl rfl ?_
  refine n_ (t_ ?_)
  refine g_casep 67 rfl (fun h7 => ?_) fun h7 => ?_
  ·refine g_cond_t rfl (s_ (o_ ?_))
   refine xg 1 [] rfl rfl ?_
   refine n_ (t_ (g_ret (g_then_ret ?_)))
   refine g_end1 Try.results92 rfl ?_
   exact fun w hS => ⟨⟨((-1), i2), by dsimp only; omega⟩, rfl, hS.pick [0] rfl⟩
  refine g_cond_f rfl (g_skip (t_ (s_ (o_ ?_))))
  refine xg 2 [] rfl rfl ?_
  refine n_ (t_ (g_ret ?_))
  refine g_end1 Try.results92 rfl ?_
  exact fun w hS => ⟨⟨(n, i2), by dsimp only; omega⟩, rfl, hS.pick [0] rfl⟩
 refine xq 35 [] rfl rfl ?_
 refine q_nil (t_ (g_cond_f rfl (g_exit (g_then_exit (g_then_exit (g_in_exit (t_ (s_ (s_ (o_ ?_))))))))))
 refine xg 2 [0] rfl rfl ?_
 refine n_ (t_ ?_)
 refine g_casep 67 rfl (fun h8 => ?_) fun h8 => ?_
 ·refine g_cond_t rfl (s_ (o_ ?_))
  refine xg 1 [] rfl rfl ?_
  refine n_ (t_ (g_ret (g_then_ret ?_)))
  refine g_end1 Try.results92 rfl ?_
  exact fun w hS => ⟨⟨((-1), i2), by dsimp only; omega⟩, rfl, hS.pick [0] rfl⟩
 refine g_cond_f rfl (g_skip (t_ (s_ (o_ ?_))))
 refine xg 2 [] rfl rfl ?_
 refine n_ (t_ (g_ret ?_))
 refine g_end1 Try.results92 rfl ?_
 exact fun w hS => ⟨⟨(n, i2), by dsimp only; omega⟩, rfl, hS.pick [0] rfl⟩

end Go.Proofs.Ytfcamlkbkehlnaa

/- The document's parser, loosely: interval; trees with bounds. -/
namespace Go.Proofs.Ytfcamlkbkehlnaa
open Go Go.RowKit

mutual
/-- Words and numbers of a whole tree are in their bounds. -/
def MT.nb : MT → Prop
  | .mk _ s mi ma _ _ q => nodV s mi ma ∧ nbL q
def nbL : List MT → Prop
  | [] => True
  | t :: q => t.nb ∧ nbL q
end
theorem nb_mk {k : Int} {s : Nat → Int} {mi ma nu : Int} {v : Value} {q : List MT} : (MT.mk k s mi ma nu v q).nb ↔ nodV s mi ma ∧ nbL q := by rw [MT.nb]
theorem nbL_nil : nbL [] := by rw [nbL]; trivial
theorem nbL_cons {t : MT} {q : List MT} : nbL (t :: q) ↔ t.nb ∧ nbL q := by rw [nbL]
theorem nbL_append : ∀ {a b : List MT}, nbL a → nbL b → nbL (a ++ b)
  | [], b, _, h => h
  | t :: a, b, h1, h2 => nbL_cons.2 ⟨(nbL_cons.1 h1).1, nbL_append (nbL_cons.1 h1).2 h2⟩
theorem own_capV {w : World} {e : TypeId} {sz n : Nat} {v : Value} {xs : List Value} (h : w.ownsRow 0 e sz v n xs) : capV v := by
  intro p n' c hv
  obtain ⟨_, ⟨h1, h2⟩ | ⟨g, cap, cur, h1, _, _, h4, h5, _⟩⟩ := h
  · rw [h1] at hv; cases hv; exact ⟨Nat.le_refl _, Nat.zero_le _⟩
  · rw [h1] at hv; cases hv; exact ⟨h4, h5⟩
mutual
theorem ok_cp {w : World} : ∀ (t : MT), t.ok w → t.nb → t.cp
  | .mk k s mi ma nu v q, h, hn => cp_mk.2 ⟨⟨own_capV (ok_mk.1 h).1, (nb_mk.1 hn).1⟩, ok_cpL q (ok_mk.1 h).2 (nb_mk.1 hn).2⟩
theorem ok_cpL {w : World} : ∀ (q : List MT), okL w q → nbL q → cpL q
  | [], _, _ => cpL_nil
  | t :: q, h, hn => cpL_cons.2 ⟨ok_cp t (okL_cons.1 h).1 (nbL_cons.1 hn).1, ok_cpL q (okL_cons.1 h).2 (nbL_cons.1 hn).2⟩
end

set_option maxRecDepth 100000 in
theorem interval10 (l : List UInt8) (hl : l.length ≤ 200) (ex : Bool) (rb : Nat) (i g : Nat) (hi : i ≤ l.length) (p : ByteArray) (hp : p.size ≤ 2) (F : List Nat) (w : World) (hS0 : St w F [.cells rb 56 [st8 l, .int .i64 (i : Int), .bool ex, .int .i64 (g : Int), .bool false]] w) :
    Calls Try.prog 82 #[.pointer (some ⟨rb, 0, none⟩), .string p] w fun e w' => ∃ x : {x : Int × Int × Nat × Bool // -1 ≤ x.1 ∧ x.1 ≤ 20 ∧ -1 ≤ x.2.1 ∧ x.2.1 ≤ 20 ∧ i ≤ x.2.2.1 ∧ x.2.2.1 ≤ l.length}, e = .returned (.tuple #[.int .i64 x.1.1, .int .i64 x.1.2.1]) ∧ St w F [.cells rb 56 [st8 l, .int .i64 (x.1.2.2.1 : Int), .bool ex, .int .i64 (g : Int), .bool x.1.2.2.2]] w' := by
 have hszl := size_mk l
 refine fn_intro_own Try.func82 rfl Try.ntmps82 rfl rfl hS0 ?_
 refine s_ (o_ ?_)
 refine xg 2 [] rfl rfl ?_
 refine ntso_ ?_
 refine xg 1 [] rfl rfl ?_
 refine g_callOwn (L0 := [.cells rb 56 [st8 l, .int .i64 ((i : Nat) : Int), .bool ex, .int .i64 ((g : Nat) : Int), .bool false]]) (fun x : {x : Int × Nat // -1 ≤ x.1 ∧ x.1 ≤ 999 ∧ i ≤ x.2 ∧ x.2 ≤ i + 3 ∧ (i ≤ l.length → x.2 ≤ l.length)} => .int .i64 x.1.1) (fun x => [.cells rb 56 [st8 l, .int .i64 (x.1.2 : Int), .bool ex, .int .i64 ((g : Nat) : Int), .bool false]]) rfl rfl rfl Try.call92 (fun w hS => number10 l hl ex rb false i g (by omega) _ w hS.part) ?_
 rintro ⟨⟨n1, i1⟩, hn1⟩
 dsimp only at hn1 ⊢
 simp only [List.cons_append, List.nil_append]
 refine xg 1 [] rfl rfl ?_
 refine ntso_ ?_
 refine xg 2 [] rfl rfl ?_
 refine n_ (t_ (s_ (s_ (o_ ?_))))
 refine xg 1 [] rfl rfl ?_
 refine g_callOwn (L0 := [.cells rb 56 [st8 l, .int .i64 ((i1 : Nat) : Int), .bool ex, .int .i64 ((g : Nat) : Int), .bool false]]) (fun x : {x : Bool // x = true → i1 + 1 ≤ l.length} => .bool x.1) (fun _ => [.cells rb 56 [st8 l, .int .i64 ((i1 : Nat) : Int), .bool ex, .int .i64 ((g : Nat) : Int), .bool false]]) rfl rfl rfl Try.call35 (fun w hS => at10 l hl ex rb false i1 g (by omega) _ (by decide) _ w hS.part) ?_
 rintro ⟨ua2, hua2⟩
 dsimp only
 simp only [List.cons_append, List.nil_append]
 refine n_ (t_ ?_)
 refine g_cutc (α := {x : Int × Nat // -1 ≤ x.1 ∧ x.1 ≤ 999 ∧ i ≤ x.2 ∧ x.2 ≤ l.length}) (fun x => [(0, .pointer (some ⟨rb, 0, none⟩)), (1, .string p), (6, .int .i64 n1), (7, .int .i64 x.1.1)]) (fun x => [.cells rb 56 [st8 l, .int .i64 (x.1.2 : Int), .bool ex, .int .i64 (g : Int), .bool false]]) ?_ ?_
 ·rintro ⟨⟨n, i2⟩, hni⟩
  try dsimp only
  dsimp only at hni
  refine t_ (s_ (o_ ?_))
  refine xg 2 [] rfl rfl ?_
  refine g_callOwn (L0 := [.cells rb 56 [st8 l, .int .i64 ((i2 : Nat) : Int), .bool ex, .int .i64 ((g : Nat) : Int), .bool false]]) (fun x : {x : Bool // x = true → i2 + p.size ≤ l.length} => .bool x.1) (fun _ => [.cells rb 56 [st8 l, .int .i64 ((i2 : Nat) : Int), .bool ex, .int .i64 ((g : Nat) : Int), .bool false]]) rfl rfl rfl Try.call35 (fun w hS => at10 l hl ex rb false i2 g (by omega) _ (by omega) _ w hS.part) ?_
  rintro ⟨ua3, hua3⟩
  dsimp only
  simp only [List.cons_append, List.nil_append]
  refine xg 1 [] rfl rfl ?_
  refine n_ (t_ (s_ (s_ ?_)))
  refine g_cutc (α := {b : Bool // b = false → 0 ≤ n1 ∧ n1 ≤ 20 ∧ n ≤ 20 ∧ ua3 = true}) (fun x => [(0, .pointer (some ⟨rb, 0, none⟩)), (1, .string p), (6, .int .i64 n1), (7, .int .i64 n), (48, .bool x.1)]) (fun x => [.cells rb 56 [st8 l, .int .i64 (i2 : Int), .bool ex, .int .i64 (g : Int), .bool false]]) ?_ ?_
  ·rintro ⟨b7, hb7⟩
   try dsimp only
   refine t_ ?_
   first | refine g_casep 48 rfl (fun h4 => ?_) fun h4 => ?_ | refine g_caseb 48 rfl (fun h4 => ?_) fun h4 => ?_
   ·refine g_cond_t rfl (s_ (o_ ?_))
    refine xg 4 [0] rfl (by omega) ?_
    refine ntso_ ?_
    refine xg 2 [] rfl rfl ?_
    refine n_ (t_ (g_ret (g_then_ret ?_)))
    refine g_end2 Try.results82 rfl rfl ?_
    exact fun w hS => ⟨⟨(0, 0, i2, true), by dsimp only; omega⟩, rfl, hS.pick [0] rfl⟩
   refine g_cond_f rfl (g_skip (t_ (s_ (o_ ?_))))
   refine xg 11 [0,0] rfl (by omega) ?_
   refine ntso_ ?_
   refine xg 4 [] rfl rfl ?_
   refine n_ (t_ (g_ret ?_))
   refine g_end2 Try.results82 rfl rfl ?_
   have hb8 := hb7 (by assumption)
   have hue := hua3 hb8.2.2.2
   exact fun w hS => ⟨⟨(n1, n, i2 + p.size, false), by dsimp only; omega⟩, rfl, hS.pick [0] rfl⟩
  intro hj
  refine o_ ?_
  refine xg 3 [0] rfl rfl ?_
  refine g_casep 28 rfl (fun h5 => ?_) fun h5 => ?_
  ·refine xg 20 [] rfl rfl ?_
   refine n_ ?_
   exact g_fall (hj ⟨_, by first | (intro h; cases h; done) | (intro h; exact ⟨by omega, by omega, by omega, by revert h; cases ua3 <;> intro h <;> first | rfl | cases h⟩)⟩) [0, 1, 6, 7, 48] rfl (fun w h => h.pick [0] rfl)
  refine xg 4 [0] rfl rfl ?_
  refine g_casep 32 rfl (fun h6 => ?_) fun h6 => ?_
  ·refine xg 16 [] rfl rfl ?_
   refine n_ ?_
   exact g_fall (hj ⟨_, by first | (intro h; cases h; done) | (intro h; exact ⟨by omega, by omega, by omega, by revert h; cases ua3 <;> intro h <;> first | rfl | cases h⟩)⟩) [0, 1, 6, 7, 48] rfl (fun w h => h.pick [0] rfl)
  refine xg 4 [0] rfl rfl ?_
  refine g_casep 36 rfl (fun h7 => ?_) fun h7 => ?_
  ·refine xg 12 [] rfl rfl ?_
   refine n_ ?_
   exact g_fall (hj ⟨_, by first | (intro h; cases h; done) | (intro h; exact ⟨by omega, by omega, by omega, by revert h; cases ua3 <;> intro h <;> first | rfl | cases h⟩)⟩) [0, 1, 6, 7, 48] rfl (fun w h => h.pick [0] rfl)
  refine xg 3 [0] rfl rfl ?_
  refine g_casep 39 rfl (fun h8 => ?_) fun h8 => ?_
  ·refine xg 6 [0] rfl rfl ?_
   refine g_casep 45 rfl (fun h9 => ?_) fun h9 => ?_
   ·refine xg 3 [] rfl rfl ?_
    refine n_ ?_
    exact g_fall (hj ⟨_, by first | (intro h; cases h; done) | (intro h; exact ⟨by omega, by omega, by omega, by revert h; cases ua3 <;> intro h <;> first | rfl | cases h⟩)⟩) [0, 1, 6, 7, 48] rfl (fun w h => h.pick [0] rfl)
   refine xg 3 [] rfl rfl ?_
   refine n_ ?_
   exact g_fall (hj ⟨_, by first | (intro h; cases h; done) | (intro h; exact ⟨by omega, by omega, by omega, by revert h; cases ua3 <;> intro h <;> first | rfl | cases h⟩)⟩) [0, 1, 6, 7, 48] rfl (fun w h => h.pick [0] rfl)
  refine xg 9 [] rfl rfl ?_
  refine n_ ?_
  exact g_fall (hj ⟨_, by first | (intro h; cases h; done) | (intro h; exact ⟨by omega, by omega, by omega, by revert h; cases ua3 <;> intro h <;> first | rfl | cases h⟩)⟩) [0, 1, 6, 7, 48] rfl (fun w h => h.pick [0] rfl)
 intro hj
 first | refine g_casep 13 rfl (fun h10 => ?_) fun h10 => ?_ | refine g_caseb 13 rfl (fun h10 => ?_) fun h10 => ?_
 ·refine g_cond_t rfl (s_ (o_ ?_))
  refine xg 8 [0,0] rfl (by omega) ?_
  refine n_ (t_ ?_)
  have hcm := hua2 (by assumption)
  refine o_ ?_
  refine xg 1 [] rfl rfl ?_
  refine g_callOwn (L0 := [.cells rb 56 [st8 l, .int .i64 (((i1 + 1) : Nat) : Int), .bool ex, .int .i64 ((g : Nat) : Int), .bool false]]) (fun x : {x : Int × Nat // -1 ≤ x.1 ∧ x.1 ≤ 999 ∧ (i1 + 1) ≤ x.2 ∧ x.2 ≤ (i1 + 1) + 3 ∧ ((i1 + 1) ≤ l.length → x.2 ≤ l.length)} => .int .i64 x.1.1) (fun x => [.cells rb 56 [st8 l, .int .i64 (x.1.2 : Int), .bool ex, .int .i64 ((g : Nat) : Int), .bool false]]) rfl rfl rfl Try.call92 (fun w hS => number10 l hl ex rb false (i1 + 1) g (by omega) _ w hS.part) ?_
  rintro ⟨⟨n11, i11⟩, hn11⟩
  dsimp only at hn11 ⊢
  simp only [List.cons_append, List.nil_append]
  refine xg 1 [] rfl rfl ?_
  refine n_ ?_
  exact g_fall (hj ⟨(n11, i11), by dsimp only; omega⟩) [0, 1, 6, 7] rfl (fun w h => h.pick [0] rfl)
 refine g_cond_f rfl (g_skip ?_)
 exact g_fall (hj ⟨(n1, i1), by dsimp only; omega⟩) [0, 1, 6, 7] rfl (fun w h => h.pick [0] rfl)

end Go.Proofs.Ytfcamlkbkehlnaa

/- The document's parser, loosely: escaped, row. -/
namespace Go.Proofs.Ytfcamlkbkehlnaa
open Go Go.RowKit

set_option maxRecDepth 100000 in
theorem escaped10 (l : List UInt8) (hl : l.length ≤ 200) (ex : Bool) (rb : Nat) (i g : Nat) (hi : i < l.length) (F : List Nat) (w : World) (hS0 : St w F [.cells rb 56 [st8 l, .int .i64 (i : Int), .bool ex, .int .i64 (g : Int), .bool false]] w) :
    Calls Try.prog 87 #[.pointer (some ⟨rb, 0, none⟩)] w fun e w' => ∃ x : {x : Int × (Nat → Int) × Nat × Bool // (∀ j, 0 ≤ x.2.1 j) ∧ i ≤ x.2.2.1 ∧ x.2.2.1 ≤ l.length ∧ (x.2.2.2 = false → i + 2 ≤ x.2.2.1)}, e = .returned (.agg (nC (MT.mk x.1.1 x.1.2.1 0 0 0 (Value.slice none 0 0) [])).toArray) ∧ St w F [.cells rb 56 [st8 l, .int .i64 (x.1.2.2.1 : Int), .bool ex, .int .i64 (g : Int), .bool x.1.2.2.2]] w' := by
 have hszl := size_mk l
 refine fn_intro_own Try.func87 rfl Try.ntmps87 rfl rfl hS0 ?_
 refine s_ (o_ ?_)
 refine g_alloc rfl rfl Try.zeroValue28 rfl (fun b2 => ?_)
 refine n_ (t_ (s_ (s_ ?_)))
 refine g_quiet (by kernel_rfl) (by kernel_rfl) ?_
 refine xq 9 [1,1] rfl (by omega) ?_
 refine q_val (v := .int .i64 (l.length : Int)) rfl rfl rfl (y_val (y_slen rfl Try.underlying9) (by rw [size_mk])) ?_
 refine xq 1 [0] rfl rfl ?_
 refine q_nil (t_ ?_)
 refine g_casep 16 rfl (fun h1 => ?_) fun h1 => ?_
 ·refine g_cond_t rfl (s_ (o_ ?_))
  refine xg 4 [1] rfl (by omega) ?_
  refine ntso_ ?_
  refine xg 2 [0] rfl (by omega) ?_
  refine n_ (t_ (g_ret (g_then_ret ?_)))
  refine g_end_cell 0 Try.results87 rfl rfl Try.isAgg28 Try.sizeOf28 rfl ?_
  exact fun w hS => ⟨⟨(0, s0, i, true), s0_nn, by dsimp only; omega, by dsimp only; omega, fun h => by cases h⟩, rfl, hS.pick [1] rfl⟩
 refine g_cond_f rfl (g_skip (t_ (s_ ?_)))
 refine g_quiet (by kernel_rfl) (by kernel_rfl) ?_
 refine xq 9 [1,1] rfl (by omega) ?_
 refine q_val (v := .int .u8 (bt ⟨l.toArray⟩ ((i : Int) + 1))) rfl rfl rfl (y_sat rfl rfl Try.underlying9 (by omega) (by rw [size_mk]; omega)) ?_
 refine xq 1 [] rfl rfl ?_
 refine q_nil (t_ (s_ (o_ ?_)))
 refine xg 9 [1,1] rfl (by omega) ?_
 refine ntso_ ?_
 refine xg 1 [] rfl rfl ?_
 refine n_ (t_ (s_ (s_ (o_ ?_))))
 refine xg 4 [1] rfl (by omega) ?_
 refine n_ (t_ ?_)
 refine g_cutc (α := {p : ByteArray // p.size ≤ 100}) (fun x => [(0, .pointer (some ⟨rb, 0, none⟩)), (2, .pointer (some ⟨b2, 0, none⟩)), (3, .int .u8 (bt ⟨l.toArray⟩ ((i : Int) + 1))), (4, .string x.1)]) (fun x => [.cells rb 56 [st8 l, .int .i64 ((i : Int) + 2), .bool ex, .int .i64 (g : Int), .bool false], .cells b2 28 (nC (MT.mk 0 s0 0 0 0 (Value.slice none 0 0) []))]) ?_ ?_
 ·rintro ⟨p, hp⟩
  try dsimp only
  refine t_ (s_ (o_ ?_))
  refine xg 2 [] rfl rfl ?_
  refine g_callE (fun b : Bool => .bool b) rfl rfl rfl Try.call84 (fun w hS => member10 _ _ (by omega) w) ?_
  intro um
  refine xg 1 [] rfl rfl ?_
  refine n_ (t_ (s_ (g_block (s_ (o_ ?_)))))
  refine xg 3 [0] rfl rfl ?_
  refine n_ (t_ ?_)
  refine g_casep 46 rfl (fun h2 => ?_) fun h2 => ?_
  ·refine g_cond_t rfl (s_ (o_ ?_))
   refine g_c1 (m_one10 10 (by decide)) any_I rfl rfl rfl ?_
   refine xg 1 [1] rfl (by omega) ?_
   refine n_ (t_ (g_ret (g_in_ret (g_then_ret ?_))))
   refine g_end_cell 1 Try.results87 rfl rfl Try.isAgg28 Try.sizeOf28 rfl ?_
   exact fun w hS => ⟨⟨(1, withS s0 10 (10 + 1 - 10), i + 2, false), withS_nn s0_nn _, by dsimp only; omega, by dsimp only; omega, fun _ => Nat.le_refl _⟩, rfl, hS.pick [0] rfl⟩
  refine g_cond_f rfl (s_ (o_ ?_))
  refine xg 3 [0] rfl rfl ?_
  refine g_casep 53 rfl (fun h3 => ?_) fun h3 => ?_
  ·refine xg 3 [] rfl rfl ?_
   refine n_ (t_ (g_cond_t rfl (s_ (o_ ?_))))
   refine xg 1 [] rfl rfl ?_
   refine g_c1 (m_one10 (by8 ⟨l.toArray⟩ ((i : Int) + 1)).toNat (by have := ((by8 ⟨l.toArray⟩ ((i : Int) + 1))).toNat_lt; omega)) any_I rfl rfl rfl ?_
   refine xg 1 [1] rfl (by omega) ?_
   refine n_ (t_ (g_ret (g_in_ret (g_then_ret ?_))))
   refine g_end_cell 1 Try.results87 rfl rfl Try.isAgg28 Try.sizeOf28 rfl ?_
   exact fun w hS => ⟨⟨(1, withS s0 (by8 ⟨l.toArray⟩ ((i : Int) + 1)).toNat ((by8 ⟨l.toArray⟩ ((i : Int) + 1)).toNat + 1 - (by8 ⟨l.toArray⟩ ((i : Int) + 1)).toNat), i + 2, false), withS_nn s0_nn _, by dsimp only; omega, by dsimp only; omega, fun _ => Nat.le_refl _⟩, rfl, hS.pick [0] rfl⟩
  refine xg 3 [] rfl rfl ?_
  refine n_ (t_ ?_)
  first | refine g_casep 50 rfl (fun h4 => ?_) fun h4 => ?_ | refine g_caseb 50 rfl (fun h4 => ?_) fun h4 => ?_
  ·refine g_cond_t rfl (s_ (o_ ?_))
   refine xg 1 [] rfl rfl ?_
   refine g_c1 (m_one10 (by8 ⟨l.toArray⟩ ((i : Int) + 1)).toNat (by have := ((by8 ⟨l.toArray⟩ ((i : Int) + 1))).toNat_lt; omega)) any_I rfl rfl rfl ?_
   refine xg 1 [1] rfl (by omega) ?_
   refine n_ (t_ (g_ret (g_in_ret (g_then_ret ?_))))
   refine g_end_cell 1 Try.results87 rfl rfl Try.isAgg28 Try.sizeOf28 rfl ?_
   exact fun w hS => ⟨⟨(1, withS s0 (by8 ⟨l.toArray⟩ ((i : Int) + 1)).toNat ((by8 ⟨l.toArray⟩ ((i : Int) + 1)).toNat + 1 - (by8 ⟨l.toArray⟩ ((i : Int) + 1)).toNat), i + 2, false), withS_nn s0_nn _, by dsimp only; omega, by dsimp only; omega, fun _ => Nat.le_refl _⟩, rfl, hS.pick [0] rfl⟩
  refine g_cond_f rfl (g_skip (g_in_normal (t_ (s_ (o_ ?_)))))
  refine xg 4 [0] rfl (by omega) ?_
  refine ntso_ ?_
  refine xg 2 [1] rfl (by omega) ?_
  refine n_ (t_ (g_ret ?_))
  refine g_end_cell 1 Try.results87 rfl rfl Try.isAgg28 Try.sizeOf28 rfl ?_
  exact fun w hS => ⟨⟨(0, s0, i + 2, true), s0_nn, by dsimp only; omega, by dsimp only; omega, fun h => by cases h⟩, rfl, hS.pick [0] rfl⟩
 intro hj
 first | refine g_casep 42 rfl (fun h5 => ?_) fun h5 => ?_ | refine g_caseb 42 rfl (fun h5 => ?_) fun h5 => ?_
 ·refine g_cond_t rfl (o_ ?_)
  refine xg 1 [] rfl rfl ?_
  refine n_ ?_
  exact g_fall (hj ⟨_, by decide⟩) [0, 2, 3, 4] rfl (fun w h => h.pick [1,0] rfl)
 refine g_cond_f rfl (g_skip ?_)
 exact g_fall (hj ⟨_, by decide⟩) [0, 2, 3, 4] rfl (fun w h => h.pick [1,0] rfl)

end Go.Proofs.Ytfcamlkbkehlnaa

/- The document's parser, loosely: repeated. -/
namespace Go.Proofs.Ytfcamlkbkehlnaa
open Go Go.RowKit

theorem wL_one9 (t : MT) : wL [t] = wT t := by rw [wL, wL]; rfl
theorem rep_nb {t : MT} {lo hi : Int} {v : Value} (h : t.nb) (h1 : -1 ≤ lo ∧ lo ≤ 20) (h2 : -1 ≤ hi ∧ hi ≤ 20) : (MT.mk 4 s0 lo hi 0 v [t]).nb := nb_mk.2 ⟨⟨fun _ _ => Int.le_refl _, by omega, by omega, by omega, by omega⟩, nbL_cons.2 ⟨h, nbL_nil⟩⟩
set_option maxRecDepth 100000 in
theorem repeated10 (l : List UInt8) (hl : l.length ≤ 200) (ex : Bool) (rb : Nat) (i g : Nat) (hi : i ≤ l.length) (k : Int) (s : Nat → Int) (nmi nma nnu : Int) (pq : Option Addr) (cq : Nat) (q : List MT) (F : List Nat) (w : World) (hS0 : St w F [.cells rb 56 [st8 l, .int .i64 (i : Int), .bool ex, .int .i64 (g : Int), .bool false], .forest [(MT.mk k s nmi nma nnu (Value.slice pq q.length cq) q)]] w) :
    Calls Try.prog 67 #[.pointer (some ⟨rb, 0, none⟩), .agg (nC (MT.mk k s nmi nma nnu (Value.slice pq q.length cq) q)).toArray] w fun e w' => ∃ x : {x : MT × Nat × Bool // (((MT.mk k s nmi nma nnu (Value.slice pq q.length cq) q) : MT).nb → x.1.nb) ∧ wT x.1 + i ≤ wT (MT.mk k s nmi nma nnu (Value.slice pq q.length cq) q) + x.2.1 ∧ i ≤ x.2.1 ∧ x.2.1 ≤ l.length}, e = .returned (.agg (nC x.1.1).toArray) ∧ St w F [.cells rb 56 [st8 l, .int .i64 (x.1.2.1 : Int), .bool ex, .int .i64 (g : Int), .bool x.1.2.2], .forest [x.1.1]] w' := by
 have hszl := size_mk l
 refine fn_intro_own Try.func67 rfl Try.ntmps67 rfl rfl hS0 ?_
 refine s_ (o_ ?_)
 refine g_box rfl rfl rfl rfl (fun bn => ?_)
 refine g_alloc rfl rfl Try.zeroValue28 rfl (fun bo => ?_)
 refine ntso_ ?_
 refine xg 1 [] rfl rfl ?_
 refine ntso_ ?_
 refine xg 1 [] rfl rfl ?_
 refine ntso_ ?_
 refine xg 1 [] rfl rfl ?_
 refine g_ahead [2] rfl ?_
 simp only [List.cons_append, List.nil_append]
 refine g_callOwn (L0 := [.cells rb 56 [st8 l, .int .i64 ((i : Nat) : Int), .bool ex, .int .i64 ((g : Nat) : Int), .bool false]]) (fun x : {x : Bool // x = true → i + 1 ≤ l.length} => .bool x.1) (fun _ => [.cells rb 56 [st8 l, .int .i64 ((i : Nat) : Int), .bool ex, .int .i64 ((g : Nat) : Int), .bool false]]) rfl rfl rfl Try.call35 (fun w hS => at10 l hl ex rb false i g (by omega) _ (by decide) _ w hS.part) ?_
 rintro ⟨ua1, hua1⟩
 dsimp only
 simp only [List.cons_append, List.nil_append]
 refine xg 1 [] rfl rfl ?_
 refine n_ (t_ (s_ ?_))
 refine g_cutc (α := {b : Bool // b = true → i + 1 ≤ l.length}) (fun x => [(0, .pointer (some ⟨rb, 0, none⟩)), (3, .pointer (some ⟨bn, 0, none⟩)), (4, .pointer (some ⟨bo, 0, none⟩)), (5, .int .i64 0), (6, .int .i64 (-1)), (7, .bool ua1), (8, .bool x.1)]) (fun x => [.cells rb 56 [st8 l, .int .i64 (i : Int), .bool ex, .int .i64 (g : Int), .bool false], .forest [(MT.mk k s nmi nma nnu (Value.slice pq q.length cq) q)], .cells bn 28 (nC (MT.mk k s nmi nma nnu (Value.slice pq q.length cq) q)), .cells bo 28 (nC (MT.mk 0 s0 0 0 0 (Value.slice none 0 0) []))]) ?_ ?_
 ·rintro ⟨bp, hbp⟩
  try dsimp only
  refine t_ (s_ ?_)
  refine g_cutc (α := {b : Bool // b = true → i + 1 ≤ l.length}) (fun x => [(0, .pointer (some ⟨rb, 0, none⟩)), (3, .pointer (some ⟨bn, 0, none⟩)), (4, .pointer (some ⟨bo, 0, none⟩)), (5, .int .i64 0), (6, .int .i64 (-1)), (7, .bool ua1), (8, .bool bp), (9, .bool x.1)]) (fun x => [.cells rb 56 [st8 l, .int .i64 (i : Int), .bool ex, .int .i64 (g : Int), .bool false], .forest [(MT.mk k s nmi nma nnu (Value.slice pq q.length cq) q)], .cells bn 28 (nC (MT.mk k s nmi nma nnu (Value.slice pq q.length cq) q)), .cells bo 28 (nC (MT.mk 0 s0 0 0 0 (Value.slice none 0 0) []))]) ?_ ?_
  ·rintro ⟨bm, hbm⟩
   try dsimp only
   refine t_ (s_ (o_ ?_))
   refine xg 1 [] rfl rfl ?_
   refine n_ (t_ (s_ (s_ (o_ ?_))))
   refine xg 5 [0] rfl (by omega) ?_
   refine n_ (t_ ?_)
   refine g_cutc (α := {p : ByteArray // 1 ≤ p.size ∧ p.size ≤ 2}) (fun x => [(0, .pointer (some ⟨rb, 0, none⟩)), (3, .pointer (some ⟨bn, 0, none⟩)), (4, .pointer (some ⟨bo, 0, none⟩)), (5, .int .i64 0), (6, .int .i64 (-1)), (7, .bool ua1), (8, .bool bp), (9, .bool bm), (10, .string x.1)]) (fun x => [.cells rb 56 [st8 l, .int .i64 (i : Int), .bool ex, .int .i64 (g : Int), .bool false], .forest [(MT.mk k s nmi nma nnu (Value.slice pq q.length cq) q)], .cells bn 28 (nC (MT.mk k s nmi nma nnu (Value.slice pq q.length cq) q)), .cells bo 28 (nC (MT.mk 0 s0 0 0 0 (Value.slice none 0 0) []))]) ?_ ?_
   ·rintro ⟨p, hp1, hp2⟩
    try dsimp only
    refine t_ (s_ (o_ ?_))
    refine xg 2 [] rfl rfl ?_
    refine g_callOwn (L0 := [.cells rb 56 [st8 l, .int .i64 ((i : Nat) : Int), .bool ex, .int .i64 ((g : Nat) : Int), .bool false]]) (fun x : {x : Bool // x = true → i + p.size ≤ l.length} => .bool x.1) (fun _ => [.cells rb 56 [st8 l, .int .i64 ((i : Nat) : Int), .bool ex, .int .i64 ((g : Nat) : Int), .bool false]]) rfl rfl rfl Try.call35 (fun w hS => at10 l hl ex rb false i g (by omega) _ (by omega) _ w hS.part) ?_
    rintro ⟨ua2, hua2⟩
    dsimp only
    simp only [List.cons_append, List.nil_append]
    refine xg 1 [] rfl rfl ?_
    refine n_ (t_ (s_ ?_))
    refine g_cutc (α := {x : Int × Int × Nat × Bool // -1 ≤ x.1 ∧ x.1 ≤ 20 ∧ -1 ≤ x.2.1 ∧ x.2.1 ≤ 20 ∧ i + 1 ≤ x.2.2.1 ∧ x.2.2.1 ≤ l.length}) (fun x => [(0, .pointer (some ⟨rb, 0, none⟩)), (3, .pointer (some ⟨bn, 0, none⟩)), (4, .pointer (some ⟨bo, 0, none⟩)), (5, .int .i64 x.1.1), (6, .int .i64 x.1.2.1)]) (fun x => [.cells rb 56 [st8 l, .int .i64 (x.1.2.2.1 : Int), .bool ex, .int .i64 (g : Int), .bool x.1.2.2.2], .forest [(MT.mk k s nmi nma nnu (Value.slice pq q.length cq) q)], .cells bn 28 (nC (MT.mk k s nmi nma nnu (Value.slice pq q.length cq) q)), .cells bo 28 (nC (MT.mk 0 s0 0 0 0 (Value.slice none 0 0) []))]) ?_ ?_
    ·rintro ⟨⟨lo, hi, i2, bd2⟩, hx2⟩
     try dsimp only
     dsimp only at hx2
     refine t_ (s_ (o_ ?_))
     refine xg 3 [2] rfl (by omega) ?_
     refine g_buildSlice (offs := [0]) rfl rfl Try.underlying26 rfl Try.zeroValue28 (by kernel_rfl) (fun b3 => ?_)
     refine xg 1 [] rfl rfl ?_
     refine g_stN 4 rfl rfl rfl (by kernel_rfl) rfl rfl rfl rfl ?_
     simp only [List.set_cons_zero, List.set_cons_succ]
     refine g_rowOf (n := 1) nC [(MT.mk k s nmi nma nnu (Value.slice pq q.length cq) q)] 0 rfl rfl nC_len rfl (by decide) ?_
     simp only [List.set_cons_zero, List.set_cons_succ]
     refine g_ahead [0,1] rfl ?_
     simp only [List.cons_append, List.nil_append]
     refine g_node 4 s0 lo hi 0 rfl ?_
     refine n_ (t_ (g_ret ?_))
     refine g_end_cell 3 Try.results67 rfl rfl Try.isAgg28 Try.sizeOf28 rfl ?_
     exact fun w hS => ⟨⟨((MT.mk 4 s0 lo hi 0 (.slice (some ⟨b3, 0, none⟩) 1 1) [(MT.mk k s nmi nma nnu (Value.slice pq q.length cq) q)]), i2, bd2), fun h => rep_nb h ⟨hx2.1, hx2.2.1⟩ ⟨hx2.2.2.1, hx2.2.2.2.1⟩, by dsimp only; rw [wT_mk, wL_one9]; omega, by dsimp only; omega, by dsimp only; omega⟩, rfl, hS.pick [1,0] rfl⟩
    intro hj
    refine g_block (s_ (o_ ?_))
    refine xg 2 [] rfl rfl ?_
    refine n_ (t_ ?_)
    first | refine g_casep 42 rfl (fun h3 => ?_) fun h3 => ?_ | refine g_caseb 42 rfl (fun h3 => ?_) fun h3 => ?_
    ·refine g_cond_t rfl ?_
     have hgo := hua1 (by assumption)
     refine o_ ?_
     refine xg 8 [0,0] rfl (by omega) ?_
     refine n_ (g_in_normal ?_)
     exact g_fall (hj ⟨(0, (-1), (i + 1), false), by dsimp only; omega⟩) [0, 3, 4, 5, 6] rfl (fun w h => h.pick [0,0,0,0] rfl)
    refine g_cond_f rfl (s_ (o_ ?_))
    refine xg 2 [] rfl rfl ?_
    refine n_ (t_ ?_)
    first | refine g_casep 51 rfl (fun h4 => ?_) fun h4 => ?_ | refine g_caseb 51 rfl (fun h4 => ?_) fun h4 => ?_
    ·refine g_cond_t rfl (s_ ?_)
     have hgo := hbp (by assumption)
     refine o_ ?_
     refine xg 8 [0,0] rfl (by omega) ?_
     refine nto_ ?_
     refine xg 1 [] rfl rfl ?_
     refine n_ (g_in_normal ?_)
     exact g_fall (hj ⟨(1, (-1), (i + 1), false), by dsimp only; omega⟩) [0, 3, 4, 5, 6] rfl (fun w h => h.pick [0,0,0,0] rfl)
    refine g_cond_f rfl (s_ (o_ ?_))
    refine xg 2 [] rfl rfl ?_
    refine n_ (t_ ?_)
    first | refine g_casep 60 rfl (fun h5 => ?_) fun h5 => ?_ | refine g_caseb 60 rfl (fun h5 => ?_) fun h5 => ?_
    ·refine g_cond_t rfl (s_ ?_)
     have hgo := hbm (by assumption)
     refine o_ ?_
     refine xg 8 [0,0] rfl (by omega) ?_
     refine nto_ ?_
     refine xg 1 [] rfl rfl ?_
     refine n_ (g_in_normal ?_)
     exact g_fall (hj ⟨(0, 1, (i + 1), false), by dsimp only; omega⟩) [0, 3, 4, 5, 6] rfl (fun w h => h.pick [0,0,0,0] rfl)
    refine g_cond_f rfl (s_ (o_ ?_))
    refine xg 2 [] rfl rfl ?_
    refine n_ (t_ ?_)
    first | refine g_casep 69 rfl (fun h6 => ?_) fun h6 => ?_ | refine g_caseb 69 rfl (fun h6 => ?_) fun h6 => ?_
    ·refine g_cond_t rfl (s_ ?_)
     have hgo := hua2 (by assumption)
     refine o_ ?_
     refine xg 11 [0,0] rfl (by omega) ?_
     refine ntso_ ?_
     refine xg 1 [] rfl rfl ?_
     refine n_ (t_ (s_ (s_ (o_ ?_))))
     refine xg 5 [0] rfl (by omega) ?_
     refine n_ (t_ ?_)
     refine g_cutc (α := {c : ByteArray // c.size ≤ 2}) (fun x => [(0, .pointer (some ⟨rb, 0, none⟩)), (3, .pointer (some ⟨bn, 0, none⟩)), (4, .pointer (some ⟨bo, 0, none⟩)), (5, .int .i64 0), (6, .int .i64 (-1)), (12, .string x.1)]) (fun x => [.cells rb 56 [st8 l, .int .i64 ((i : Int) + (p.size : Int)), .bool ex, .int .i64 (g : Int), .bool false], .forest [(MT.mk k s nmi nma nnu (Value.slice pq q.length cq) q)], .cells bn 28 (nC (MT.mk k s nmi nma nnu (Value.slice pq q.length cq) q)), .cells bo 28 (nC (MT.mk 0 s0 0 0 0 (Value.slice none 0 0) []))]) ?_ ?_
     ·rintro ⟨c, hc⟩
      try dsimp only
      refine t_ (o_ ?_)
      refine xg 2 [] rfl rfl ?_
      refine g_callOwn (L0 := [.cells rb 56 [st8 l, .int .i64 (((i + p.size) : Nat) : Int), .bool ex, .int .i64 (g : Int), .bool false]]) (fun x : {x : Int × Int × Nat × Bool // -1 ≤ x.1 ∧ x.1 ≤ 20 ∧ -1 ≤ x.2.1 ∧ x.2.1 ≤ 20 ∧ ((i + p.size)) ≤ x.2.2.1 ∧ x.2.2.1 ≤ l.length} => .tuple #[.int .i64 x.1.1, .int .i64 x.1.2.1]) (fun x => [.cells rb 56 [st8 l, .int .i64 (x.1.2.2.1 : Int), .bool ex, .int .i64 (g : Int), .bool x.1.2.2.2]]) rfl rfl rfl Try.call82 (fun w hS => interval10 l hl ex rb ((i + p.size)) g (by omega) c hc _ w hS.part) ?_
      rintro ⟨⟨lo3, hi3, i3, bd3⟩, hx3⟩
      dsimp only at hx3 ⊢
      simp only [List.cons_append, List.nil_append]
      refine xg 5 [] rfl rfl ?_
      refine n_ (g_in_normal ?_)
      exact g_fall (hj ⟨(lo3, hi3, i3, bd3), by dsimp only; omega⟩) [0, 3, 4, 5, 6] rfl (fun w h => h.pick [0,0,0,0] rfl)
     intro hj
     first | refine g_casep 85 rfl (fun h7 => ?_) fun h7 => ?_ | refine g_caseb 85 rfl (fun h7 => ?_) fun h7 => ?_
     ·refine g_cond_t rfl (o_ ?_)
      refine g_buildSlice (offs := [0, 1]) rfl rfl Try.underlying133 rfl Try.zeroValue5 (by kernel_rfl) (fun b4 => ?_)
      refine g_val rfl rfl rfl (y_cellsStr (l := [92, 125]) 0 rfl Try.underlying133 Try.underlying9 Try.underlying5 rfl rfl rfl) ?_
      refine xg 1 [] rfl rfl ?_
      refine n_ ?_
      exact g_fall (hj ⟨_, by decide⟩) [0, 3, 4, 5, 6, 12] rfl (fun w h => h.pick [1,1,1,1] rfl)
     refine g_cond_f rfl (g_skip ?_)
     exact g_fall (hj ⟨_, by decide⟩) [0, 3, 4, 5, 6, 12] rfl (fun w h => h.pick [0,0,0,0] rfl)
    refine g_cond_f rfl (s_ (o_ ?_))
    refine xg 2 [2,3] rfl (by omega) ?_
    refine n_ (t_ (g_ret (g_in_ret (g_then_ret ?_))))
    refine g_end_cell 3 Try.results67 rfl rfl Try.isAgg28 Try.sizeOf28 rfl ?_
    exact fun w hS => ⟨⟨((MT.mk k s nmi nma nnu (Value.slice pq q.length cq) q), i, false), fun h => h, Nat.le_refl _, Nat.le_refl _, by dsimp only; omega⟩, rfl, hS.pick [0,0] rfl⟩
   intro hj
   first | refine g_casep 35 rfl (fun h8 => ?_) fun h8 => ?_ | refine g_caseb 35 rfl (fun h8 => ?_) fun h8 => ?_
   ·refine g_cond_t rfl (o_ ?_)
    refine g_buildSlice (offs := [0, 1]) rfl rfl Try.underlying133 rfl Try.zeroValue5 (by kernel_rfl) (fun b5 => ?_)
    refine g_val rfl rfl rfl (y_cellsStr (l := [92, 123]) 0 rfl Try.underlying133 Try.underlying9 Try.underlying5 rfl rfl rfl) ?_
    refine xg 1 [] rfl rfl ?_
    refine n_ ?_
    exact g_fall (hj ⟨_, by decide, by decide⟩) [0, 3, 4, 5, 6, 7, 8, 9, 10] rfl (fun w h => h.pick [1,1,1,1] rfl)
   refine g_cond_f rfl (g_skip ?_)
   exact g_fall (hj ⟨_, by decide, by decide⟩) [0, 3, 4, 5, 6, 7, 8, 9, 10] rfl (fun w h => h.pick [0,0,0,0] rfl)
  intro hj
  refine o_ ?_
  refine xg 5 [0] rfl (by omega) ?_
  first | refine g_casep 27 rfl (fun h9 => ?_) fun h9 => ?_ | refine g_caseb 27 rfl (fun h9 => ?_) fun h9 => ?_
  ·refine xg 1 [] rfl rfl ?_
   refine g_callOwn (L0 := [.cells rb 56 [st8 l, .int .i64 ((i : Nat) : Int), .bool ex, .int .i64 ((g : Nat) : Int), .bool false]]) (fun x : {x : Bool // x = true → i + 1 ≤ l.length} => .bool x.1) (fun _ => [.cells rb 56 [st8 l, .int .i64 ((i : Nat) : Int), .bool ex, .int .i64 ((g : Nat) : Int), .bool false]]) rfl rfl rfl Try.call35 (fun w hS => at10 l hl ex rb false i g (by omega) _ (by decide) _ w hS.part) ?_
   rintro ⟨ua10, hua10⟩
   dsimp only
   simp only [List.cons_append, List.nil_append]
   refine xg 2 [] rfl rfl ?_
   refine n_ ?_
   exact g_fall (hj ⟨_, by first | (intro h; cases h; done) | assumption⟩) [0, 3, 4, 5, 6, 7, 8, 9] rfl (fun w h => h.pick [0,0,0,0] rfl)
  refine xg 4 [] rfl rfl ?_
  refine n_ ?_
  exact g_fall (hj ⟨_, by first | (intro h; cases h; done) | assumption⟩) [0, 3, 4, 5, 6, 7, 8, 9] rfl (fun w h => h.pick [0,0,0,0] rfl)
 intro hj
 refine o_ ?_
 refine xg 5 [0] rfl (by omega) ?_
 first | refine g_casep 19 rfl (fun h11 => ?_) fun h11 => ?_ | refine g_caseb 19 rfl (fun h11 => ?_) fun h11 => ?_
 ·refine xg 1 [] rfl rfl ?_
  refine g_callOwn (L0 := [.cells rb 56 [st8 l, .int .i64 ((i : Nat) : Int), .bool ex, .int .i64 ((g : Nat) : Int), .bool false]]) (fun x : {x : Bool // x = true → i + 1 ≤ l.length} => .bool x.1) (fun _ => [.cells rb 56 [st8 l, .int .i64 ((i : Nat) : Int), .bool ex, .int .i64 ((g : Nat) : Int), .bool false]]) rfl rfl rfl Try.call35 (fun w hS => at10 l hl ex rb false i g (by omega) _ (by decide) _ w hS.part) ?_
  rintro ⟨ua12, hua12⟩
  dsimp only
  simp only [List.cons_append, List.nil_append]
  refine xg 2 [] rfl rfl ?_
  refine n_ ?_
  exact g_fall (hj ⟨_, by first | (intro h; cases h; done) | assumption⟩) [0, 3, 4, 5, 6, 7, 8] rfl (fun w h => h.pick [0,2,1,0] rfl)
 refine xg 4 [] rfl rfl ?_
 refine n_ ?_
 exact g_fall (hj ⟨_, by first | (intro h; cases h; done) | assumption⟩) [0, 3, 4, 5, 6, 7, 8] rfl (fun w h => h.pick [0,2,1,0] rfl)

end Go.Proofs.Ytfcamlkbkehlnaa

/- The document's parser, loosely: row, group. -/
namespace Go.Proofs.Ytfcamlkbkehlnaa
open Go Go.RowKit

set_option maxRecDepth 100000 in
theorem row10 (v : Value) (ms : List MT) (hml : ms.length ≤ 1000) (F : List Nat) (w : World) (hS0 : St w F [.row 28 9 v ms.length (ms.flatMap nC), .forest ms] w) :
    Calls Try.prog 70 #[v] w fun e w' => ∃ x : {x : MT // (nbL ms → x.nb) ∧ wT x ≤ wL ms + (if ms.length = 1 then 0 else 1)}, e = .returned (.agg (nC x.1).toArray) ∧ St w F [.forest [x.1]] w' := by
 refine fn_intro_own Try.func70 rfl Try.ntmps70 rfl rfl hS0 ?_
 refine s_ (o_ ?_)
 refine g_alloc rfl rfl Try.zeroValue28 rfl (fun bo => ?_)
 refine n_ (t_ (s_ (s_ ?_)))
 rcases ms with _ | ⟨t1, _ | ⟨t2, ms⟩⟩
 ·refine o_ ?_
  refine xg 1 [] rfl rfl ?_
  refine g_rowLen 1 rfl (fun pr1 cr1 hv1 => ?_)
  cases hv1
  refine g_val rfl rfl rfl (y_llen rfl Try.underlying26) ?_
  refine xg 1 [0] rfl rfl ?_
  refine g_lit 5 false rfl (by decide) ?_
  refine n_ (t_ (g_cond_f rfl (g_skip (t_ (s_ ?_)))))
  refine g_ahead [1,1] rfl ?_
  simp only [List.cons_append, List.nil_append]
  refine g_node 2 s0 0 0 0 rfl ?_
  refine o_ ?_
  refine xg 3 [1] rfl (by omega) ?_
  refine n_ (t_ (g_ret ?_))
  refine g_end_cell 1 Try.results70 rfl rfl Try.isAgg28 Try.sizeOf28 rfl ?_
  exact fun w hS => ⟨⟨.mk 2 s0 0 0 0 (.slice pr1 (([] : List MT).length) cr1) ([] : List MT), fun h => nb_mk.2 ⟨nod0, h⟩, by rw [wT_mk, if_neg (by simp)]; omega⟩, rfl, hS.pick [0] rfl⟩
 ·obtain ⟨nk, ns, nm, nx, nu, nv, nq⟩ := t1
  refine g_kids 2 rfl (fun pv cv hv => ?_)
  subst hv
  have hone : ([(MT.mk nk ns nm nx nu (Value.slice pv nq.length cv) nq)] : List MT).length = 1 := rfl
  refine o_ ?_
  refine xg 1 [] rfl rfl ?_
  refine g_rowLen 1 rfl (fun pr2 cr2 hv2 => ?_)
  cases hv2
  refine g_val rfl rfl rfl (y_llen rfl Try.underlying26) ?_
  refine xg 1 [0] rfl rfl ?_
  refine g_lit 5 true rfl (decide_eq_true rfl) ?_
  refine n_ (t_ (g_cond_t rfl (s_ (o_ ?_))))
  refine xg 1 [] rfl rfl ?_
  refine g_rowCase 1 rfl (by simp) (fun gr3 cr3 hv3 => ?_)
  cases hv3
  refine g_val rfl rfl rfl (y_idxAddr (m := 0 * 9 + 0) rfl rfl Try.underlying26 Try.sizeOf28 (by omega) (by omega) (by omega)) ?_
  refine g_val rfl rfl rfl (y_ldRN (k := 9) (vs := nC (MT.mk nk ns nm nx nu (Value.slice pv nq.length cv) nq)) 1 rfl Try.isAgg28 Try.sizeOf28 rfl (fm_elem nC 9 nC_len _ 0 _ (rfl)) (nC_len _)) ?_
  refine xg 1 [0] rfl (by omega) ?_
  refine n_ (t_ (g_ret (g_then_ret ?_)))
  refine g_end_cell 0 Try.results70 rfl rfl Try.isAgg28 Try.sizeOf28 rfl ?_
  exact fun w hS => ⟨⟨(MT.mk nk ns nm nx nu (Value.slice pv nq.length cv) nq), fun h => (nbL_cons.1 h).1, by rw [wL_one9]; exact Nat.le_add_right _ _⟩, rfl, hS.pick [2] rfl⟩
 refine o_ ?_
 refine xg 1 [] rfl rfl ?_
 refine g_rowLen 1 rfl (fun pr4 cr4 hv4 => ?_)
 cases hv4
 refine g_val rfl rfl rfl (y_llen rfl Try.underlying26) ?_
 refine xg 1 [0] rfl rfl ?_
 refine g_lit 5 false rfl (decide_eq_false (by simp; omega)) ?_
 refine n_ (t_ (g_cond_f rfl (g_skip (t_ (s_ ?_)))))
 refine g_ahead [1,1] rfl ?_
 simp only [List.cons_append, List.nil_append]
 refine g_node 2 s0 0 0 0 rfl ?_
 refine o_ ?_
 refine xg 3 [1] rfl (by omega) ?_
 refine n_ (t_ (g_ret ?_))
 refine g_end_cell 1 Try.results70 rfl rfl Try.isAgg28 Try.sizeOf28 rfl ?_
 exact fun w hS => ⟨⟨.mk 2 s0 0 0 0 (.slice pr4 ((t1 :: t2 :: ms).length) cr4) (t1 :: t2 :: ms), fun h => nb_mk.2 ⟨nod0, h⟩, by rw [wT_mk, if_neg (by simp)]; omega⟩, rfl, hS.pick [0] rfl⟩

/-- What a reader leaves: a tree, a place, groups, whether it is bad. -/
def GX (l : List UInt8) (i c z : Nat) (x : MT × Nat × Nat × Bool) : Prop := x.1.nb ∧ i ≤ x.2.1 ∧ x.2.1 ≤ l.length + 2 * (l.length - i) + c ∧ x.2.2.1 ≤ 10 ∧ (x.2.2.2 = false → x.2.2.1 ≤ 9 ∧ i + 1 ≤ x.2.1 ∧ x.2.1 ≤ l.length ∧ wT x.1 + z ≤ 3 * (x.2.1 - i))
def AOk (l : List UInt8) (ex : Bool) (i : Nat) : Prop := ∀ (rb g : Nat) (wi : Bool) (F : List Nat) (w : World), g ≤ 9 → i ≤ l.length → St w F [.cells rb 56 [st8 l, .int .i64 (i : Int), .bool ex, .int .i64 (g : Int), .bool false]] w → Calls Try.prog 22 #[.pointer (some ⟨rb, 0, none⟩), .bool wi] w fun e w' => ∃ x : {x : MT × Nat × Nat × Bool // GX l i 0 1 x}, e = .returned (.agg (nC x.1.1).toArray) ∧ St w F [.cells rb 56 [st8 l, .int .i64 (x.1.2.1 : Int), .bool ex, .int .i64 (x.1.2.2.1 : Int), .bool x.1.2.2.2], .forest [x.1.1]] w'

set_option maxRecDepth 100000 in
theorem group10 (l : List UInt8) (hl : l.length ≤ 200) (ex : Bool) (rb : Nat) (i g : Nat) (hi : i ≤ l.length) (hg : g ≤ 9) (p : ByteArray) (hp1 : 1 ≤ p.size) (hp : p.size ≤ 2) (hall : AOk l ex i) (F : List Nat) (w : World) (hS0 : St w F [.cells rb 56 [st8 l, .int .i64 (i : Int), .bool ex, .int .i64 (g : Int), .bool false]] w) :
    Calls Try.prog 86 #[.pointer (some ⟨rb, 0, none⟩), .string p] w fun e w' => ∃ x : {x : MT × Nat × Nat × Bool // GX l i 2 0 x}, e = .returned (.agg (nC x.1.1).toArray) ∧ St w F [.cells rb 56 [st8 l, .int .i64 (x.1.2.1 : Int), .bool ex, .int .i64 (x.1.2.2.1 : Int), .bool x.1.2.2.2], .forest [x.1.1]] w' := by
 have hszl := size_mk l
 refine fn_intro_own Try.func86 rfl Try.ntmps86 rfl rfl hS0 ?_
 refine s_ (o_ ?_)
 refine g_alloc rfl rfl Try.zeroValue28 rfl (fun bo => ?_)
 refine ntso_ ?_
 refine xg 8 [1,1] rfl (by omega) ?_
 refine ntso_ ?_
 refine xg 5 [1] rfl (by omega) ?_
 refine g_alloc rfl rfl Try.zeroValue28 rfl (fun bg => ?_)
 refine xg 1 [0] rfl (by omega) ?_
 refine n_ (t_ (s_ (s_ (o_ ?_))))
 refine xg 5 [2,0] rfl (by omega) ?_
 refine n_ (t_ ?_)
 refine g_casep 23 rfl (fun h1 => ?_) fun h1 => ?_
 ·refine g_cond_t rfl (s_ (o_ ?_))
  refine xg 4 [2] rfl (by omega) ?_
  refine n_ (t_ (s_ ?_))
  refine g_leaf 5 s0 0 0 ((g : Int) + 1) ?_
  refine o_ ?_
  refine xg 2 [1,2] rfl (by omega) ?_
  refine n_ (t_ (g_ret (g_then_ret ?_)))
  refine g_end_cell 2 Try.results86 rfl rfl Try.isAgg28 Try.sizeOf28 rfl ?_
  exact fun w hS => ⟨⟨(.mk 5 s0 0 0 ((g : Int) + 1) (.slice none 0 0) [], i, g + 1, true), nb_mk.2 ⟨nod0, nbL_nil⟩, Nat.le_refl _, by dsimp only; omega, by dsimp only; omega, fun h => by cases h⟩, rfl, hS.pick [3,0] rfl⟩
 refine g_cond_f rfl (g_skip (t_ (s_ (o_ ?_))))
 refine xg 1 [] rfl rfl ?_
 refine g_ahead [2] rfl ?_
 simp only [List.cons_append, List.nil_append]
 refine g_callOwn (L0 := [.cells rb 56 [st8 l, .int .i64 ((i : Nat) : Int), .bool ex, .int .i64 (((g + 1) : Nat) : Int), .bool false]]) (fun x : {x : MT × Nat × Nat × Bool // GX l i 0 1 x} => .agg (nC x.1.1).toArray) (fun x => [.cells rb 56 [st8 l, .int .i64 (x.1.2.1 : Int), .bool ex, .int .i64 (x.1.2.2.1 : Int), .bool x.1.2.2.2], .forest [x.1.1]]) rfl rfl rfl Try.call22 (fun w hS => hall rb (g + 1) true _ w (by omega) hi hS.part) ?_
 rintro ⟨⟨⟨nka, nsa, nma, nxa, nua, nva, nqa⟩, ia, ga, bda⟩, hxa⟩
 obtain ⟨hxaa, hxba, hxca, hxda, hxea⟩ := hxa
 dsimp only at hxaa hxba hxca hxda hxea ⊢
 simp only [List.cons_append, List.nil_append]
 refine g_kids 1 rfl (fun pva cva hva => ?_)
 subst hva
 refine g_buildSlice (offs := [0]) rfl rfl Try.underlying26 rfl Try.zeroValue28 (by kernel_rfl) (fun b3 => ?_)
 refine xg 2 [3] rfl (by omega) ?_
 refine n_ (t_ (s_ ?_))
 refine g_rowOf (n := 1) nC [(MT.mk nka nsa nma nxa nua (Value.slice pva nqa.length cva) nqa)] 0 rfl rfl nC_len rfl (by decide) ?_
 simp only [List.set_cons_zero, List.set_cons_succ]
 refine g_ahead [0,1] rfl ?_
 simp only [List.cons_append, List.nil_append]
 refine g_node 5 s0 0 0 ((g : Int) + 1) rfl ?_
 refine o_ ?_
 refine xg 2 [] rfl rfl ?_
 refine g_ahead [1] rfl ?_
 simp only [List.cons_append, List.nil_append]
 refine g_callOwn (L0 := [.cells rb 56 [st8 l, .int .i64 ((ia : Nat) : Int), .bool ex, .int .i64 ((ga : Nat) : Int), .bool bda]]) (fun x : {x : Bool // x = true → ia + p.size ≤ l.length} => .bool x.1) (fun _ => [.cells rb 56 [st8 l, .int .i64 ((ia : Nat) : Int), .bool ex, .int .i64 ((ga : Nat) : Int), .bool bda]]) rfl rfl rfl Try.call35 (fun w hS => at10 l hl ex rb bda ia ga (by omega) _ (by omega) _ w hS.part) ?_
 rintro ⟨ua2, hua2⟩
 dsimp only
 simp only [List.cons_append, List.nil_append]
 refine xg 1 [] rfl rfl ?_
 refine n_ (t_ (s_ (s_ (o_ ?_))))
 refine xg 2 [] rfl rfl ?_
 refine n_ (t_ ?_)
 refine g_cutc (α := {b : Bool // b = false → bda = false ∧ ua2 = true}) (fun x => [(0, .pointer (some ⟨rb, 0, none⟩)), (1, .string p), (4, .pointer (some ⟨bo, 0, none⟩)), (5, .pointer (some ⟨bg, 0, none⟩))]) (fun x => [.cells rb 56 [st8 l, .int .i64 (ia : Int), .bool ex, .int .i64 (ga : Int), .bool x.1], .forest [.mk 5 s0 0 0 ((g : Int) + 1) (.slice (some ⟨b3, 0, none⟩) 1 1) [(MT.mk nka nsa nma nxa nua (Value.slice pva nqa.length cva) nqa)]], .cells bo 28 (nC (MT.mk 0 s0 0 0 0 (Value.slice none 0 0) [])), .cells bg 28 (nC (.mk 5 s0 0 0 ((g : Int) + 1) (.slice (some ⟨b3, 0, none⟩) 1 1) []))]) ?_ ?_
 ·rintro ⟨bd3, hbd3⟩
  try dsimp only
  refine t_ (s_ (o_ ?_))
  refine xg 11 [0,0] rfl (by omega) ?_
  refine ntso_ ?_
  refine xg 2 [3,2] rfl (by omega) ?_
  refine n_ (t_ (g_ret ?_))
  refine g_end_cell 2 Try.results86 rfl rfl Try.isAgg28 Try.sizeOf28 rfl ?_
  exact fun w hS => ⟨⟨((.mk 5 s0 0 0 ((g : Int) + 1) (.slice (some ⟨b3, 0, none⟩) 1 1) [(MT.mk nka nsa nma nxa nua (Value.slice pva nqa.length cva) nqa)]), ia + p.size, ga, bd3), nb_mk.2 ⟨nod0, nbL_cons.2 ⟨hxaa, nbL_nil⟩⟩, by dsimp only; omega, by dsimp only; omega, hxda, fun h => by
    have h1 := hbd3 h
    have h2 := hxea h1.1
    have h3 := hua2 h1.2
    dsimp only
    rw [wT_mk, wL_one9]
    omega⟩, rfl, hS.pick [0,0] rfl⟩
 intro hj
 first | refine g_casep 36 rfl (fun h3 => ?_) fun h3 => ?_ | refine g_caseb 36 rfl (fun h3 => ?_) fun h3 => ?_
 ·refine g_cond_t rfl (o_ ?_)
  refine xg 4 [0] rfl (by omega) ?_
  refine n_ ?_
  exact g_fall (hj ⟨true, by first | (intro h; cases h; done) | (intro h; exact ⟨h, by first | assumption | (revert ‹(!ua2) = false›; cases ua2 <;> intro h9 <;> first | rfl | cases h9)⟩)⟩) [0, 1, 4, 5] rfl (fun w h => h.pick [0,0,1,0] rfl)
 refine g_cond_f rfl (g_skip ?_)
 exact g_fall (hj ⟨bda, by first | (intro h; cases h; done) | (intro h; exact ⟨h, by first | assumption | (revert ‹(!ua2) = false›; cases ua2 <;> intro h9 <;> first | rfl | cases h9)⟩)⟩) [0, 1, 4, 5] rfl (fun w h => h.pick [0,0,1,0] rfl)

end Go.Proofs.Ytfcamlkbkehlnaa

/- The document's parser, loosely: atom. -/
namespace Go.Proofs.Ytfcamlkbkehlnaa
open Go Go.RowKit

set_option maxHeartbeats 1000000 in
set_option maxRecDepth 100000 in
theorem atom10 (l : List UInt8) (hl : l.length ≤ 200) (ex : Bool) (rb : Nat) (i g : Nat) (hi : i < l.length) (hg : g ≤ 9) (hall : ∀ j, i < j → j ≤ l.length → AOk l ex j) (F : List Nat) (w : World) (hS0 : St w F [.cells rb 56 [st8 l, .int .i64 (i : Int), .bool ex, .int .i64 (g : Int), .bool false]] w) :
    Calls Try.prog 69 #[.pointer (some ⟨rb, 0, none⟩)] w fun e w' => ∃ x : {x : MT × Nat × Nat × Bool // GX l i 0 1 x}, e = .returned (.agg (nC x.1.1).toArray) ∧ St w F [.cells rb 56 [st8 l, .int .i64 (x.1.2.1 : Int), .bool ex, .int .i64 (x.1.2.2.1 : Int), .bool x.1.2.2.2], .forest [x.1.1]] w' := by
 have hszl := size_mk l
 refine fn_intro_own Try.func69 rfl Try.ntmps69 rfl rfl hS0 ?_
 refine s_ (o_ ?_)
 refine g_alloc rfl rfl Try.zeroValue28 rfl (fun bo => ?_)
 refine n_ (t_ (s_ ?_))
 refine g_quiet (by kernel_rfl) (by kernel_rfl) ?_
 refine xq 8 [1,1] rfl (by omega) ?_
 refine q_val (v := .int .u8 (bt ⟨l.toArray⟩ (i : Int))) rfl rfl rfl (y_sat rfl rfl Try.underlying9 (by omega) (by rw [size_mk]; omega)) ?_
 refine xq 1 [] rfl rfl ?_
 refine q_nil (t_ (s_ ?_))
 refine g_cutc (α := {b : Bool // b = true → i + 2 ≤ l.length}) (fun x => [(0, .pointer (some ⟨rb, 0, none⟩)), (2, .pointer (some ⟨bo, 0, none⟩)), (3, .int .u8 (bt ⟨l.toArray⟩ (i : Int))), (4, .bool x.1)]) (fun x => [.cells rb 56 [st8 l, .int .i64 (i : Int), .bool ex, .int .i64 (g : Int), .bool false], .cells bo 28 (nC (MT.mk 0 s0 0 0 0 (Value.slice none 0 0) []))]) ?_ ?_
 ·rintro ⟨op, hop⟩
  try dsimp only
  refine t_ (s_ (o_ ?_))
  refine xg 1 [] rfl rfl ?_
  refine n_ (t_ (s_ (s_ (o_ ?_))))
  refine xg 4 [0] rfl (by omega) ?_
  refine n_ (t_ ?_)
  refine g_cutc (α := {p : ByteArray // p.size ≤ 100}) (fun x => [(0, .pointer (some ⟨rb, 0, none⟩)), (2, .pointer (some ⟨bo, 0, none⟩)), (3, .int .u8 (bt ⟨l.toArray⟩ (i : Int))), (4, .bool op), (5, .string x.1)]) (fun x => [.cells rb 56 [st8 l, .int .i64 (i : Int), .bool ex, .int .i64 (g : Int), .bool false], .cells bo 28 (nC (MT.mk 0 s0 0 0 0 (Value.slice none 0 0) []))]) ?_ ?_
  ·rintro ⟨p, hp⟩
   try dsimp only
   refine t_ (s_ (o_ ?_))
   refine xg 2 [] rfl rfl ?_
   refine g_callE (fun b : Bool => .bool b) rfl rfl rfl Try.call84 (fun w hS => member10 _ _ (by omega) w) ?_
   intro um
   refine xg 1 [] rfl rfl ?_
   refine n_ (t_ (s_ (g_block (s_ (o_ ?_)))))
   refine xg 3 [0] rfl rfl ?_
   refine n_ (t_ ?_)
   refine g_casep 37 rfl (fun h1 => ?_) fun h1 => ?_
   ·refine g_cond_t rfl (s_ (o_ ?_))
    refine xg 8 [0,0] rfl (by omega) ?_
    refine n_ (t_ (s_ ?_))
    refine g_leaf 1 (withS s0 0 (255 + 1 - 0)) 0 0 0 ?_
    refine o_ ?_
    refine g_val (v := .agg (s4C s0).toArray) rfl rfl rfl (y_build (offs := []) rfl Try.zeroValue25 (by kernel_rfl)) ?_
    refine g_c1 (m_rwith s0 0 255 (by decide) (by decide)) any_I rfl rfl rfl ?_
    refine xg 2 [2] rfl (by omega) ?_
    refine n_ (t_ (g_ret (g_in_ret (g_then_ret ?_))))
    refine g_end_cell 2 Try.results69 rfl rfl Try.isAgg28 Try.sizeOf28 rfl ?_
    have hw : wT (MT.mk 1 (withS s0 0 (255 + 1 - 0)) 0 0 0 (Value.slice none 0 0) []) = 1 := by rw [wT_mk, wL]
    exact fun w hS => ⟨⟨((MT.mk 1 (withS s0 0 (255 + 1 - 0)) 0 0 0 (Value.slice none 0 0) []), i + 1, g, false), nb_mk.2 ⟨⟨fun j _ => withS_nn s0_nn _ j, by decide, by decide, by decide, by decide⟩, nbL_nil⟩, by dsimp only; omega, by dsimp only; omega, by dsimp only; omega, fun h => by
      dsimp only
      rw [hw]
      omega⟩, rfl, hS.pick [1,0] rfl⟩
   refine g_cond_f rfl (s_ (o_ ?_))
   refine xg 3 [0] rfl rfl ?_
   refine n_ (t_ ?_)
   refine g_casep 50 rfl (fun h2 => ?_) fun h2 => ?_
   ·refine g_cond_t rfl (s_ ?_)
    refine k_go [0,0] rfl (by kernel_rfl) (fun _ _ _ _ _ h => h) fun hQ => ?_
    refine k_x 0 [0,0] [] hQ (by kernel_rfl) rfl rfl rfl rfl rfl rfl ?_
    refine k_x 1 [0,0] [] hQ (by kernel_rfl) rfl rfl rfl rfl rfl rfl ?_
    refine k_x 2 [0,0] [] hQ (by kernel_rfl) rfl rfl rfl rfl rfl rfl ?_
    refine k_xc 3 [0,0] [0] hQ (by kernel_rfl) rfl rfl rfl rfl rfl rfl (by omega) ?_
    refine k_x 4 [0,0] [] hQ (by kernel_rfl) rfl rfl rfl rfl rfl rfl ?_
    refine k_x 5 [0,0] [] hQ (by kernel_rfl) rfl rfl rfl rfl rfl rfl ?_
    refine k_x 6 [0,0] [] hQ (by kernel_rfl) rfl rfl rfl rfl rfl rfl ?_
    refine k_xc 7 [0,0] [0] hQ (by kernel_rfl) rfl rfl rfl rfl rfl rfl (by omega) ?_
    refine k_xc 8 [0,0] [] hQ (by kernel_rfl) rfl rfl rfl rfl rfl rfl (by omega) ?_
    refine k_take (v := st8 (l.drop (i + 1))) 9 rfl (by kernel_rfl) hQ rfl rfl rfl (fun _ h => h.pick [0,0] rfl) (y_val (y_sfrom (l := i + 1) rfl rfl Try.underlying9 (by rw [size_mk]; omega)) (by rw [st8_drop]; rfl)) ?_
    refine k_all [10,15] (by kernel_rfl) (by simp) ⟨?_, ?_, trivial⟩
    ·refine k_op 10 rfl ?_
     refine g_callE (fun x : {x : (Nat → Int) × Int × Int // (∀ j, 0 ≤ x.1 j) ∧ 0 ≤ x.2.1 ∧ x.2.1 ≤ (l.drop (i + 1)).length} => .tuple #[.agg (s4C x.1.1).toArray, .int .i64 x.1.2.1, .int .i64 x.1.2.2]) rfl rfl rfl Try.call85 (fun w hS => bk10_any (l.drop (i + 1)) (by rw [List.length_drop]; omega) w) ?_
     rintro ⟨⟨s, n, er⟩, hs, hn⟩
     dsimp only at hs hn ⊢
     rw [List.length_drop] at hn
     obtain ⟨n, rfl⟩ := Int.eq_ofNat_of_zero_le hn.1
     refine n_ ?_
     refine k_end (fun _ h => h.pick [0,0] rfl) ?_
     refine k_x 11 [0,0] [] hQ (by kernel_rfl) rfl rfl rfl rfl rfl rfl ?_
     refine k_x 12 [0,0] [] hQ (by kernel_rfl) rfl rfl rfl rfl rfl rfl ?_
     refine k_x 13 [0,0] [] hQ (by kernel_rfl) rfl rfl rfl rfl rfl rfl ?_
     refine k_x 14 [0,0] [] hQ (by kernel_rfl) rfl rfl rfl rfl rfl rfl ?_
     refine k_one 15 (by kernel_rfl) ?_
     refine k_op 15 rfl ?_
     refine g_alloc rfl rfl Try.zeroValue25 rfl (fun bs => ?_)
     refine g_nrm (L' := .cells bs 25 (s4C s0) :: _) rfl ?_
     refine n_ ?_
     refine k_end (fun _ h => h.pick [1,1] rfl) ?_
     refine k_one 16 (by kernel_rfl) ?_
     refine k_op 16 rfl ?_
     refine g_stN 0 rfl rfl rfl (by kernel_rfl) rfl rfl rfl rfl ?_
     simp only [List.set_cons_zero, List.set_cons_succ]
     refine n_ ?_
     refine k_end (fun _ h => h.pick [1,1] rfl) ?_
     refine k_x 17 [1,1] [] hQ (by kernel_rfl) rfl rfl rfl rfl rfl rfl ?_
     refine k_x 18 [1,1] [] hQ (by kernel_rfl) rfl rfl rfl rfl rfl rfl ?_
     refine k_done (by kernel_rfl) ?_
     refine t_ (s_ (o_ ?_))
     refine xg 12 [1,0,1] rfl (by omega) ?_
     refine ntso_ ?_
     refine xg 11 [1,1] rfl (by omega) ?_
     refine n_ (t_ (s_ ?_))
     refine g_leaf 1 s 0 0 0 ?_
     refine o_ ?_
     refine g_val (v := .agg (s4C s).toArray) rfl rfl rfl (y_ldN (vs := s4C s) 1 rfl Try.isAgg25 Try.sizeOf25 rfl rfl rfl) ?_
     refine g_val rfl rfl rfl (y_build (offs := [0, 1]) rfl Try.zeroValue28 (by kernel_rfl)) ?_
     refine xg 1 [3] rfl (by omega) ?_
     refine n_ (t_ (g_ret (g_in_ret (g_then_ret ?_))))
     refine g_end_cell 3 Try.results69 rfl rfl Try.isAgg28 Try.sizeOf28 rfl ?_
     have hw : wT (MT.mk 1 s 0 0 0 (Value.slice none 0 0) []) = 1 := by rw [wT_mk, wL]
     exact fun w hS => ⟨⟨((MT.mk 1 s 0 0 0 (Value.slice none 0 0) []), i + 1 + n, g, decide (er ≠ 0)), nb_mk.2 ⟨⟨fun j _ => hs j, by decide, by decide, by decide, by decide⟩, nbL_nil⟩, by dsimp only; omega, by dsimp only; omega, by dsimp only; omega, fun h => by
       dsimp only
       rw [hw]
       omega⟩, rfl, hS.pick [2,0] rfl⟩
    refine k_op 15 rfl ?_
    refine g_alloc rfl rfl Try.zeroValue25 rfl (fun bs => ?_)
    refine g_nrm (L' := .cells bs 25 (s4C s0) :: _) rfl ?_
    refine n_ ?_
    refine k_end (fun _ h => h.pick [1,1] rfl) ?_
    refine k_one 10 (by kernel_rfl) ?_
    refine k_op 10 rfl ?_
    refine g_callE (fun x : {x : (Nat → Int) × Int × Int // (∀ j, 0 ≤ x.1 j) ∧ 0 ≤ x.2.1 ∧ x.2.1 ≤ (l.drop (i + 1)).length} => .tuple #[.agg (s4C x.1.1).toArray, .int .i64 x.1.2.1, .int .i64 x.1.2.2]) rfl rfl rfl Try.call85 (fun w hS => bk10_any (l.drop (i + 1)) (by rw [List.length_drop]; omega) w) ?_
    rintro ⟨⟨s, n, er⟩, hs, hn⟩
    dsimp only at hs hn ⊢
    rw [List.length_drop] at hn
    obtain ⟨n, rfl⟩ := Int.eq_ofNat_of_zero_le hn.1
    refine n_ ?_
    refine k_end (fun _ h => h.pick [1,1] rfl) ?_
    refine k_x 11 [1,1] [] hQ (by kernel_rfl) rfl rfl rfl rfl rfl rfl ?_
    refine k_x 12 [1,1] [] hQ (by kernel_rfl) rfl rfl rfl rfl rfl rfl ?_
    refine k_x 13 [1,1] [] hQ (by kernel_rfl) rfl rfl rfl rfl rfl rfl ?_
    refine k_x 14 [1,1] [] hQ (by kernel_rfl) rfl rfl rfl rfl rfl rfl ?_
    refine k_one 16 (by kernel_rfl) ?_
    refine k_op 16 rfl ?_
    refine g_stN 0 rfl rfl rfl (by kernel_rfl) rfl rfl rfl rfl ?_
    simp only [List.set_cons_zero, List.set_cons_succ]
    refine n_ ?_
    refine k_end (fun _ h => h.pick [1,1] rfl) ?_
    refine k_x 17 [1,1] [] hQ (by kernel_rfl) rfl rfl rfl rfl rfl rfl ?_
    refine k_x 18 [1,1] [] hQ (by kernel_rfl) rfl rfl rfl rfl rfl rfl ?_
    refine k_done (by kernel_rfl) ?_
    refine t_ (s_ (o_ ?_))
    refine xg 12 [1,0,1] rfl (by omega) ?_
    refine ntso_ ?_
    refine xg 11 [1,1] rfl (by omega) ?_
    refine n_ (t_ (s_ ?_))
    refine g_leaf 1 s 0 0 0 ?_
    refine o_ ?_
    refine g_val (v := .agg (s4C s).toArray) rfl rfl rfl (y_ldN (vs := s4C s) 1 rfl Try.isAgg25 Try.sizeOf25 rfl rfl rfl) ?_
    refine g_val rfl rfl rfl (y_build (offs := [0, 1]) rfl Try.zeroValue28 (by kernel_rfl)) ?_
    refine xg 1 [3] rfl (by omega) ?_
    refine n_ (t_ (g_ret (g_in_ret (g_then_ret ?_))))
    refine g_end_cell 3 Try.results69 rfl rfl Try.isAgg28 Try.sizeOf28 rfl ?_
    have hw : wT (MT.mk 1 s 0 0 0 (Value.slice none 0 0) []) = 1 := by rw [wT_mk, wL]
    exact fun w hS => ⟨⟨((MT.mk 1 s 0 0 0 (Value.slice none 0 0) []), i + 1 + n, g, decide (er ≠ 0)), nb_mk.2 ⟨⟨fun j _ => hs j, by decide, by decide, by decide, by decide⟩, nbL_nil⟩, by dsimp only; omega, by dsimp only; omega, by dsimp only; omega, fun h => by
      dsimp only
      rw [hw]
      omega⟩, rfl, hS.pick [2,0] rfl⟩
   refine g_cond_f rfl (s_ (o_ ?_))
   refine xg 2 [] rfl rfl ?_
   refine n_ (t_ ?_)
   first | refine g_casep 91 rfl (fun h3 => ?_) fun h3 => ?_ | refine g_caseb 91 rfl (fun h3 => ?_) fun h3 => ?_
   ·refine g_cond_t rfl (s_ ?_)
    have hop2 := hop (by assumption)
    refine o_ ?_
    refine xg 9 [0,0] rfl (by omega) ?_
    refine ntso_ ?_
    refine xg 1 [] rfl rfl ?_
    refine g_buildSlice (offs := [0, 1]) rfl rfl Try.underlying133 rfl Try.zeroValue5 (by kernel_rfl) (fun b2 => ?_)
    refine g_val rfl rfl rfl (y_cellsStr (l := [92, 41]) 0 rfl Try.underlying133 Try.underlying9 Try.underlying5 rfl rfl rfl) ?_
    refine g_ahead [1] rfl ?_
    simp only [List.cons_append, List.nil_append]
    refine g_callOwn (L0 := [.cells rb 56 [st8 l, .int .i64 (((i + 2) : Nat) : Int), .bool ex, .int .i64 ((g : Nat) : Int), .bool false]]) (fun x : {x : MT × Nat × Nat × Bool // GX l (i + 2) 2 0 x} => .agg (nC x.1.1).toArray) (fun x => [.cells rb 56 [st8 l, .int .i64 (x.1.2.1 : Int), .bool ex, .int .i64 (x.1.2.2.1 : Int), .bool x.1.2.2.2], .forest [x.1.1]]) rfl rfl rfl Try.call86 (fun w hS => group10 l hl ex rb (i + 2) g (by omega) hg _ (by decide) (by decide) (hall (i + 2) (by omega) (by omega)) _ w hS.part) ?_
    rintro ⟨⟨⟨nka, nsa, nma, nxa, nua, nva, nqa⟩, ia, ga, bda⟩, hxa⟩
    obtain ⟨hxaa, hxba, hxca, hxda, hxea⟩ := hxa
    dsimp only at hxaa hxba hxca hxda hxea ⊢
    simp only [List.cons_append, List.nil_append]
    refine g_kids 1 rfl (fun pva cva hva => ?_)
    subst hva
    refine xg 1 [3] rfl (by omega) ?_
    refine n_ (t_ (g_ret (g_in_ret (g_then_ret ?_))))
    refine g_end_cell 3 Try.results69 rfl rfl Try.isAgg28 Try.sizeOf28 rfl ?_
    exact fun w hS => ⟨⟨((MT.mk nka nsa nma nxa nua (Value.slice pva nqa.length cva) nqa), ia, ga, bda), hxaa, by dsimp only; omega, by dsimp only; omega, hxda, fun h => by
      have h2 := hxea h
      dsimp only
      omega⟩, rfl, hS.pick [0,0] rfl⟩
   refine g_cond_f rfl (s_ ?_)
   refine g_cutc (α := Bool) (fun x => [(0, .pointer (some ⟨rb, 0, none⟩)), (2, .pointer (some ⟨bo, 0, none⟩)), (3, .int .u8 (bt ⟨l.toArray⟩ (i : Int))), (6, .bool um), (105, .bool x)]) (fun x => [.cells rb 56 [st8 l, .int .i64 (i : Int), .bool ex, .int .i64 (g : Int), .bool false], .cells bo 28 (nC (MT.mk 0 s0 0 0 0 (Value.slice none 0 0) []))]) ?_ ?_
   ·intro b18
    try dsimp only
    refine t_ ?_
    first | refine g_casep 105 rfl (fun h4 => ?_) fun h4 => ?_ | refine g_caseb 105 rfl (fun h4 => ?_) fun h4 => ?_
    ·refine g_cond_t rfl (s_ (o_ ?_))
     refine xg 8 [0,0] rfl (by omega) ?_
     refine ntso_ ?_
     refine xg 1 [] rfl rfl ?_
     refine g_callOwn (L0 := [.cells rb 56 [st8 l, .int .i64 (((i + 1) : Nat) : Int), .bool ex, .int .i64 ((g : Nat) : Int), .bool false]]) (fun x : {x : MT × Nat × Nat × Bool // GX l (i + 1) 2 0 x} => .agg (nC x.1.1).toArray) (fun x => [.cells rb 56 [st8 l, .int .i64 (x.1.2.1 : Int), .bool ex, .int .i64 (x.1.2.2.1 : Int), .bool x.1.2.2.2], .forest [x.1.1]]) rfl rfl rfl Try.call86 (fun w hS => group10 l hl ex rb (i + 1) g (by omega) hg _ (by decide) (by decide) (hall (i + 1) (by omega) (by omega)) _ w hS.part) ?_
     rintro ⟨⟨⟨nka, nsa, nma, nxa, nua, nva, nqa⟩, ia, ga, bda⟩, hxa⟩
     obtain ⟨hxaa, hxba, hxca, hxda, hxea⟩ := hxa
     dsimp only at hxaa hxba hxca hxda hxea ⊢
     simp only [List.cons_append, List.nil_append]
     refine g_kids 1 rfl (fun pva cva hva => ?_)
     subst hva
     refine xg 1 [2] rfl (by omega) ?_
     refine n_ (t_ (g_ret (g_in_ret (g_then_ret ?_))))
     refine g_end_cell 2 Try.results69 rfl rfl Try.isAgg28 Try.sizeOf28 rfl ?_
     exact fun w hS => ⟨⟨((MT.mk nka nsa nma nxa nua (Value.slice pva nqa.length cva) nqa), ia, ga, bda), hxaa, by dsimp only; omega, by dsimp only; omega, hxda, fun h => by
       have h2 := hxea h
       dsimp only
       omega⟩, rfl, hS.pick [0,0] rfl⟩
    refine g_cond_f rfl (s_ (o_ ?_))
    refine xg 3 [0] rfl rfl ?_
    refine n_ (t_ ?_)
    refine g_casep 123 rfl (fun h5 => ?_) fun h5 => ?_
    ·refine g_cond_t rfl (s_ (o_ ?_))
     refine xg 1 [] rfl rfl ?_
     refine g_callOwn (L0 := [.cells rb 56 [st8 l, .int .i64 (i : Int), .bool ex, .int .i64 (g : Int), .bool false]]) (fun x : {x : Int × (Nat → Int) × Nat × Bool // (∀ j, 0 ≤ x.2.1 j) ∧ i ≤ x.2.2.1 ∧ x.2.2.1 ≤ l.length ∧ (x.2.2.2 = false → i + 2 ≤ x.2.2.1)} => .agg (nC (MT.mk x.1.1 x.1.2.1 0 0 0 (Value.slice none 0 0) [])).toArray) (fun x => [.cells rb 56 [st8 l, .int .i64 (x.1.2.2.1 : Int), .bool ex, .int .i64 (g : Int), .bool x.1.2.2.2]]) rfl rfl rfl Try.call87 (fun w hS => escaped10 l hl ex rb i g hi _ w hS.part) ?_
     rintro ⟨⟨ke, se, ie, bde⟩, hxe⟩
     dsimp only at hxe ⊢
     simp only [List.cons_append, List.nil_append]
     refine g_leaf ke se 0 0 0 ?_
     refine xg 1 [2] rfl (by omega) ?_
     refine n_ (t_ (g_ret (g_in_ret (g_then_ret ?_))))
     refine g_end_cell 2 Try.results69 rfl rfl Try.isAgg28 Try.sizeOf28 rfl ?_
     have hw : wT (MT.mk ke se 0 0 0 (Value.slice none 0 0) []) = 1 := by rw [wT_mk, wL]
     exact fun w hS => ⟨⟨((MT.mk ke se 0 0 0 (Value.slice none 0 0) []), ie, g, bde), nb_mk.2 ⟨⟨fun j _ => hxe.1 j, by decide, by decide, by decide, by decide⟩, nbL_nil⟩, by dsimp only; omega, by dsimp only; omega, by dsimp only; omega, fun h => by
       have h2 := hxe.2.2.2 h
       dsimp only
       rw [hw]
       omega⟩, rfl, hS.pick [1,0] rfl⟩
    refine g_cond_f rfl (s_ (o_ ?_))
    refine xg 2 [] rfl rfl ?_
    refine n_ (t_ ?_)
    first | refine g_casep 128 rfl (fun h6 => ?_) fun h6 => ?_ | refine g_caseb 128 rfl (fun h6 => ?_) fun h6 => ?_
    ·refine g_cond_t rfl (s_ (o_ ?_))
     refine xg 4 [0] rfl (by omega) ?_
     refine n_ (t_ (s_ ?_))
     refine g_leaf 0 s0 0 0 0 ?_
     refine o_ ?_
     refine xg 2 [2] rfl (by omega) ?_
     refine n_ (t_ (g_ret (g_in_ret (g_then_ret ?_))))
     refine g_end_cell 2 Try.results69 rfl rfl Try.isAgg28 Try.sizeOf28 rfl ?_
     exact fun w hS => ⟨⟨((MT.mk 0 s0 0 0 0 (Value.slice none 0 0) []), i, g, true), nb_mk.2 ⟨nod0, nbL_nil⟩, by dsimp only; omega, by dsimp only; omega, by dsimp only; omega, fun h => by cases h⟩, rfl, hS.pick [1,0] rfl⟩
    refine g_cond_f rfl (g_skip (g_in_normal (t_ (s_ (o_ ?_)))))
    refine xg 8 [0,0] rfl (by omega) ?_
    refine n_ (t_ (s_ ?_))
    refine g_leaf 1 (withS s0 (by8 ⟨l.toArray⟩ (i : Int)).toNat ((by8 ⟨l.toArray⟩ (i : Int)).toNat + 1 - (by8 ⟨l.toArray⟩ (i : Int)).toNat)) 0 0 0 ?_
    refine o_ ?_
    refine xg 1 [] rfl rfl ?_
    refine g_c1 (m_one10 (by8 ⟨l.toArray⟩ (i : Int)).toNat (by have := ((by8 ⟨l.toArray⟩ (i : Int))).toNat_lt; omega)) any_I rfl rfl rfl ?_
    refine xg 1 [2] rfl (by omega) ?_
    refine n_ (t_ (g_ret ?_))
    refine g_end_cell 2 Try.results69 rfl rfl Try.isAgg28 Try.sizeOf28 rfl ?_
    have hw : wT (MT.mk 1 (withS s0 (by8 ⟨l.toArray⟩ (i : Int)).toNat ((by8 ⟨l.toArray⟩ (i : Int)).toNat + 1 - (by8 ⟨l.toArray⟩ (i : Int)).toNat)) 0 0 0 (Value.slice none 0 0) []) = 1 := by rw [wT_mk, wL]
    exact fun w hS => ⟨⟨((MT.mk 1 (withS s0 (by8 ⟨l.toArray⟩ (i : Int)).toNat ((by8 ⟨l.toArray⟩ (i : Int)).toNat + 1 - (by8 ⟨l.toArray⟩ (i : Int)).toNat)) 0 0 0 (Value.slice none 0 0) []), i + 1, g, false), nb_mk.2 ⟨⟨fun j _ => withS_nn s0_nn _ j, by decide, by decide, by decide, by decide⟩, nbL_nil⟩, by dsimp only; omega, by dsimp only; omega, by dsimp only; omega, fun h => by
      dsimp only
      rw [hw]
      omega⟩, rfl, hS.pick [1,0] rfl⟩
   intro hj
   refine o_ ?_
   refine xg 5 [0] rfl (by omega) ?_
   first | refine g_casep 110 rfl (fun h7 => ?_) fun h7 => ?_ | refine g_caseb 110 rfl (fun h7 => ?_) fun h7 => ?_
   ·refine xg 4 [0] rfl rfl ?_
    refine n_ ?_
    exact g_fall (hj _) [0, 2, 3, 6, 105] rfl (fun w h => h.pick [0,0] rfl)
   refine xg 4 [] rfl rfl ?_
   refine n_ ?_
   exact g_fall (hj _) [0, 2, 3, 6, 105] rfl (fun w h => h.pick [0,0] rfl)
  intro hj
  first | refine g_casep 33 rfl (fun h8 => ?_) fun h8 => ?_ | refine g_caseb 33 rfl (fun h8 => ?_) fun h8 => ?_
  ·refine g_cond_t rfl (o_ ?_)
   refine xg 1 [] rfl rfl ?_
   refine n_ ?_
   exact g_fall (hj ⟨_, by decide⟩) [0, 2, 3, 4, 5] rfl (fun w h => h.pick [0,0] rfl)
  refine g_cond_f rfl (g_skip ?_)
  exact g_fall (hj ⟨_, by decide⟩) [0, 2, 3, 4, 5] rfl (fun w h => h.pick [0,0] rfl)
 intro hj
 refine o_ ?_
 refine xg 6 [1] rfl (by omega) ?_
 first | refine g_casep 24 rfl (fun h9 => ?_) fun h9 => ?_ | refine g_caseb 24 rfl (fun h9 => ?_) fun h9 => ?_
 ·refine xg 1 [] rfl rfl ?_
  refine g_buildSlice (offs := [0, 1]) rfl rfl Try.underlying133 rfl Try.zeroValue5 (by kernel_rfl) (fun b3 => ?_)
  refine g_val rfl rfl rfl (y_cellsStr (l := [92, 40]) 0 rfl Try.underlying133 Try.underlying9 Try.underlying5 rfl rfl rfl) ?_
  refine g_ahead [2] rfl ?_
  simp only [List.cons_append, List.nil_append]
  refine g_callOwn (L0 := [.cells rb 56 [st8 l, .int .i64 ((i : Nat) : Int), .bool ex, .int .i64 ((g : Nat) : Int), .bool false]]) (fun x : {x : Bool // x = true → i + 2 ≤ l.length} => .bool x.1) (fun _ => [.cells rb 56 [st8 l, .int .i64 ((i : Nat) : Int), .bool ex, .int .i64 ((g : Nat) : Int), .bool false]]) rfl rfl rfl Try.call35 (fun w hS => at10 l hl ex rb false i g (by omega) _ (by decide) _ w hS.part) ?_
  rintro ⟨ua10, hua10⟩
  dsimp only
  simp only [List.cons_append, List.nil_append]
  refine xg 2 [] rfl rfl ?_
  refine n_ ?_
  refine g_ahead [0,1] rfl ?_
  simp only [List.cons_append, List.nil_append]
  exact g_fall (hj ⟨_, by first | (intro h; cases h; done) | assumption⟩) [0, 2, 3, 4] rfl (fun w h => h.pick [0,0] rfl)
 refine xg 6 [] rfl rfl ?_
 refine n_ ?_
 refine g_ahead [1,0] rfl ?_
 simp only [List.cons_append, List.nil_append]
 exact g_fall (hj ⟨_, by first | (intro h; cases h; done) | assumption⟩) [0, 2, 3, 4] rfl (fun w h => h.pick [0,0] rfl)

end Go.Proofs.Ytfcamlkbkehlnaa

/- The document's parser, loosely: pieces. -/
namespace Go.Proofs.Ytfcamlkbkehlnaa
open Go Go.RowKit

def TOk (l : List UInt8) (ex : Bool) (i : Nat) : Prop := ∀ (rb g : Nat) (F : List Nat) (w : World), g ≤ 9 → i < l.length → St w F [.cells rb 56 [st8 l, .int .i64 (i : Int), .bool ex, .int .i64 (g : Int), .bool false]] w → Calls Try.prog 69 #[.pointer (some ⟨rb, 0, none⟩)] w fun e w' => ∃ x : {x : MT × Nat × Nat × Bool // GX l i 0 1 x}, e = .returned (.agg (nC x.1.1).toArray) ∧ St w F [.cells rb 56 [st8 l, .int .i64 (x.1.2.1 : Int), .bool ex, .int .i64 (x.1.2.2.1 : Int), .bool x.1.2.2.2], .forest [x.1.1]] w'
def mz (n i : Nat) (b : Bool) : Nat := (n + 1 - i) + (if b then 0 else 1)
theorem mz_lt {n i j : Nat} {b : Bool} (h1 : i < n) (h2 : i ≤ j) (h3 : b = false → i + 1 ≤ j) : mz n j b < mz n i false := by
  unfold mz
  cases b with
  | true => simp; omega
  | false => have := h3 rfl; simp; omega
theorem wL_app9 (a : List MT) (t : MT) : wL (a ++ [t]) = wL a + wT t := by
  induction a with
  | nil => rw [List.nil_append, wL_one9, wL]; omega
  | cons u a ih => rw [List.cons_append, wL, wL, ih]; omega
/-- What the pieces have come to. -/
def PI (l : List UInt8) (i : Nat) (x : Nat × Nat × Bool × Value × List MT × Bool × Bool) : Prop := nbL x.2.2.2.2.1 ∧ i ≤ x.1 ∧ x.1 ≤ l.length + 2 * (l.length - i) ∧ x.2.1 ≤ 10 ∧ (x.2.2.1 = false → x.2.1 ≤ 9 ∧ x.1 ≤ l.length ∧ wL x.2.2.2.2.1 + x.2.2.2.2.1.length ≤ 3 * (x.1 - i)) ∧ x.2.2.2.2.1.length ≤ l.length + 1 ∧ (x.2.2.1 = false → x.2.2.2.2.1.length ≤ x.1 - i) ∧ (x.2.2.2.2.2.2 = false → x.1 < l.length)

set_option maxHeartbeats 4000000 in
set_option maxRecDepth 100000 in
theorem pieces10 (l : List UInt8) (hl : l.length ≤ 200) (ex : Bool) (rb : Nat) (i g : Nat) (wi : Bool) (hi : i ≤ l.length) (hg : g ≤ 9) (hatom : ∀ j, i ≤ j → TOk l ex j) (F : List Nat) (w : World) (hS0 : St w F [.cells rb 56 [st8 l, .int .i64 (i : Int), .bool ex, .int .i64 (g : Int), .bool false]] w) :
    Calls Try.prog 34 #[.pointer (some ⟨rb, 0, none⟩), .bool wi] w fun e w' => ∃ x : {x : MT × Nat × Nat × Bool // GX l i 0 1 x}, e = .returned (.agg (nC x.1.1).toArray) ∧ St w F [.cells rb 56 [st8 l, .int .i64 (x.1.2.1 : Int), .bool ex, .int .i64 (x.1.2.2.1 : Int), .bool x.1.2.2.2], .forest [x.1.1]] w' := by
 have hszl := size_mk l
 refine fn_intro_own Try.func34 rfl Try.ntmps34 rfl rfl hS0 ?_
 refine s_ (o_ ?_)
 refine g_alloc rfl rfl Try.zeroValue28 rfl (fun bo => ?_)
 refine n_ (t_ (s_ ?_))
 refine g_forest0 ?_
 refine o_ ?_
 refine g_nilRow 28 9 ?_
 refine g_val rfl rfl rfl (y_assign rfl) ?_
 refine ntso_ ?_
 refine xg 1 [] rfl rfl ?_
 refine n_ (t_ (s_ (s_ (o_ ?_))))
 refine xg 2 [] rfl rfl ?_
 refine g_ahead [3] rfl ?_
 simp only [List.cons_append, List.nil_append]
 refine g_callOwn (L0 := [.cells rb 56 [st8 l, .int .i64 ((i : Nat) : Int), .bool ex, .int .i64 ((g : Nat) : Int), .bool false]]) (fun x : {x : Bool // x = false → i < l.length} => .bool x.1) (fun _ => [.cells rb 56 [st8 l, .int .i64 ((i : Nat) : Int), .bool ex, .int .i64 ((g : Nat) : Int), .bool false]]) rfl rfl rfl Try.call66 (fun w hS => over10 l hl ex rb false (i) (g) (by omega) wi _ w hS.part) ?_
 rintro ⟨en1, hen1⟩
 try dsimp only
 simp only [List.cons_append, List.nil_append]
 refine xg 1 [] rfl rfl ?_
 refine n_ (t_ (g_block ?_))
 refine g_loop (α := {x : Nat × Nat × Bool × Value × List MT × Bool × Bool // PI l i x}) (fun x => [(0, .pointer (some ⟨rb, 0, none⟩)), (1, .bool wi), (4, .pointer (some ⟨bo, 0, none⟩)), (5, x.1.2.2.2.1), (6, .bool x.1.2.2.2.2.2.1), (7, .bool x.1.2.2.2.2.2.2)]) (fun x => St w F [.cells rb 56 [st8 l, .int .i64 (x.1.1 : Int), .bool ex, .int .i64 (x.1.2.1 : Int), .bool x.1.2.2.1], .row 28 9 x.1.2.2.2.1 x.1.2.2.2.2.1.length (x.1.2.2.2.2.1.flatMap nC), .forest x.1.2.2.2.2.1, .cells bo 28 (nC (MT.mk 0 s0 0 0 0 (Value.slice none 0 0) []))]) (fun x => mz l.length x.1.1 x.1.2.2.1) ⟨(i, g, false, Value.slice none 0 0, [], false, en1), nbL_nil, Nat.le_refl _, by dsimp only; omega, by dsimp only; omega, fun _ => ⟨hg, hi, by rw [wL]; exact Nat.zero_le _⟩, Nat.zero_le _, fun _ => Nat.zero_le _, hen1⟩ [0, 1, 4, 5, 6, 7] rfl (fun w h => h.pick [0,0,0,0] rfl) ?_
 rintro ⟨⟨i1, g1, bd1, v, ms, bg, en0⟩, hpi⟩
 dsimp only
 try dsimp only
 obtain ⟨hnb, hi1, hi2, hg1, hgood, hml, hml2, hen⟩ := hpi
 dsimp only at hnb hi1 hi2 hg1 hgood hml hml2 hen
 refine s_ (s_ (o_ ?_))
 refine xg 3 [] rfl rfl ?_
 first | refine g_casep 17 rfl (fun h2 => ?_) fun h2 => ?_ | refine g_caseb 17 rfl (fun h2 => ?_) fun h2 => ?_
 ·refine xg 6 [0] rfl (by omega) ?_
  refine n_ (t_ ?_)
  first | refine g_casep 23 rfl (fun h3 => ?_) fun h3 => ?_ | refine g_caseb 23 rfl (fun h3 => ?_) fun h3 => ?_
  ·refine g_cond_t rfl (g_skip (t_ (s_ (g_block (s_ ?_)))))
   obtain rfl : en0 = false := by revert ‹(!en0) = true›; cases en0 <;> intro h9 <;> first | rfl | cases h9
   obtain rfl : bd1 = false := by revert ‹(!bd1) = true›; cases bd1 <;> intro h9 <;> first | rfl | cases h9
   have hlt := hen rfl
   have hgd := hgood rfl
   have hml3 := hml2 rfl
   refine g_cutc (α := Bool) (fun x => [(0, .pointer (some ⟨rb, 0, none⟩)), (1, .bool wi), (4, .pointer (some ⟨bo, 0, none⟩)), (5, v), (6, .bool bg), (8, .bool x)]) (fun x => [.cells rb 56 [st8 l, .int .i64 (i1 : Int), .bool ex, .int .i64 (g1 : Int), .bool false], .row 28 9 v ms.length (ms.flatMap nC), .forest ms, .cells bo 28 (nC (MT.mk 0 s0 0 0 0 (Value.slice none 0 0) []))]) ?_ ?_
   ·intro fi
    try dsimp only
    refine t_ (s_ ?_)
    refine g_quiet (by kernel_rfl) (by kernel_rfl) ?_
    refine xq 8 [0,0] rfl (by omega) ?_
    refine q_val (v := .int .u8 (bt ⟨l.toArray⟩ (i1 : Int))) rfl rfl rfl (y_sat rfl rfl Try.underlying9 (by omega) (by rw [size_mk]; omega)) ?_
    refine xq 1 [] rfl rfl ?_
    refine q_nil (t_ (s_ (o_ ?_)))
    refine xg 8 [0,0] rfl (by omega) ?_
    refine ntso_ ?_
    refine xg 2 [] rfl rfl ?_
    refine g_callOwn (L0 := [.cells rb 56 [st8 l, .int .i64 (((i1 + 1) : Nat) : Int), .bool ex, .int .i64 ((g1 : Nat) : Int), .bool false]]) (fun x : {x : Bool // x = false → (i1 + 1) < l.length} => .bool x.1) (fun _ => [.cells rb 56 [st8 l, .int .i64 (((i1 + 1) : Nat) : Int), .bool ex, .int .i64 ((g1 : Nat) : Int), .bool false]]) rfl rfl rfl Try.call66 (fun w hS => over10 l hl ex rb false ((i1 + 1)) (g1) (by omega) wi _ w hS.part) ?_
    rintro ⟨en4, hen4⟩
    try dsimp only
    simp only [List.cons_append, List.nil_append]
    refine xg 1 [] rfl rfl ?_
    refine ntso_ ?_
    refine xg 4 [0] rfl (by omega) ?_
    refine g_val (v := .int .i64 (i1 : Int)) rfl rfl rfl (y_val (y_isub rfl rfl) (by rw [wrap_in (by omega)]; congr 1; omega)) ?_
    refine xg 3 [0] rfl (by omega) ?_
    refine n_ (t_ (s_ (g_block (s_ ?_))))
    refine g_cutc (α := Bool) (fun x => [(0, .pointer (some ⟨rb, 0, none⟩)), (1, .bool wi), (4, .pointer (some ⟨bo, 0, none⟩)), (5, v), (6, .bool bg), (8, .bool fi), (9, .int .u8 (bt ⟨l.toArray⟩ (i1 : Int))), (10, .bool en4), (70, .bool x)]) (fun x => [.cells rb 56 [st8 l, .int .i64 (i1 : Int), .bool ex, .int .i64 (g1 : Int), .bool false], .row 28 9 v ms.length (ms.flatMap nC), .forest ms, .cells bo 28 (nC (MT.mk 0 s0 0 0 0 (Value.slice none 0 0) []))]) ?_ ?_
    ·intro bq70
     try dsimp only
     refine t_ ?_
     first | refine g_casep 70 rfl (fun h5 => ?_) fun h5 => ?_ | refine g_caseb 70 rfl (fun h5 => ?_) fun h5 => ?_
     ·refine g_cond_t rfl (s_ (o_ ?_))
      refine xg 2 [] rfl rfl ?_
      refine g_buildSlice (offs := [0]) rfl rfl Try.underlying26 rfl Try.zeroValue28 (by kernel_rfl) (fun b2 => ?_)
      refine g_appS (bytes := 88) nC ((MT.mk 6 s0 0 0 0 (Value.slice none 0 0) [])) 2 (j := 0) rfl rfl rfl rfl Try.underlying26 (by kernel_rfl) rfl rfl nC_len rfl (by omega) (by have : maxLen = 9223372036854775807 := rfl; omega) (fun v3 => ?_)
      simp only [List.set_cons_zero, List.set_cons_succ]
      refine xg 1 [] rfl rfl ?_
      refine ntso_ ?_
      refine xg 8 [1,1] rfl (by omega) ?_
      refine ntso_ ?_
      refine xg 1 [] rfl rfl ?_
      refine n_ (t_ (g_exit (g_in_exit_ne rfl (g_then_exit (g_in_exit (t_ (o_ ?_)))))))
      refine xg 2 [] rfl rfl ?_
      refine g_ahead [1] rfl ?_
      simp only [List.cons_append, List.nil_append]
      refine g_callOwn (L0 := [.cells rb 56 [st8 l, .int .i64 (((i1 + 1) : Nat) : Int), .bool ex, .int .i64 ((g1 : Nat) : Int), .bool false]]) (fun x : {x : Bool // x = false → (i1 + 1) < l.length} => .bool x.1) (fun _ => [.cells rb 56 [st8 l, .int .i64 (((i1 + 1) : Nat) : Int), .bool ex, .int .i64 ((g1 : Nat) : Int), .bool false]]) rfl rfl rfl Try.call66 (fun w hS => over10 l hl ex rb false ((i1 + 1)) (g1) (by omega) wi _ w hS.part) ?_
      rintro ⟨en6, hen6⟩
      try dsimp only
      simp only [List.cons_append, List.nil_append]
      refine xg 1 [] rfl rfl ?_
      refine n_ ?_
      refine g_leaf 6 s0 0 0 0 ?_
      refine g_ahead [4,0] rfl ?_
      simp only [List.cons_append, List.nil_append]
      refine g_grow ?_
      have hwl := wL_app9 ms (MT.mk 6 s0 0 0 0 (Value.slice none 0 0) [])
      have hll : (ms ++ [(MT.mk 6 s0 0 0 0 (Value.slice none 0 0) [])]).length = ms.length + 1 := by simp
      have hw1 : wT (MT.mk 6 s0 0 0 0 (Value.slice none 0 0) []) = 1 := by rw [wT_mk, wL]
      have hnew : PI l i ((i1 + 1), g1, false, v3, ms ++ [(MT.mk 6 s0 0 0 0 (Value.slice none 0 0) [])], true, en6) := ⟨nbL_append hnb (nbL_cons.2 ⟨(nb_mk.2 ⟨nod0, nbL_nil⟩), nbL_nil⟩), by dsimp only; omega, by dsimp only; omega, by dsimp only; omega, fun h => by first | (cases h; done) | (dsimp only; rw [hwl, hll]; omega), by dsimp only; omega, fun h => by first | (cases h; done) | (dsimp only; omega), hen6⟩
      have hdec : mz l.length ((i1 + 1)) false < mz l.length i1 false := mz_lt hlt (by omega) (fun h => by first | (cases h; done) | omega)
      exact g_again ⟨_, hnew⟩ [0, 1, 4, 5, 6, 7] (by exact hdec) rfl (fun w h => h.pick [1,2,0,1] rfl)
     refine g_cond_f rfl (s_ ?_)
     refine g_cutc (α := Bool) (fun x => [(0, .pointer (some ⟨rb, 0, none⟩)), (1, .bool wi), (4, .pointer (some ⟨bo, 0, none⟩)), (5, v), (6, .bool bg), (8, .bool fi), (9, .int .u8 (bt ⟨l.toArray⟩ (i1 : Int))), (10, .bool en4), (104, .bool x)]) (fun x => [.cells rb 56 [st8 l, .int .i64 (i1 : Int), .bool ex, .int .i64 (g1 : Int), .bool false], .row 28 9 v ms.length (ms.flatMap nC), .forest ms, .cells bo 28 (nC (MT.mk 0 s0 0 0 0 (Value.slice none 0 0) []))]) ?_ ?_
     ·intro bq104
      try dsimp only
      refine t_ ?_
      first | refine g_casep 104 rfl (fun h7 => ?_) fun h7 => ?_ | refine g_caseb 104 rfl (fun h7 => ?_) fun h7 => ?_
      ·refine g_cond_t rfl (s_ (o_ ?_))
       refine xg 2 [] rfl rfl ?_
       refine g_buildSlice (offs := [0]) rfl rfl Try.underlying26 rfl Try.zeroValue28 (by kernel_rfl) (fun b4 => ?_)
       refine g_appS (bytes := 88) nC ((MT.mk 7 s0 0 0 0 (Value.slice none 0 0) [])) 2 (j := 0) rfl rfl rfl rfl Try.underlying26 (by kernel_rfl) rfl rfl nC_len rfl (by omega) (by have : maxLen = 9223372036854775807 := rfl; omega) (fun v5 => ?_)
       simp only [List.set_cons_zero, List.set_cons_succ]
       refine xg 1 [] rfl rfl ?_
       refine ntso_ ?_
       refine xg 8 [1,1] rfl (by omega) ?_
       refine ntso_ ?_
       refine xg 1 [] rfl rfl ?_
       refine n_ (t_ (g_exit (g_in_exit_ne rfl (g_then_exit (g_in_exit (t_ (o_ ?_)))))))
       refine xg 2 [] rfl rfl ?_
       refine g_ahead [1] rfl ?_
       simp only [List.cons_append, List.nil_append]
       refine g_callOwn (L0 := [.cells rb 56 [st8 l, .int .i64 (((i1 + 1) : Nat) : Int), .bool ex, .int .i64 ((g1 : Nat) : Int), .bool false]]) (fun x : {x : Bool // x = false → (i1 + 1) < l.length} => .bool x.1) (fun _ => [.cells rb 56 [st8 l, .int .i64 (((i1 + 1) : Nat) : Int), .bool ex, .int .i64 ((g1 : Nat) : Int), .bool false]]) rfl rfl rfl Try.call66 (fun w hS => over10 l hl ex rb false ((i1 + 1)) (g1) (by omega) wi _ w hS.part) ?_
       rintro ⟨en8, hen8⟩
       try dsimp only
       simp only [List.cons_append, List.nil_append]
       refine xg 1 [] rfl rfl ?_
       refine n_ ?_
       refine g_leaf 7 s0 0 0 0 ?_
       refine g_ahead [4,0] rfl ?_
       simp only [List.cons_append, List.nil_append]
       refine g_grow ?_
       have hwl := wL_app9 ms (MT.mk 7 s0 0 0 0 (Value.slice none 0 0) [])
       have hll : (ms ++ [(MT.mk 7 s0 0 0 0 (Value.slice none 0 0) [])]).length = ms.length + 1 := by simp
       have hw1 : wT (MT.mk 7 s0 0 0 0 (Value.slice none 0 0) []) = 1 := by rw [wT_mk, wL]
       have hnew : PI l i ((i1 + 1), g1, false, v5, ms ++ [(MT.mk 7 s0 0 0 0 (Value.slice none 0 0) [])], false, en8) := ⟨nbL_append hnb (nbL_cons.2 ⟨(nb_mk.2 ⟨nod0, nbL_nil⟩), nbL_nil⟩), by dsimp only; omega, by dsimp only; omega, by dsimp only; omega, fun h => by first | (cases h; done) | (dsimp only; rw [hwl, hll]; omega), by dsimp only; omega, fun h => by first | (cases h; done) | (dsimp only; omega), hen8⟩
       have hdec : mz l.length ((i1 + 1)) false < mz l.length i1 false := mz_lt hlt (by omega) (fun h => by first | (cases h; done) | omega)
       exact g_again ⟨_, hnew⟩ [0, 1, 4, 5, 6, 7] (by exact hdec) rfl (fun w h => h.pick [1,2,0,1] rfl)
      refine g_cond_f rfl (s_ ?_)
      refine g_cutc (α := Bool) (fun x => [(0, .pointer (some ⟨rb, 0, none⟩)), (1, .bool wi), (4, .pointer (some ⟨bo, 0, none⟩)), (5, v), (6, .bool bg), (8, .bool fi), (9, .int .u8 (bt ⟨l.toArray⟩ (i1 : Int))), (10, .bool en4), (138, .bool x)]) (fun x => [.cells rb 56 [st8 l, .int .i64 (i1 : Int), .bool ex, .int .i64 (g1 : Int), .bool false], .row 28 9 v ms.length (ms.flatMap nC), .forest ms, .cells bo 28 (nC (MT.mk 0 s0 0 0 0 (Value.slice none 0 0) []))]) ?_ ?_
      ·intro bq138
       try dsimp only
       refine t_ ?_
       first | refine g_casep 138 rfl (fun h9 => ?_) fun h9 => ?_ | refine g_caseb 138 rfl (fun h9 => ?_) fun h9 => ?_
       ·refine g_cond_t rfl (s_ (o_ ?_))
        refine xg 8 [0,0] rfl (by omega) ?_
        refine nto_ ?_
        refine xg 2 [] rfl rfl ?_
        refine g_c1 (m_one10 42 (by decide)) any_I rfl rfl rfl ?_
        refine g_leaf 1 (withS s0 42 (42 + 1 - 42)) 0 0 0 ?_
        refine g_ahead [1,0] rfl ?_
        simp only [List.cons_append, List.nil_append]
        refine g_callOwn (L0 := [.cells rb 56 [st8 l, .int .i64 (((i1 + 1) : Nat) : Int), .bool ex, .int .i64 ((g1 : Nat) : Int), .bool false], .forest [(MT.mk 1 (withS s0 42 (42 + 1 - 42)) 0 0 0 (Value.slice none 0 0) [])]]) (fun x : {x : MT × Nat × Bool // (((MT.mk 1 (withS s0 42 (42 + 1 - 42)) 0 0 0 (Value.slice none 0 0) []) : MT).nb → x.1.nb) ∧ wT x.1 + ((i1 + 1)) ≤ wT (MT.mk 1 (withS s0 42 (42 + 1 - 42)) 0 0 0 (Value.slice none 0 0) []) + x.2.1 ∧ ((i1 + 1)) ≤ x.2.1 ∧ x.2.1 ≤ l.length} => .agg (nC x.1.1).toArray) (fun x => [.cells rb 56 [st8 l, .int .i64 (x.1.2.1 : Int), .bool ex, .int .i64 ((g1 : Nat) : Int), .bool x.1.2.2], .forest [x.1.1]]) rfl rfl rfl Try.call67 (fun w hS => repeated10 l hl ex rb ((i1 + 1)) (g1) (by omega) 1 (withS s0 42 (42 + 1 - 42)) 0 0 0 none 0 [] _ w hS.part) ?_
        rintro ⟨⟨⟨nkb, nsb, nmb, nxb, nub, nvb, nqb⟩, ib, bdb⟩, hxb1, hxb2, hxb3, hxb4⟩
        dsimp only at hxb1 hxb2 hxb3 hxb4 ⊢
        simp only [List.cons_append, List.nil_append]
        refine g_kids 1 rfl (fun pvb cvb hvb => ?_)
        subst hvb
        refine g_buildSlice (offs := [0]) rfl rfl Try.underlying26 rfl Try.zeroValue28 (by kernel_rfl) (fun b6 => ?_)
        refine g_appS (bytes := 88) nC ((MT.mk nkb nsb nmb nxb nub (Value.slice pvb nqb.length cvb) nqb)) 3 (j := 0) rfl rfl rfl rfl Try.underlying26 (by kernel_rfl) rfl rfl nC_len rfl (by omega) (by have : maxLen = 9223372036854775807 := rfl; omega) (fun v7 => ?_)
        simp only [List.set_cons_zero, List.set_cons_succ]
        refine xg 1 [] rfl rfl ?_
        refine n_ (g_in_normal (t_ (o_ ?_)))
        refine xg 1 [] rfl rfl ?_
        refine n_ (g_in_normal (t_ (o_ ?_)))
        refine xg 2 [] rfl rfl ?_
        refine g_ahead [1] rfl ?_
        simp only [List.cons_append, List.nil_append]
        refine g_callOwn (L0 := [.cells rb 56 [st8 l, .int .i64 ((ib : Nat) : Int), .bool ex, .int .i64 ((g1 : Nat) : Int), .bool bdb]]) (fun x : {x : Bool // x = false → ib < l.length} => .bool x.1) (fun _ => [.cells rb 56 [st8 l, .int .i64 ((ib : Nat) : Int), .bool ex, .int .i64 ((g1 : Nat) : Int), .bool bdb]]) rfl rfl rfl Try.call66 (fun w hS => over10 l hl ex rb bdb (ib) (g1) (by omega) wi _ w hS.part) ?_
        rintro ⟨en10, hen10⟩
        try dsimp only
        simp only [List.cons_append, List.nil_append]
        refine xg 1 [] rfl rfl ?_
        refine n_ ?_
        refine g_ahead [4,2] rfl ?_
        simp only [List.cons_append, List.nil_append]
        refine g_grow ?_
        have hwl := wL_app9 ms (MT.mk nkb nsb nmb nxb nub (Value.slice pvb nqb.length cvb) nqb)
        have hll : (ms ++ [(MT.mk nkb nsb nmb nxb nub (Value.slice pvb nqb.length cvb) nqb)]).length = ms.length + 1 := by simp
        have hw1 : wT (MT.mk 1 (withS s0 42 (42 + 1 - 42)) 0 0 0 (Value.slice none 0 0) []) = 1 := by rw [wT_mk, wL]
        have hnew : PI l i (ib, g1, bdb, v7, ms ++ [(MT.mk nkb nsb nmb nxb nub (Value.slice pvb nqb.length cvb) nqb)], false, en10) := ⟨nbL_append hnb (nbL_cons.2 ⟨(hxb1 (nb_mk.2 ⟨⟨fun j _ => withS_nn s0_nn _ j, by decide, by decide, by decide, by decide⟩, nbL_nil⟩)), nbL_nil⟩), by dsimp only; omega, by dsimp only; omega, by dsimp only; omega, fun h => by first | (cases h; done) | (dsimp only; rw [hwl, hll]; omega), by dsimp only; omega, fun h => by first | (cases h; done) | (dsimp only; omega), hen10⟩
        have hdec : mz l.length (ib) bdb < mz l.length i1 false := mz_lt hlt (by omega) (fun h => by first | (cases h; done) | omega)
        exact g_again ⟨_, hnew⟩ [0, 1, 4, 5, 6, 7] (by exact hdec) rfl (fun w h => h.pick [1,2,0,1] rfl)
       refine g_cond_f rfl (s_ (o_ ?_))
       refine xg 1 [] rfl rfl ?_
       refine g_callOwn (L0 := [.cells rb 56 [st8 l, .int .i64 ((i1 : Nat) : Int), .bool ex, .int .i64 ((g1 : Nat) : Int), .bool false]]) (fun x : {x : MT × Nat × Nat × Bool // GX l i1 0 1 x} => .agg (nC x.1.1).toArray) (fun x => [.cells rb 56 [st8 l, .int .i64 (x.1.2.1 : Int), .bool ex, .int .i64 (x.1.2.2.1 : Int), .bool x.1.2.2.2], .forest [x.1.1]]) rfl rfl rfl Try.call69 (fun w hS => hatom i1 hi1 rb g1 _ w hgd.1 hlt hS.part) ?_
       rintro ⟨⟨⟨nka, nsa, nma, nxa, nua, nva, nqa⟩, ia, ga, bda⟩, hxa⟩
       obtain ⟨hxaa, hxba, hxca, hxda, hxea⟩ := hxa
       dsimp only at hxaa hxba hxca hxda hxea ⊢
       simp only [List.cons_append, List.nil_append]
       refine g_kids 1 rfl (fun pva cva hva => ?_)
       subst hva
       refine g_alloc rfl rfl Try.zeroValue28 rfl (fun bn => ?_)
       refine xg 1 [0] rfl (by omega) ?_
       refine n_ (t_ (s_ (s_ (o_ ?_))))
       refine xg 5 [1] rfl (by omega) ?_
       refine n_ (t_ ?_)
       first | refine g_casep 62 rfl (fun h11 => ?_) fun h11 => ?_ | refine g_caseb 62 rfl (fun h11 => ?_) fun h11 => ?_
       ·refine g_cond_t rfl ?_
        obtain rfl : bda = false := by revert ‹(!bda) = true›; cases bda <;> intro h9 <;> first | rfl | cases h9
        have hga := hxea rfl
        refine o_ ?_
        refine xg 2 [0] rfl (by omega) ?_
        refine g_ahead [1,1] rfl ?_
        simp only [List.cons_append, List.nil_append]
        refine g_callOwn (L0 := [.cells rb 56 [st8 l, .int .i64 ((ia : Nat) : Int), .bool ex, .int .i64 ((ga : Nat) : Int), .bool false], .forest [(MT.mk nka nsa nma nxa nua (Value.slice pva nqa.length cva) nqa)]]) (fun x : {x : MT × Nat × Bool // (((MT.mk nka nsa nma nxa nua (Value.slice pva nqa.length cva) nqa) : MT).nb → x.1.nb) ∧ wT x.1 + (ia) ≤ wT (MT.mk nka nsa nma nxa nua (Value.slice pva nqa.length cva) nqa) + x.2.1 ∧ (ia) ≤ x.2.1 ∧ x.2.1 ≤ l.length} => .agg (nC x.1.1).toArray) (fun x => [.cells rb 56 [st8 l, .int .i64 (x.1.2.1 : Int), .bool ex, .int .i64 ((ga : Nat) : Int), .bool x.1.2.2], .forest [x.1.1]]) rfl rfl rfl Try.call67 (fun w hS => repeated10 l hl ex rb (ia) (ga) (by omega) nka nsa nma nxa nua pva cva nqa _ w hS.part) ?_
        rintro ⟨⟨⟨nkb, nsb, nmb, nxb, nub, nvb, nqb⟩, ib, bdb⟩, hxb1, hxb2, hxb3, hxb4⟩
        dsimp only at hxb1 hxb2 hxb3 hxb4 ⊢
        simp only [List.cons_append, List.nil_append]
        refine g_kids 1 rfl (fun pvb cvb hvb => ?_)
        subst hvb
        refine xg 1 [2] rfl (by omega) ?_
        refine nto_ ?_
        refine xg 2 [2] rfl (by omega) ?_
        refine g_buildSlice (offs := [0]) rfl rfl Try.underlying26 rfl Try.zeroValue28 (by kernel_rfl) (fun b9 => ?_)
        refine g_appS (bytes := 88) nC ((MT.mk nkb nsb nmb nxb nub (Value.slice pvb nqb.length cvb) nqb)) 4 (j := 0) rfl rfl rfl rfl Try.underlying26 (by kernel_rfl) rfl rfl nC_len rfl (by omega) (by have : maxLen = 9223372036854775807 := rfl; omega) (fun v10 => ?_)
        simp only [List.set_cons_zero, List.set_cons_succ]
        refine xg 1 [] rfl rfl ?_
        refine n_ (g_in_normal (t_ (o_ ?_)))
        refine xg 1 [] rfl rfl ?_
        refine n_ (g_in_normal (t_ (o_ ?_)))
        refine xg 2 [] rfl rfl ?_
        refine g_ahead [1] rfl ?_
        simp only [List.cons_append, List.nil_append]
        refine g_callOwn (L0 := [.cells rb 56 [st8 l, .int .i64 ((ib : Nat) : Int), .bool ex, .int .i64 ((ga : Nat) : Int), .bool bdb]]) (fun x : {x : Bool // x = false → ib < l.length} => .bool x.1) (fun _ => [.cells rb 56 [st8 l, .int .i64 ((ib : Nat) : Int), .bool ex, .int .i64 ((ga : Nat) : Int), .bool bdb]]) rfl rfl rfl Try.call66 (fun w hS => over10 l hl ex rb bdb (ib) (ga) (by omega) wi _ w hS.part) ?_
        rintro ⟨en12, hen12⟩
        try dsimp only
        simp only [List.cons_append, List.nil_append]
        refine xg 1 [] rfl rfl ?_
        refine n_ ?_
        refine g_ahead [5,2] rfl ?_
        simp only [List.cons_append, List.nil_append]
        refine g_grow ?_
        have hwl := wL_app9 ms (MT.mk nkb nsb nmb nxb nub (Value.slice pvb nqb.length cvb) nqb)
        have hll : (ms ++ [(MT.mk nkb nsb nmb nxb nub (Value.slice pvb nqb.length cvb) nqb)]).length = ms.length + 1 := by simp
        have hnew : PI l i (ib, ga, bdb, v10, ms ++ [(MT.mk nkb nsb nmb nxb nub (Value.slice pvb nqb.length cvb) nqb)], false, en12) := ⟨nbL_append hnb (nbL_cons.2 ⟨(hxb1 hxaa), nbL_nil⟩), by dsimp only; omega, by dsimp only; omega, by dsimp only; omega, fun h => by first | (cases h; done) | (dsimp only; rw [hwl, hll]; omega), by dsimp only; omega, fun h => by first | (cases h; done) | (dsimp only; omega), hen12⟩
        have hdec : mz l.length (ib) bdb < mz l.length i1 false := mz_lt hlt (by omega) (fun h => by first | (cases h; done) | omega)
        exact g_again ⟨_, hnew⟩ [0, 1, 4, 5, 6, 7] (by exact hdec) rfl (fun w h => h.pick [1,3,0,2] rfl)
       refine g_cond_f rfl (g_skip (t_ ?_))
       obtain rfl : bda = true := by revert ‹(!bda) = false›; cases bda <;> intro h9 <;> first | rfl | cases h9
       refine o_ ?_
       refine xg 2 [0] rfl (by omega) ?_
       refine g_buildSlice (offs := [0]) rfl rfl Try.underlying26 rfl Try.zeroValue28 (by kernel_rfl) (fun b11 => ?_)
       refine g_appS (bytes := 88) nC ((MT.mk nka nsa nma nxa nua (Value.slice pva nqa.length cva) nqa)) 4 (j := 0) rfl rfl rfl rfl Try.underlying26 (by kernel_rfl) rfl rfl nC_len rfl (by omega) (by have : maxLen = 9223372036854775807 := rfl; omega) (fun v12 => ?_)
       simp only [List.set_cons_zero, List.set_cons_succ]
       refine xg 1 [] rfl rfl ?_
       refine n_ (g_in_normal (t_ (o_ ?_)))
       refine xg 1 [] rfl rfl ?_
       refine n_ (g_in_normal (t_ (o_ ?_)))
       refine xg 2 [] rfl rfl ?_
       refine g_ahead [2] rfl ?_
       simp only [List.cons_append, List.nil_append]
       refine g_callOwn (L0 := [.cells rb 56 [st8 l, .int .i64 ((ia : Nat) : Int), .bool ex, .int .i64 ((ga : Nat) : Int), .bool true]]) (fun x : {x : Bool // x = false → ia < l.length} => .bool x.1) (fun _ => [.cells rb 56 [st8 l, .int .i64 ((ia : Nat) : Int), .bool ex, .int .i64 ((ga : Nat) : Int), .bool true]]) rfl rfl rfl Try.call66 (fun w hS => over10 l hl ex rb true (ia) (ga) (by omega) wi _ w hS.part) ?_
       rintro ⟨en13, hen13⟩
       try dsimp only
       simp only [List.cons_append, List.nil_append]
       refine xg 1 [] rfl rfl ?_
       refine n_ ?_
       refine g_ahead [5,3] rfl ?_
       simp only [List.cons_append, List.nil_append]
       refine g_grow ?_
       have hwl := wL_app9 ms (MT.mk nka nsa nma nxa nua (Value.slice pva nqa.length cva) nqa)
       have hll : (ms ++ [(MT.mk nka nsa nma nxa nua (Value.slice pva nqa.length cva) nqa)]).length = ms.length + 1 := by simp
       have hnew : PI l i (ia, ga, true, v12, ms ++ [(MT.mk nka nsa nma nxa nua (Value.slice pva nqa.length cva) nqa)], false, en13) := ⟨nbL_append hnb (nbL_cons.2 ⟨hxaa, nbL_nil⟩), by dsimp only; omega, by dsimp only; omega, by dsimp only; omega, fun h => by first | (cases h; done) | (dsimp only; rw [hwl, hll]; omega), by dsimp only; omega, fun h => by first | (cases h; done) | (dsimp only; omega), hen13⟩
       have hdec : mz l.length (ia) true < mz l.length i1 false := mz_lt hlt (by omega) (fun h => by first | (cases h; done) | omega)
       exact g_again ⟨_, hnew⟩ [0, 1, 4, 5, 6, 7] (by exact hdec) rfl (fun w h => h.pick [1,3,0,2] rfl)
      intro hj
      refine o_ ?_
      refine xg 6 [0] rfl (by omega) ?_
      first | refine g_casep 144 rfl (fun h14 => ?_) fun h14 => ?_ | refine g_caseb 144 rfl (fun h14 => ?_) fun h14 => ?_
      ·refine xg 4 [0] rfl rfl ?_
       refine g_casep 148 rfl (fun h15 => ?_) fun h15 => ?_
       ·refine xg 2 [] rfl rfl ?_
        first | refine g_casep 150 rfl (fun h16 => ?_) fun h16 => ?_ | refine g_caseb 150 rfl (fun h16 => ?_) fun h16 => ?_
        ·refine xg 4 [] rfl rfl ?_
         refine n_ ?_
         exact g_fall (hj _) [0, 1, 4, 5, 6, 8, 9, 10, 138] rfl (fun w h => h.pick [0,0,0,0] rfl)
        refine xg 4 [] rfl rfl ?_
        refine n_ ?_
        exact g_fall (hj _) [0, 1, 4, 5, 6, 8, 9, 10, 138] rfl (fun w h => h.pick [0,0,0,0] rfl)
       refine xg 6 [] rfl rfl ?_
       refine n_ ?_
       exact g_fall (hj _) [0, 1, 4, 5, 6, 8, 9, 10, 138] rfl (fun w h => h.pick [0,0,0,0] rfl)
      refine xg 10 [] rfl rfl ?_
      refine n_ ?_
      exact g_fall (hj _) [0, 1, 4, 5, 6, 8, 9, 10, 138] rfl (fun w h => h.pick [0,0,0,0] rfl)
     intro hj
     refine o_ ?_
     refine xg 5 [0] rfl (by omega) ?_
     first | refine g_casep 109 rfl (fun h17 => ?_) fun h17 => ?_ | refine g_caseb 109 rfl (fun h17 => ?_) fun h17 => ?_
     ·refine xg 4 [0] rfl rfl ?_
      refine g_casep 113 rfl (fun h18 => ?_) fun h18 => ?_
      ·refine xg 14 [] rfl rfl ?_
       refine n_ ?_
       exact g_fall (hj _) [0, 1, 4, 5, 6, 8, 9, 10, 104] rfl (fun w h => h.pick [0,0,0,0] rfl)
      refine xg 6 [0] rfl (by omega) ?_
      first | refine g_casep 119 rfl (fun h19 => ?_) fun h19 => ?_ | refine g_caseb 119 rfl (fun h19 => ?_) fun h19 => ?_
      ·refine xg 4 [0] rfl rfl ?_
       refine g_casep 123 rfl (fun h20 => ?_) fun h20 => ?_
       ·refine xg 4 [] rfl rfl ?_
        refine n_ ?_
        exact g_fall (hj _) [0, 1, 4, 5, 6, 8, 9, 10, 104] rfl (fun w h => h.pick [0,0,0,0] rfl)
       refine xg 4 [] rfl rfl ?_
       refine n_ ?_
       exact g_fall (hj _) [0, 1, 4, 5, 6, 8, 9, 10, 104] rfl (fun w h => h.pick [0,0,0,0] rfl)
      refine xg 8 [] rfl rfl ?_
      refine n_ ?_
      exact g_fall (hj _) [0, 1, 4, 5, 6, 8, 9, 10, 104] rfl (fun w h => h.pick [0,0,0,0] rfl)
     refine xg 10 [0] rfl (by omega) ?_
     first | refine g_casep 119 rfl (fun h21 => ?_) fun h21 => ?_ | refine g_caseb 119 rfl (fun h21 => ?_) fun h21 => ?_
     ·refine xg 4 [0] rfl rfl ?_
      refine g_casep 123 rfl (fun h22 => ?_) fun h22 => ?_
      ·refine xg 4 [] rfl rfl ?_
       refine n_ ?_
       exact g_fall (hj _) [0, 1, 4, 5, 6, 8, 9, 10, 104] rfl (fun w h => h.pick [0,0,0,0] rfl)
      refine xg 4 [] rfl rfl ?_
      refine n_ ?_
      exact g_fall (hj _) [0, 1, 4, 5, 6, 8, 9, 10, 104] rfl (fun w h => h.pick [0,0,0,0] rfl)
     refine xg 8 [] rfl rfl ?_
     refine n_ ?_
     exact g_fall (hj _) [0, 1, 4, 5, 6, 8, 9, 10, 104] rfl (fun w h => h.pick [0,0,0,0] rfl)
    intro hj
    refine o_ ?_
    refine xg 5 [0] rfl (by omega) ?_
    first | refine g_casep 75 rfl (fun h23 => ?_) fun h23 => ?_ | refine g_caseb 75 rfl (fun h23 => ?_) fun h23 => ?_
    ·refine xg 4 [0] rfl rfl ?_
     refine g_casep 79 rfl (fun h24 => ?_) fun h24 => ?_
     ·refine xg 14 [] rfl rfl ?_
      refine n_ ?_
      exact g_fall (hj _) [0, 1, 4, 5, 6, 8, 9, 10, 70] rfl (fun w h => h.pick [0,0,0,0] rfl)
     refine xg 6 [0] rfl (by omega) ?_
     first | refine g_casep 85 rfl (fun h25 => ?_) fun h25 => ?_ | refine g_caseb 85 rfl (fun h25 => ?_) fun h25 => ?_
     ·refine xg 4 [0] rfl rfl ?_
      refine g_casep 89 rfl (fun h26 => ?_) fun h26 => ?_
      ·refine xg 4 [] rfl rfl ?_
       refine n_ ?_
       exact g_fall (hj _) [0, 1, 4, 5, 6, 8, 9, 10, 70] rfl (fun w h => h.pick [0,0,0,0] rfl)
      refine xg 4 [] rfl rfl ?_
      refine n_ ?_
      exact g_fall (hj _) [0, 1, 4, 5, 6, 8, 9, 10, 70] rfl (fun w h => h.pick [0,0,0,0] rfl)
     refine xg 8 [] rfl rfl ?_
     refine n_ ?_
     exact g_fall (hj _) [0, 1, 4, 5, 6, 8, 9, 10, 70] rfl (fun w h => h.pick [0,0,0,0] rfl)
    refine xg 10 [0] rfl (by omega) ?_
    first | refine g_casep 85 rfl (fun h27 => ?_) fun h27 => ?_ | refine g_caseb 85 rfl (fun h27 => ?_) fun h27 => ?_
    ·refine xg 4 [0] rfl rfl ?_
     refine g_casep 89 rfl (fun h28 => ?_) fun h28 => ?_
     ·refine xg 4 [] rfl rfl ?_
      refine n_ ?_
      exact g_fall (hj _) [0, 1, 4, 5, 6, 8, 9, 10, 70] rfl (fun w h => h.pick [0,0,0,0] rfl)
     refine xg 4 [] rfl rfl ?_
     refine n_ ?_
     exact g_fall (hj _) [0, 1, 4, 5, 6, 8, 9, 10, 70] rfl (fun w h => h.pick [0,0,0,0] rfl)
    refine xg 8 [] rfl rfl ?_
    refine n_ ?_
    exact g_fall (hj _) [0, 1, 4, 5, 6, 8, 9, 10, 70] rfl (fun w h => h.pick [0,0,0,0] rfl)
   intro hj
   refine o_ ?_
   refine xg 1 [] rfl rfl ?_
   refine g_rowLen 1 rfl (fun pr29 cr29 hv29 => ?_)
   cases hv29
   refine g_val rfl rfl rfl (y_llen rfl Try.underlying26) ?_
   refine xg 2 [0] rfl rfl ?_
   refine n_ ?_
   exact g_fall (hj _) [0, 1, 4, 5, 6, 8] rfl (fun w h => h.pick [0,0,0,0] rfl)
  refine g_cond_f rfl (g_exit (g_then_exit (g_then_exit (g_in_exit (t_ (s_ (s_ (o_ ?_))))))))
  refine xg 1 [] rfl rfl ?_
  refine g_rowLen 1 rfl (fun pr30 cr30 hv30 => ?_)
  cases hv30
  refine g_val rfl rfl rfl (y_llen rfl Try.underlying26) ?_
  refine xg 1 [0] rfl rfl ?_
  refine n_ (t_ ?_)
  refine g_casep 169 rfl (fun h31 => ?_) fun h31 => ?_
  ·refine g_cond_t rfl (o_ ?_)
   refine xg 4 [0] rfl (by omega) ?_
   refine ntso_ ?_
   refine xg 1 [] rfl rfl ?_
   refine g_ahead [1,1] rfl ?_
   simp only [List.cons_append, List.nil_append]
   refine g_callOwn (L0 := [.row 28 9 (.slice pr30 (ms.length) cr30) ms.length (ms.flatMap nC), .forest ms]) (fun x : {x : MT // (nbL ms → x.nb) ∧ wT x ≤ wL ms + (if ms.length = 1 then 0 else 1)} => .agg (nC x.1).toArray) (fun x => [.forest [x.1]]) rfl rfl rfl Try.call70 (fun w hS => row10 _ ms (by omega) _ w hS.part) ?_
   rintro ⟨⟨nkr, nsr, nmr, nxr, nur, nvr, nqr⟩, hxr1, hxr2⟩
   dsimp only at hxr1 hxr2 ⊢
   simp only [List.cons_append, List.nil_append]
   refine g_kids 0 rfl (fun pvr cvr hvr => ?_)
   subst hvr
   refine xg 1 [2] rfl (by omega) ?_
   refine n_ (t_ (g_ret ?_))
   refine g_end_cell 2 Try.results34 rfl rfl Try.isAgg28 Try.sizeOf28 rfl ?_
   exact fun w hS => ⟨⟨((MT.mk nkr nsr nmr nxr nur (Value.slice pvr nqr.length cvr) nqr), i1, g1, true), hxr1 hnb, hi1, by dsimp only; omega, hg1, fun h => by
     first
     | (cases h; done)
     | (have h2 := hgood h; have h3 : ms.length ≠ 0 := (by intro h0; apply (show ¬ ((ms.length : Int) = 0) by assumption); omega); have h4 := wL_len ms; dsimp only; split at hxr2 <;> omega)⟩, rfl, hS.pick [1,0] rfl⟩
  refine g_cond_f rfl (g_skip (t_ (s_ (o_ ?_))))
  refine xg 1 [] rfl rfl ?_
  refine g_ahead [1,1] rfl ?_
  simp only [List.cons_append, List.nil_append]
  refine g_callOwn (L0 := [.row 28 9 (.slice pr30 (ms.length) cr30) ms.length (ms.flatMap nC), .forest ms]) (fun x : {x : MT // (nbL ms → x.nb) ∧ wT x ≤ wL ms + (if ms.length = 1 then 0 else 1)} => .agg (nC x.1).toArray) (fun x => [.forest [x.1]]) rfl rfl rfl Try.call70 (fun w hS => row10 _ ms (by omega) _ w hS.part) ?_
  rintro ⟨⟨nkr, nsr, nmr, nxr, nur, nvr, nqr⟩, hxr1, hxr2⟩
  dsimp only at hxr1 hxr2 ⊢
  simp only [List.cons_append, List.nil_append]
  refine g_kids 0 rfl (fun pvr cvr hvr => ?_)
  subst hvr
  refine xg 1 [2] rfl (by omega) ?_
  refine n_ (t_ (g_ret ?_))
  refine g_end_cell 2 Try.results34 rfl rfl Try.isAgg28 Try.sizeOf28 rfl ?_
  exact fun w hS => ⟨⟨((MT.mk nkr nsr nmr nxr nur (Value.slice pvr nqr.length cvr) nqr), i1, g1, bd1), hxr1 hnb, hi1, by dsimp only; omega, hg1, fun h => by
    first
    | (cases h; done)
    | (have h2 := hgood h; have h3 : ms.length ≠ 0 := (by intro h0; apply (show ¬ ((ms.length : Int) = 0) by assumption); omega); have h4 := wL_len ms; dsimp only; split at hxr2 <;> omega)⟩, rfl, hS.pick [1,0] rfl⟩
 refine xg 6 [] rfl rfl ?_
 refine n_ (t_ (g_cond_f rfl (g_exit (g_then_exit (g_then_exit (g_in_exit (t_ (s_ (s_ (o_ ?_))))))))))
 refine xg 1 [] rfl rfl ?_
 refine g_rowLen 1 rfl (fun pr32 cr32 hv32 => ?_)
 cases hv32
 refine g_val rfl rfl rfl (y_llen rfl Try.underlying26) ?_
 refine xg 1 [0] rfl rfl ?_
 refine n_ (t_ ?_)
 refine g_casep 169 rfl (fun h33 => ?_) fun h33 => ?_
 ·refine g_cond_t rfl (o_ ?_)
  refine xg 4 [0] rfl (by omega) ?_
  refine ntso_ ?_
  refine xg 1 [] rfl rfl ?_
  refine g_ahead [1,1] rfl ?_
  simp only [List.cons_append, List.nil_append]
  refine g_callOwn (L0 := [.row 28 9 (.slice pr32 (ms.length) cr32) ms.length (ms.flatMap nC), .forest ms]) (fun x : {x : MT // (nbL ms → x.nb) ∧ wT x ≤ wL ms + (if ms.length = 1 then 0 else 1)} => .agg (nC x.1).toArray) (fun x => [.forest [x.1]]) rfl rfl rfl Try.call70 (fun w hS => row10 _ ms (by omega) _ w hS.part) ?_
  rintro ⟨⟨nkr, nsr, nmr, nxr, nur, nvr, nqr⟩, hxr1, hxr2⟩
  dsimp only at hxr1 hxr2 ⊢
  simp only [List.cons_append, List.nil_append]
  refine g_kids 0 rfl (fun pvr cvr hvr => ?_)
  subst hvr
  refine xg 1 [2] rfl (by omega) ?_
  refine n_ (t_ (g_ret ?_))
  refine g_end_cell 2 Try.results34 rfl rfl Try.isAgg28 Try.sizeOf28 rfl ?_
  exact fun w hS => ⟨⟨((MT.mk nkr nsr nmr nxr nur (Value.slice pvr nqr.length cvr) nqr), i1, g1, true), hxr1 hnb, hi1, by dsimp only; omega, hg1, fun h => by
    first
    | (cases h; done)
    | (have h2 := hgood h; have h3 : ms.length ≠ 0 := (by intro h0; apply (show ¬ ((ms.length : Int) = 0) by assumption); omega); have h4 := wL_len ms; dsimp only; split at hxr2 <;> omega)⟩, rfl, hS.pick [1,0] rfl⟩
 refine g_cond_f rfl (g_skip (t_ (s_ (o_ ?_))))
 refine xg 1 [] rfl rfl ?_
 refine g_ahead [1,1] rfl ?_
 simp only [List.cons_append, List.nil_append]
 refine g_callOwn (L0 := [.row 28 9 (.slice pr32 (ms.length) cr32) ms.length (ms.flatMap nC), .forest ms]) (fun x : {x : MT // (nbL ms → x.nb) ∧ wT x ≤ wL ms + (if ms.length = 1 then 0 else 1)} => .agg (nC x.1).toArray) (fun x => [.forest [x.1]]) rfl rfl rfl Try.call70 (fun w hS => row10 _ ms (by omega) _ w hS.part) ?_
 rintro ⟨⟨nkr, nsr, nmr, nxr, nur, nvr, nqr⟩, hxr1, hxr2⟩
 dsimp only at hxr1 hxr2 ⊢
 simp only [List.cons_append, List.nil_append]
 refine g_kids 0 rfl (fun pvr cvr hvr => ?_)
 subst hvr
 refine xg 1 [2] rfl (by omega) ?_
 refine n_ (t_ (g_ret ?_))
 refine g_end_cell 2 Try.results34 rfl rfl Try.isAgg28 Try.sizeOf28 rfl ?_
 exact fun w hS => ⟨⟨((MT.mk nkr nsr nmr nxr nur (Value.slice pvr nqr.length cvr) nqr), i1, g1, bd1), hxr1 hnb, hi1, by dsimp only; omega, hg1, fun h => by
   first
   | (cases h; done)
   | (have h2 := hgood h; have h3 : ms.length ≠ 0 := (by intro h0; apply (show ¬ ((ms.length : Int) = 0) by assumption); omega); have h4 := wL_len ms; dsimp only; split at hxr2 <;> omega)⟩, rfl, hS.pick [1,0] rfl⟩

end Go.Proofs.Ytfcamlkbkehlnaa

/- The document's parser, loosely: all, Parse. -/
namespace Go.Proofs.Ytfcamlkbkehlnaa
open Go Go.RowKit

def POk (l : List UInt8) (ex : Bool) (i : Nat) : Prop := ∀ (rb g : Nat) (wi : Bool) (F : List Nat) (w : World), g ≤ 9 → i ≤ l.length → St w F [.cells rb 56 [st8 l, .int .i64 (i : Int), .bool ex, .int .i64 (g : Int), .bool false]] w → Calls Try.prog 34 #[.pointer (some ⟨rb, 0, none⟩), .bool wi] w fun e w' => ∃ x : {x : MT × Nat × Nat × Bool // GX l i 0 1 x}, e = .returned (.agg (nC x.1.1).toArray) ∧ St w F [.cells rb 56 [st8 l, .int .i64 (x.1.2.1 : Int), .bool ex, .int .i64 (x.1.2.2.1 : Int), .bool x.1.2.2.2], .forest [x.1.1]] w'
/-- What the rows have come to. -/
def PA (l : List UInt8) (i : Nat) (x : Nat × Nat × Bool × Value × List MT) : Prop := nbL x.2.2.2.2 ∧ x.2.2.2.2 ≠ [] ∧ i ≤ x.1 ∧ x.1 ≤ l.length + 2 * (l.length - i) ∧ x.2.1 ≤ 10 ∧ (x.2.2.1 = false → x.2.1 ≤ 9 ∧ x.1 ≤ l.length ∧ i + 1 ≤ x.1 ∧ wL x.2.2.2.2 + x.2.2.2.2.length ≤ 3 * (x.1 - i) ∧ x.2.2.2.2.length ≤ x.1 - i) ∧ x.2.2.2.2.length ≤ l.length + 1
theorem g_cp9 {N : Nat} {R : Regs} {W0 : World} {F : List Nat} {L : List Ent} {X : Act → World → Prop} {t : MT} {ts : List MT} (i : Nat) (hi : L[i]? = some (.forest (t :: ts))) (hn : t.nb) (h : t.cp → G N R (St W0 F L) X) : G N R (St W0 F L) X := fun a w hR hS => by
  have ho : okL w (t :: ts) := hS.get hi
  exact h (ok_cp t (okL_cons.1 ho).1 hn) a w hR hS

set_option maxHeartbeats 4000000 in
set_option maxRecDepth 100000 in
theorem all10 (l : List UInt8) (hl : l.length ≤ 200) (ex : Bool) (rb : Nat) (i g : Nat) (wi : Bool) (hi : i ≤ l.length) (hg : g ≤ 9) (hpc : ∀ j, i ≤ j → POk l ex j) (F : List Nat) (w : World) (hS0 : St w F [.cells rb 56 [st8 l, .int .i64 (i : Int), .bool ex, .int .i64 (g : Int), .bool false]] w) :
    Calls Try.prog 22 #[.pointer (some ⟨rb, 0, none⟩), .bool wi] w fun e w' => ∃ x : {x : MT × Nat × Nat × Bool // GX l i 0 1 x}, e = .returned (.agg (nC x.1.1).toArray) ∧ St w F [.cells rb 56 [st8 l, .int .i64 (x.1.2.1 : Int), .bool ex, .int .i64 (x.1.2.2.1 : Int), .bool x.1.2.2.2], .forest [x.1.1]] w' := by
 have hszl := size_mk l
 refine fn_intro_own Try.func22 rfl Try.ntmps22 rfl rfl hS0 ?_
 refine s_ (o_ ?_)
 refine g_alloc rfl rfl Try.zeroValue28 rfl (fun bo => ?_)
 refine ntso_ ?_
 refine xg 2 [] rfl rfl ?_
 refine g_ahead [1] rfl ?_
 simp only [List.cons_append, List.nil_append]
 refine g_callOwn (L0 := [.cells rb 56 [st8 l, .int .i64 ((i : Nat) : Int), .bool ex, .int .i64 ((g : Nat) : Int), .bool false]]) (fun x : {x : MT × Nat × Nat × Bool // GX l i 0 1 x} => .agg (nC x.1.1).toArray) (fun x => [.cells rb 56 [st8 l, .int .i64 (x.1.2.1 : Int), .bool ex, .int .i64 (x.1.2.2.1 : Int), .bool x.1.2.2.2], .forest [x.1.1]]) rfl rfl rfl Try.call34 (fun w hS => hpc i (Nat.le_refl _) rb g wi _ w hg hi hS.part) ?_
 rintro ⟨⟨⟨nka, nsa, nma, nxa, nua, nva, nqa⟩, ia, ga, bda⟩, hxa⟩
 obtain ⟨hxaa, hxba, hxca, hxda, hxea⟩ := hxa
 dsimp only at hxaa hxba hxca hxda hxea ⊢
 simp only [List.cons_append, List.nil_append]
 refine g_kids 1 rfl (fun pva cva hva => ?_)
 subst hva
 refine g_buildSlice (offs := [0]) rfl rfl Try.underlying26 rfl Try.zeroValue28 (by kernel_rfl) (fun b2 => ?_)
 refine xg 1 [] rfl rfl ?_
 refine n_ (t_ (s_ (g_block ?_)))
 refine g_rowOf (n := 1) nC [(MT.mk nka nsa nma nxa nua (Value.slice pva nqa.length cva) nqa)] 0 rfl rfl nC_len rfl (by decide) ?_
 simp only [List.set_cons_zero, List.set_cons_succ]
 have hw1 := wL_one9 (MT.mk nka nsa nma nxa nua (Value.slice pva nqa.length cva) nqa)
 have hst : PA l i (ia, ga, bda, Value.slice (some ⟨b2, 0, none⟩) 1 1, [(MT.mk nka nsa nma nxa nua (Value.slice pva nqa.length cva) nqa)]) := ⟨nbL_cons.2 ⟨hxaa, nbL_nil⟩, by simp, hxba, by dsimp only; omega, hxda, fun h => (by have h2 := hxea h; dsimp only; rw [hw1]; refine ⟨h2.1, h2.2.2.1, h2.2.1, ?_, ?_⟩ <;> simp only [List.length_singleton] <;> omega), by simp⟩
 refine g_loop (α := {x : Nat × Nat × Bool × Value × List MT // PA l i x}) (fun x => [(0, .pointer (some ⟨rb, 0, none⟩)), (1, .bool wi), (4, .pointer (some ⟨bo, 0, none⟩)), (5, x.1.2.2.2.1)]) (fun x => St w F [.cells rb 56 [st8 l, .int .i64 (x.1.1 : Int), .bool ex, .int .i64 (x.1.2.1 : Int), .bool x.1.2.2.1], .row 28 9 x.1.2.2.2.1 x.1.2.2.2.2.length (x.1.2.2.2.2.flatMap nC), .forest x.1.2.2.2.2, .cells bo 28 (nC (MT.mk 0 s0 0 0 0 (Value.slice none 0 0) []))]) (fun x => mz l.length x.1.1 x.1.2.2.1) ⟨_, hst⟩ [0, 1, 4, 5] rfl (fun w h => h.pick [1,0,0,0] rfl) ?_
 rintro ⟨⟨i1, g1, bd1, v, ms⟩, hpa⟩
 dsimp only
 try dsimp only
 obtain ⟨hnb, hne, hi1, hi2, hg1, hgood, hml⟩ := hpa
 dsimp only at hnb hne hi1 hi2 hg1 hgood hml
 refine s_ (s_ ?_)
 refine g_cutc (α := {b : Bool // b = true → bd1 = false ∧ i1 + 1 ≤ l.length}) (fun x => [(0, .pointer (some ⟨rb, 0, none⟩)), (1, .bool wi), (4, .pointer (some ⟨bo, 0, none⟩)), (5, v), (24, .bool x.1)]) (fun x => [.cells rb 56 [st8 l, .int .i64 (i1 : Int), .bool ex, .int .i64 (g1 : Int), .bool bd1], .row 28 9 v ms.length (ms.flatMap nC), .forest ms, .cells bo 28 (nC (MT.mk 0 s0 0 0 0 (Value.slice none 0 0) []))]) ?_ ?_
 ·rintro ⟨b24, hb24⟩
  try dsimp only
  refine t_ ?_
  first | refine g_casep 24 rfl (fun h1 => ?_) fun h1 => ?_ | refine g_caseb 24 rfl (fun h1 => ?_) fun h1 => ?_
  ·refine g_cond_t rfl (g_skip (t_ (g_block (s_ ?_))))
   have hbt := hb24 (by assumption)
   obtain rfl : bd1 = false := hbt.1
   have hat := hbt.2
   have hgd := hgood rfl
   refine o_ ?_
   refine xg 8 [0,0] rfl (by omega) ?_
   refine nto_ ?_
   refine xg 3 [] rfl rfl ?_
   refine g_callOwn (L0 := [.cells rb 56 [st8 l, .int .i64 (((i1 + 1) : Nat) : Int), .bool ex, .int .i64 ((g1 : Nat) : Int), .bool false]]) (fun x : {x : MT × Nat × Nat × Bool // GX l (i1 + 1) 0 1 x} => .agg (nC x.1.1).toArray) (fun x => [.cells rb 56 [st8 l, .int .i64 (x.1.2.1 : Int), .bool ex, .int .i64 (x.1.2.2.1 : Int), .bool x.1.2.2.2], .forest [x.1.1]]) rfl rfl rfl Try.call34 (fun w hS => hpc (i1 + 1) (by omega) rb g1 wi _ w hgd.1 hat hS.part) ?_
   rintro ⟨⟨⟨nkb, nsb, nmb, nxb, nub, nvb, nqb⟩, ib, gb, bdb⟩, hxb⟩
   obtain ⟨hxab, hxbb, hxcb, hxdb, hxeb⟩ := hxb
   dsimp only at hxab hxbb hxcb hxdb hxeb ⊢
   simp only [List.cons_append, List.nil_append]
   refine g_kids 1 rfl (fun pvb cvb hvb => ?_)
   subst hvb
   refine g_buildSlice (offs := [0]) rfl rfl Try.underlying26 rfl Try.zeroValue28 (by kernel_rfl) (fun b3 => ?_)
   refine g_appS (bytes := 88) nC ((MT.mk nkb nsb nmb nxb nub (Value.slice pvb nqb.length cvb) nqb)) 3 (j := 0) rfl rfl rfl rfl Try.underlying26 (by kernel_rfl) rfl rfl nC_len rfl (by omega) (by have : maxLen = 9223372036854775807 := rfl; omega) (fun v4 => ?_)
   simp only [List.set_cons_zero, List.set_cons_succ]
   refine xg 1 [] rfl rfl ?_
   refine n_ (g_in_normal ?_)
   refine g_ahead [4,2] rfl ?_
   simp only [List.cons_append, List.nil_append]
   refine g_grow ?_
   have hwl := wL_app9 ms (MT.mk nkb nsb nmb nxb nub (Value.slice pvb nqb.length cvb) nqb)
   have hll : (ms ++ [(MT.mk nkb nsb nmb nxb nub (Value.slice pvb nqb.length cvb) nqb)]).length = ms.length + 1 := by simp
   have hnew : PA l i (ib, gb, bdb, v4, ms ++ [(MT.mk nkb nsb nmb nxb nub (Value.slice pvb nqb.length cvb) nqb)]) := ⟨nbL_append hnb (nbL_cons.2 ⟨hxab, nbL_nil⟩), by simp, by dsimp only; omega, by dsimp only; omega, hxdb, fun h => (by have h2 := hxeb h; dsimp only; rw [hwl, hll]; omega), by dsimp only; omega⟩
   have hdec : mz l.length ib bdb < mz l.length i1 false := mz_lt (by omega) (by omega) (fun h => by have h2 := hxeb h; omega)
   exact g_again ⟨_, hnew⟩ [0, 1, 4, 5] (by exact hdec) rfl (fun w h => h.pick [2,2,0,1] rfl)
  refine g_cond_f rfl (g_exit (g_then_exit (g_then_exit (g_in_exit (t_ (s_ (s_ ?_)))))))
  obtain ⟨⟨nk, ns, nm, nx, nu, nv, nq⟩, ms, rfl⟩ : ∃ a b, ms = a :: b := by cases ms with | nil => exact absurd rfl hne | cons a b => exact ⟨a, b, rfl⟩
  refine g_kids 2 rfl (fun pv cv hv => ?_)
  subst hv
  rcases ms with _ | ⟨t2, ms⟩
  ·have hone : ([(MT.mk nk ns nm nx nu (Value.slice pv nq.length cv) nq)] : List MT).length = 1 := rfl
   refine o_ ?_
   refine xg 1 [] rfl rfl ?_
   refine g_rowLen 1 rfl (fun pr2 cr2 hv2 => ?_)
   cases hv2
   refine g_val rfl rfl rfl (y_llen rfl Try.underlying26) ?_
   refine xg 1 [0] rfl rfl ?_
   refine g_lit 40 true rfl (decide_eq_true rfl) ?_
   refine n_ (t_ (g_cond_t rfl (s_ (o_ ?_))))
   refine xg 1 [] rfl rfl ?_
   refine g_rowCase 1 rfl (by simp) (fun gr3 cr3 hv3 => ?_)
   cases hv3
   refine g_val rfl rfl rfl (y_idxAddr (m := 0 * 9 + 0) rfl rfl Try.underlying26 Try.sizeOf28 (by omega) (by omega) (by omega)) ?_
   refine g_val rfl rfl rfl (y_ldRN (k := 9) (vs := nC (MT.mk nk ns nm nx nu (Value.slice pv nq.length cv) nq)) 1 rfl Try.isAgg28 Try.sizeOf28 rfl (fm_elem nC 9 nC_len _ 0 _ (rfl)) (nC_len _)) ?_
   refine xg 1 [3] rfl (by omega) ?_
   refine n_ (t_ (g_ret (g_then_ret ?_)))
   refine g_end_cell 3 Try.results22 rfl rfl Try.isAgg28 Try.sizeOf28 rfl ?_
   exact fun w hS => ⟨⟨((MT.mk nk ns nm nx nu (Value.slice pv nq.length cv) nq), i1, g1, bd1), (nbL_cons.1 hnb).1, hi1, by dsimp only; omega, hg1, fun h => by
     have h2 := hgood h
     dsimp only
     rw [wL_one9, hone] at h2; omega⟩, rfl, hS.pick [0,1] rfl⟩
  have hone : (((MT.mk nk ns nm nx nu (Value.slice pv nq.length cv) nq) :: t2 :: ms) : List MT).length = ms.length + 2 := rfl
  refine o_ ?_
  refine xg 1 [] rfl rfl ?_
  refine g_rowLen 1 rfl (fun pr4 cr4 hv4 => ?_)
  cases hv4
  refine g_val rfl rfl rfl (y_llen rfl Try.underlying26) ?_
  refine xg 1 [0] rfl rfl ?_
  refine g_lit 40 false rfl (decide_eq_false (by simp; omega)) ?_
  refine n_ (t_ (g_cond_f rfl (g_skip (t_ (s_ ?_)))))
  refine g_ahead [1,1] rfl ?_
  simp only [List.cons_append, List.nil_append]
  refine g_node 3 s0 0 0 0 rfl ?_
  refine o_ ?_
  refine xg 3 [2] rfl (by omega) ?_
  refine n_ (t_ (g_ret ?_))
  refine g_end_cell 2 Try.results22 rfl rfl Try.isAgg28 Try.sizeOf28 rfl ?_
  exact fun w hS => ⟨⟨(.mk 3 s0 0 0 0 (.slice pr4 (((MT.mk nk ns nm nx nu (Value.slice pv nq.length cv) nq) :: t2 :: ms).length) cr4) ((MT.mk nk ns nm nx nu (Value.slice pv nq.length cv) nq) :: t2 :: ms), i1, g1, bd1), nb_mk.2 ⟨nod0, hnb⟩, hi1, by dsimp only; omega, hg1, fun h => by
    have h2 := hgood h
    dsimp only
    rw [wT_mk]; rw [hone] at h2; omega⟩, rfl, hS.pick [1,0] rfl⟩
 intro hj
 refine o_ ?_
 refine xg 5 [0] rfl (by omega) ?_
 first | refine g_casep 14 rfl (fun h5 => ?_) fun h5 => ?_ | refine g_caseb 14 rfl (fun h5 => ?_) fun h5 => ?_
 ·refine xg 7 [0] rfl (by omega) ?_
  first | refine g_casep 21 rfl (fun h6 => ?_) fun h6 => ?_ | refine g_caseb 21 rfl (fun h6 => ?_) fun h6 => ?_
  ·refine xg 1 [] rfl rfl ?_
   refine g_callOwn (L0 := [.cells rb 56 [st8 l, .int .i64 ((i1 : Nat) : Int), .bool ex, .int .i64 ((g1 : Nat) : Int), .bool bd1]]) (fun x : {x : Bool // x = true → i1 + 1 ≤ l.length} => .bool x.1) (fun _ => [.cells rb 56 [st8 l, .int .i64 ((i1 : Nat) : Int), .bool ex, .int .i64 ((g1 : Nat) : Int), .bool bd1]]) rfl rfl rfl Try.call35 (fun w hS => at10 l hl ex rb bd1 i1 g1 (by omega) _ (by decide) _ w hS.part) ?_
   rintro ⟨ua7, hua7⟩
   dsimp only
   simp only [List.cons_append, List.nil_append]
   refine xg 1 [] rfl rfl ?_
   refine n_ ?_
   exact g_fall (hj ⟨_, by first | (intro h; cases h; done) | (intro h; exact ⟨by (revert ‹(!bd1) = true›; cases bd1 <;> intro h9 <;> first | rfl | cases h9), hua7 h⟩)⟩) [0, 1, 4, 5, 24] rfl (fun w h => h.pick [0,0,0,0] rfl)
  refine xg 3 [] rfl rfl ?_
  refine n_ ?_
  exact g_fall (hj ⟨_, by first | (intro h; cases h; done) | (intro h; exact ⟨by (revert ‹(!bd1) = true›; cases bd1 <;> intro h9 <;> first | rfl | cases h9), h_ h⟩)⟩) [0, 1, 4, 5, 24] rfl (fun w h => h.pick [0,0,0,0] rfl)
 refine xg 10 [] rfl rfl ?_
 refine n_ ?_
 exact g_fall (hj ⟨_, by first | (intro h; cases h; done) | (intro h; exact ⟨by (revert ‹(!bd1) = true›; cases bd1 <;> intro h9 <;> first | rfl | cases h9), h_ h⟩)⟩) [0, 1, 4, 5, 24] rfl (fun w h => h.pick [0,0,0,0] rfl)

theorem all_ok10 (l : List UInt8) (hl : l.length ≤ 200) (ex : Bool) : ∀ (D i : Nat), l.length - i ≤ D → AOk l ex i := by
  intro D
  induction D with
  | zero =>
    intro i h rb g wi F w hg hi hS0
    exact all10 l hl ex rb i g wi hi hg (fun j hj rb g wi F w hg hj2 hS => pieces10 l hl ex rb j g wi hj2 hg (fun k hk rb g F w hg hk2 hS => atom10 l hl ex rb k g hk2 hg (fun n h1 h2 => absurd h1 (by omega)) F w hS) F w hS) F w hS0
  | succ D ih =>
    intro i h rb g wi F w hg hi hS0
    exact all10 l hl ex rb i g wi hi hg (fun j hj rb g wi F w hg hj2 hS => pieces10 l hl ex rb j g wi hj2 hg (fun k hk rb g F w hg hk2 hS => atom10 l hl ex rb k g hk2 hg (fun n h1 h2 => ih n (by omega)) F w hS) F w hS) F w hS0
end Go.Proofs.Ytfcamlkbkehlnaa

/- Tables: rounds, the plain law. -/
namespace Go.Proofs.Ytfcamlkbkehlnaa
open Go Go.RowKit

/-- Rounds, as the document counts them. -/
def RP (n : Nat) (K : Nat → Nat → Bool) (lo hi : Int) : Nat → Nat → Bool := fun i j => rep n K (n + 1) (min lo (n + 1)) (min (max hi (-1)) (n + 1)) i j
/-- A table tells of what lies ahead alone. -/
def Ups (n : Nat) (K : Nat → Nat → Bool) : Prop := ∀ i j, i ≤ n → K i j = true → i ≤ j ∧ j ≤ n
theorem RP_ups {n : Nat} {K : Nat → Nat → Bool} {lo hi : Int} (hK : Ups n K) : Ups n (RP n K lo hi) := fun i j hi' h => rep_in hK _ _ _ i j hi' h
def rpS (F : Nat → Nat → Bool) (x : Nat) : Nat → Nat → Bool := fun p r => if x ≤ p then F p r else false
def rpQ (F : Nat → Nat → Bool) (K Nx : Nat → Nat → Bool) (D : Bool) (i m j : Nat) : Nat → Nat → Bool := fun p r =>
  if i + 1 ≤ p then F p r else if p = i then (decide (r = i) && D) || ((List.range m).any fun k => decide (i < k) && K i k && Nx k r) || (decide (m ≤ r) && decide (r < j) && K i m && Nx m r) else false
section
variable {n i m j p r : Nat} {F K Nx : Nat → Nat → Bool} {D v : Bool} {lo hi : Int}
theorem rp_diag (hv : v = D) : upT (rpS F (i + 1)) i i v p r = rpQ F K Nx D i (i + 1) (i + 1) p r := by
  subst hv
  have e : ((List.range (i + 1)).any fun k => decide (i < k) && K i k && Nx k r) = false := by
    rw [List.any_eq_false]; intro k hk
    rw [List.mem_range] at hk
    simp [show ¬ i < k by omega]
  have e2 : (decide (i + 1 ≤ r) && decide (r < i + 1) && K i (i + 1) && Nx (i + 1) r) = false := by
    by_cases q : i + 1 ≤ r
    · simp [show ¬ r < i + 1 by omega]
    · simp [q]
  unfold upT rpS rpQ
  rw [e, e2]
  by_cases h1 : i + 1 ≤ p
  · rw [if_neg (by omega), if_pos h1, if_pos h1]
  · rw [if_neg h1, if_neg h1]
    by_cases h2 : p = i
    · subst h2
      by_cases h3 : r = p
      · subst h3; simp
      · simp [h3]
    · rw [if_neg (fun h => h2 h.1), if_neg h2]
theorem rp_step (hm : m ≤ j) (hK : K i m = true) (hv : v = (rpQ F K Nx D i m j i j || Nx m j)) : upT (rpQ F K Nx D i m j) i j v p r = rpQ F K Nx D i m (j + 1) p r := by
  unfold upT
  by_cases h : p = i ∧ r = j
  · obtain ⟨rfl, rfl⟩ := h
    rw [if_pos ⟨rfl, rfl⟩, hv]
    unfold rpQ
    simp [hK, hm, show ¬ p + 1 ≤ p by omega]
  · rw [if_neg h]
    unfold rpQ
    split
    · rfl
    · split
      · rename_i hp
        have : r ≠ j := fun q => h ⟨hp, q⟩
        rw [show decide (r < j + 1) = decide (r < j) by congr 1; apply propext; omega]
      · rfl
/-- A row below is F's. -/
theorem rp_below (h : i < m) : rpQ F K Nx D i m j m r = F m r := by
  unfold rpQ
  rw [if_pos (by omega)]
theorem rp_next (hi : i < m) (hN : ∀ r, Nx m r = true → m ≤ r) (h : j = n + 1 ∨ K i m = false) (hr : r < n + 1) : rpQ F K Nx D i m j p r = rpQ F K Nx D i (m + 1) (m + 1) p r := by
  unfold rpQ
  split
  · rfl
  · split
    · rw [List.range_succ, List.any_append]
      have e : (decide (m + 1 ≤ r) && decide (r < m + 1) && K i (m + 1) && Nx (m + 1) r) = false := by
        by_cases q : m + 1 ≤ r
        · simp [show ¬ r < m + 1 by omega]
        · simp [q]
      rw [e, Bool.or_false, Bool.or_assoc]
      congr 1
      congr 1
      rcases h with rfl | h
      · cases hx : Nx m r with
        | false => simp [hx]
        | true => simp [hi, hr, hN r hx, hx]
      · simp [h]
    · rfl
theorem rp_row {lo1 hi1 lo2 hi2 : Int} (hin : i ≤ n) (hm : m ≤ n + 1) (him : i < m) (hF : F = rep n K (n + 1) lo1 hi1) (hNx : Nx = rep n K (n + 1) lo2 hi2) (hD : D = (decide (lo1 = 0) || K i i)) (h2 : lo2 = max (lo1 - 1) 0) (h3 : hi1 ≠ 0 → hi2 = (if 0 < hi1 then hi1 - 1 else hi1))
    (h : (m = n + 1 ∧ hi1 ≠ 0) ∨ (hi1 = 0 ∧ m = i + 1)) (_hr : r < n + 1) : rpQ F K Nx D i m m p r = rpS F i p r := by
  unfold rpQ rpS
  by_cases h1 : i + 1 ≤ p
  · rw [if_pos h1, if_pos (by omega)]
  · rw [if_neg h1]
    by_cases hp : p = i
    · subst hp
      have e : (decide (m ≤ r) && decide (r < m) && K p m && Nx m r) = false := by
        by_cases q : m ≤ r
        · simp [show ¬ r < m by omega]
        · simp [q]
      rw [if_pos rfl, if_pos (Nat.le_refl _), e, Bool.or_false, hF, rep_step hin, hD]
      congr 1
      rcases h with ⟨rfl, h⟩ | ⟨h, rfl⟩
      · rw [decide_eq_true h, Bool.true_and, hNx, h2, h3 h]
      · rw [h]
        simp only [ne_eq, not_true_eq_false, decide_false, Bool.false_and]
        rw [List.any_eq_false]
        intro k hk
        rw [List.mem_range] at hk
        simp [show ¬ p < k by omega]
    · rw [if_neg hp, if_neg (by omega)]
theorem rp_zero (hp : p < n + 1) : rpS F (n + 1) p r = false := if_neg (by omega)
theorem rp_done : rpS F 0 p r = F p r := if_pos (Nat.zero_le _)
end

end Go.Proofs.Ytfcamlkbkehlnaa

/- Tables: rounds, repeat. -/
namespace Go.Proofs.Ytfcamlkbkehlnaa
open Go Go.RowKit

set_option maxHeartbeats 4000000 in
set_option maxRecDepth 100000 in
theorem repeat_any (n : Nat) (hn : n ≤ 100000) (A : TbX) (a : Nat → Nat → Bool) (hK : Ups n a) (lo hi : Int) (hlo : 0 ≤ lo) (ih : ∀ (lo2 hi2 : Int), 0 ≤ lo2 → (min lo2 (n + 1)).toNat + (min hi2 (n + 1)).toNat < (min lo (n + 1)).toNat + (min hi (n + 1)).toNat → ∀ w, RdT w (n + 1) A a → Calls Try.prog 52 #[A.v (n + 1), .int .i64 lo2, .int .i64 hi2] w fun e w' => ∃ y : {y : TbX // y.gs.length = n + 1}, e = .returned (y.1.v (n + 1)) ∧ St w [] [y.1.o (n + 1), .brs y.1.gs (n + 1) (RP n a lo2 hi2)] w') (w : World) (hA : RdT w (n + 1) A a) :
    Calls Try.prog 52 #[A.v (n + 1), .int .i64 lo, .int .i64 hi] w fun e w' => ∃ y : {y : TbX // y.gs.length = n + 1}, e = .returned (y.1.v (n + 1)) ∧ St w [] [y.1.o (n + 1), .brs y.1.gs (n + 1) (RP n a lo hi)] w' := by
 have hlA := hA.len
 refine fn_intro Try.func52 rfl Try.ntmps52 rfl rfl ?_
 refine s_ (o_ ?_)
 refine xg 1 [] rfl rfl ?_
 refine ntso_ ?_
 refine xg 1 [] rfl rfl ?_
 refine g_val (v := .int .i64 ((n + 1 : Nat) : Int)) rfl rfl rfl (y_llen rfl Try.underlying73) ?_
 refine g_val (v := .int .i64 (n : Int)) rfl rfl rfl (y_val (y_isub rfl rfl) (by rw [wrap_in (by omega)]; congr 1; omega)) ?_
 refine xg 1 [] rfl rfl ?_
 refine n_ (t_ (s_ (s_ (o_ ?_))))
 refine xg 4 [0] rfl (by omega) ?_
 refine n_ (t_ ?_)
 refine g_cutc (α := {x : Int // x = min lo (n + 1)}) (fun x => [(0, A.v (n + 1)), (1, .int .i64 x.1), (2, .int .i64 hi), (7, .int .i64 (n : Int))]) (fun x => []) ?_ ?_
 ·rintro ⟨lo1, hlo1⟩
  try dsimp only
  refine t_ (s_ (s_ (o_ ?_)))
  refine xg 4 [0] rfl (by omega) ?_
  refine n_ (t_ ?_)
  refine g_cutc (α := {x : Int // x = min hi (n + 1)}) (fun x => [(0, A.v (n + 1)), (1, .int .i64 lo1), (2, .int .i64 x.1), (7, .int .i64 (n : Int))]) (fun x => []) ?_ ?_
  ·rintro ⟨hi1, hhi1⟩
   try dsimp only
   refine t_ (s_ (o_ ?_))
   refine xg 1 [] rfl rfl ?_
   refine g_callOwn (L0 := []) (fun y : {y : TbX // y.gs.length = n + 1} => y.1.v (n + 1)) (fun y => [y.1.o (n + 1), .brs y.1.gs (n + 1) (fun _ _ => false)]) rfl rfl rfl Try.call47 (fun w hS => empty_any n hn w) ?_
   rintro ⟨T, hgT⟩
   dsimp only
   simp only [List.cons_append, List.nil_append]
   refine xg 1 [] rfl rfl ?_
   refine ntso_ ?_
   refine xg 2 [] rfl rfl ?_
   refine n_ (t_ (s_ (s_ (o_ ?_))))
   refine xg 3 [0] rfl rfl ?_
   refine g_casep 33 rfl (fun h1 => ?_) fun h1 => ?_
   ·refine xg 3 [] rfl rfl ?_
    refine n_ (t_ (g_cond_t rfl (o_ ?_)))
    refine xg 3 [] rfl (by omega) ?_
    refine g_val (v := .int .i64 (max (lo1 - 1) 0)) rfl rfl rfl (y_maxi rfl rfl) ?_
    refine xg 1 [] rfl rfl ?_
    refine g_c1 (m_fewer hi1 (by omega)) any_I rfl rfl rfl ?_
    refine g_callOwn (L0 := []) (fun y : {y : TbX // y.gs.length = n + 1} => y.1.v (n + 1)) (fun y => [y.1.o (n + 1), .brs y.1.gs (n + 1) (RP n a (max (lo1 - 1) 0) (max (hi1 - 1) (min hi1 0)))]) rfl rfl rfl Try.call52 (fun w hS => ih (max (lo1 - 1) 0) (max (hi1 - 1) (min hi1 0)) (by omega) (by omega) w (hA.keep hS)) ?_
    rintro ⟨Xn, hgXn⟩
    dsimp only
    simp only [List.cons_append, List.nil_append]
    refine xg 1 [] rfl rfl ?_
    refine n_ (t_ (s_ (s_ ?_)))
    refine g_brsEq (d := (rpS (rep n a (n + 1) lo1 (max hi1 (-1))) (n + 1))) 3 rfl (fun p r hp hr => (rp_zero (by omega)).symm) ?_
    simp only [List.set_cons_zero, List.set_cons_succ]
    refine o_ ?_
    refine xg 2 [] rfl rfl ?_
    refine n_ (t_ (g_block ?_))
    refine g_eqv 10 (.int .i64 (((n + 1 : Nat) : Int) - 1)) rfl (by congr 1; omega) ?_
    refine g_loop (α := {x : Nat // x ≤ n + 1}) (fun x => [(0, A.v (n + 1)), (1, .int .i64 lo1), (2, .int .i64 hi1), (7, .int .i64 (n : Int)), (8, T.v (n + 1)), (9, Xn.v (n + 1)), (10, .int .i64 ((x.1 : Int) - 1))]) (fun x => St w [] [T.o (n + 1), .brs T.gs (n + 1) (rpS (rep n a (n + 1) lo1 (max hi1 (-1))) x.1), Xn.o (n + 1), .brs Xn.gs (n + 1) (RP n a (max (lo1 - 1) 0) (max (hi1 - 1) (min hi1 0)))]) (fun x => x.1) ⟨n + 1, Nat.le_refl _⟩ [0, 1, 2, 7, 8, 9, 10] rfl (fun w h => h.pick [2,2,0,0] rfl) ?_
    rintro ⟨x, hx⟩
    dsimp only
    refine s_ (s_ (o_ ?_))
    refine xg 2 [0] rfl rfl ?_
    refine n_ (t_ ?_)
    refine g_casep 46 rfl (fun h2 => ?_) fun h2 => ?_
    ·refine g_cond_t rfl (g_skip (t_ (s_ (g_block (s_ ?_)))))
     obtain ⟨i, rfl⟩ : ∃ i, x = i + 1 := ⟨x - 1, by omega⟩
     refine g_eqv 10 (.int .i64 (i : Int)) rfl (by congr 1; omega) ?_
     refine k_go [0] rfl (by kernel_rfl) (fun _ _ _ _ _ h => h) fun hQ => ?_
     refine k_x 0 [0] [] hQ (by kernel_rfl) rfl rfl rfl rfl rfl rfl ?_
     refine k_x 1 [0] [] hQ (by kernel_rfl) rfl rfl rfl rfl rfl rfl ?_
     refine k_take (v := .pointer (some ⟨T.tb, i, none⟩)) 2 rfl (by kernel_rfl) hQ rfl rfl rfl (fun _ h => h.pick [0] rfl) (y_idxAddr (m := i) rfl rfl Try.underlying73 Try.sizeOf75 (by omega) (by omega) (by omega)) ?_
     refine k_take (v := slW (n + 1) (T.gs.getD i 0)) 3 rfl (by kernel_rfl) hQ rfl rfl rfl (fun _ h => h.pick [0] rfl) (y_ldR (off := i) 0 rfl Try.isAgg75 rfl (gt_get (n := n + 1) (by omega))) ?_
     refine k_x 4 [0] [] hQ (by kernel_rfl) rfl rfl rfl rfl rfl rfl ?_
     refine k_x 5 [0] [] hQ (by kernel_rfl) rfl rfl rfl rfl rfl rfl ?_
     refine k_xc 6 [0] [2] hQ (by kernel_rfl) rfl rfl rfl rfl rfl rfl (by omega) ?_
     refine k_x 7 [0] [] hQ (by kernel_rfl) rfl rfl rfl rfl rfl rfl ?_
     refine k_x 8 [0] [] hQ (by kernel_rfl) rfl rfl rfl rfl rfl rfl ?_
     refine k_x 9 [0] [] hQ (by kernel_rfl) rfl rfl rfl rfl rfl rfl ?_
     refine k_take (v := .pointer (some ⟨A.tb, i, none⟩)) 10 rfl (by kernel_rfl) hQ rfl rfl rfl (fun _ h => h.pick [0] rfl) (y_idxAddr (m := i) rfl rfl Try.underlying73 Try.sizeOf75 (by omega) (by omega) (by omega)) ?_
     refine k_take (v := slW (n + 1) (A.gs.getD i 0)) 11 rfl (by kernel_rfl) hQ rfl rfl rfl (fun _ h => h.pick [0] rfl) (y_rtO (i := i) hA List.not_mem_nil rfl Try.isAgg75 (by omega)) ?_
     refine k_x 12 [0] [] hQ (by kernel_rfl) rfl rfl rfl rfl rfl rfl ?_
     refine k_take (v := .pointer (some ⟨A.gs.getD i 0, i, none⟩)) 13 rfl (by kernel_rfl) hQ rfl rfl rfl (fun _ h => h.pick [0] rfl) (y_idxAddr (m := i) rfl rfl Try.underlying75 Try.sizeOf4 (by omega) (by omega) (by omega)) ?_
     refine k_take (v := .bool (a i i)) 14 rfl (by kernel_rfl) hQ rfl rfl rfl (fun _ h => h.pick [0] rfl) (y_rtI (i := i) (j := i) hA List.not_mem_nil rfl Try.isAgg4 (by omega) (by omega)) ?_
     refine k_x 15 [0] [] hQ (by kernel_rfl) rfl rfl rfl rfl rfl rfl ?_
     refine k_take (v := .pointer (some ⟨T.gs.getD i 0, i, none⟩)) 16 rfl (by kernel_rfl) hQ rfl rfl rfl (fun _ h => h.pick [0] rfl) (y_idxAddr (m := i) rfl rfl Try.underlying75 Try.sizeOf4 (by omega) (by omega) (by omega)) ?_
     refine k_one 17 (by kernel_rfl) ?_
     refine k_op 17 rfl ?_
     refine g_stB (i := i) (j := i) 1 rfl rfl rfl Try.sizeOf4 rfl (gt_at (by omega)) (by omega) ?_
     simp only [List.set_cons_zero, List.set_cons_succ]
     refine n_ ?_
     refine k_end (fun _ h => h.pick [0] rfl) ?_
     refine k_done (by kernel_rfl) ?_
     refine t_ (s_ ?_)
     refine g_brsEq (d := (rpQ (rep n a (n + 1) lo1 (max hi1 (-1))) a (RP n a (max (lo1 - 1) 0) (max (hi1 - 1) (min hi1 0))) (decide (lo1 = 0) || a i i) i (i + 1) (i + 1))) 1 rfl (fun p r hp hr => rp_diag (by rw [decide_eq_false (by omega), Bool.false_or])) ?_
     simp only [List.set_cons_zero, List.set_cons_succ]
     refine o_ ?_
     refine xg 3 [] rfl (by omega) ?_
     refine n_ (t_ (g_block ?_))
     refine g_loop (α := {x : Nat // i + 1 ≤ x ∧ x ≤ n + 1 ∧ (hi1 = 0 → x = i + 1)}) (fun x => [(0, A.v (n + 1)), (1, .int .i64 lo1), (2, .int .i64 hi1), (7, .int .i64 (n : Int)), (8, T.v (n + 1)), (9, Xn.v (n + 1)), (10, .int .i64 (i : Int)), (11, .int .i64 (x.1 : Int))]) (fun x => St w [] [T.o (n + 1), .brs T.gs (n + 1) (rpQ (rep n a (n + 1) lo1 (max hi1 (-1))) a (RP n a (max (lo1 - 1) 0) (max (hi1 - 1) (min hi1 0))) (decide (lo1 = 0) || a i i) i x.1 x.1), Xn.o (n + 1), .brs Xn.gs (n + 1) (RP n a (max (lo1 - 1) 0) (max (hi1 - 1) (min hi1 0)))]) (fun x => n + 1 - x.1) ⟨i + 1, by omega, by omega, by omega⟩ [0, 1, 2, 7, 8, 9, 10, 11] rfl (fun w h => h.pick [0,0,0,0] rfl) ?_
     rintro ⟨m, hm1, hm2, hm3⟩
     dsimp only
     refine s_ (s_ (o_ ?_))
     refine xg 4 [0] rfl rfl ?_
     refine g_casep 71 rfl (fun h3 => ?_) fun h3 => ?_
     ·refine xg 3 [0] rfl rfl ?_
      refine n_ (t_ ?_)
      refine g_casep 74 rfl (fun h4 => ?_) fun h4 => ?_
      ·refine g_cond_t rfl (g_skip (t_ (s_ (g_block (s_ (o_ ?_))))))
       refine xg 2 [] rfl rfl ?_
       refine n_ (t_ (g_block ?_))
       refine g_loop (α := {x : Nat // m ≤ x ∧ x ≤ n + 1}) (fun x => [(0, A.v (n + 1)), (1, .int .i64 lo1), (2, .int .i64 hi1), (7, .int .i64 (n : Int)), (8, T.v (n + 1)), (9, Xn.v (n + 1)), (10, .int .i64 (i : Int)), (11, .int .i64 (m : Int)), (12, .int .i64 (x.1 : Int))]) (fun x => St w [] [T.o (n + 1), .brs T.gs (n + 1) (rpQ (rep n a (n + 1) lo1 (max hi1 (-1))) a (RP n a (max (lo1 - 1) 0) (max (hi1 - 1) (min hi1 0))) (decide (lo1 = 0) || a i i) i m x.1), Xn.o (n + 1), .brs Xn.gs (n + 1) (RP n a (max (lo1 - 1) 0) (max (hi1 - 1) (min hi1 0)))]) (fun x => n + 1 - x.1) ⟨m, by omega, by omega⟩ [0, 1, 2, 7, 8, 9, 10, 11, 12] rfl (fun w h => h.pick [0,0,0,0] rfl) ?_
       rintro ⟨j, hmj, hj⟩
       dsimp only
       refine s_ (s_ (o_ ?_))
       refine xg 4 [0] rfl rfl ?_
       refine g_casep 81 rfl (fun h5 => ?_) fun h5 => ?_
       ·refine xg 2 [] rfl rfl ?_
        refine g_val (v := .pointer (some ⟨A.tb, i, none⟩)) rfl rfl rfl (y_idxAddr (m := i) rfl rfl Try.underlying73 Try.sizeOf75 (by omega) (by omega) (by omega)) ?_
        refine g_val (v := slW (n + 1) (A.gs.getD i 0)) rfl rfl rfl (y_rtO (i := i) hA List.not_mem_nil rfl Try.isAgg75 (by omega)) ?_
        refine xg 1 [] rfl rfl ?_
        refine g_val (v := .pointer (some ⟨A.gs.getD i 0, m, none⟩)) rfl rfl rfl (y_idxAddr (m := m) rfl rfl Try.underlying75 Try.sizeOf4 (by omega) (by omega) (by omega)) ?_
        refine g_val (v := .bool (a i m)) rfl rfl rfl (y_rtI (i := i) (j := m) hA List.not_mem_nil rfl Try.isAgg4 (by omega) (by omega)) ?_
        refine xg 1 [] rfl rfl ?_
        refine n_ (t_ ?_)
        first | refine g_casep 89 rfl (fun h6 => ?_) fun h6 => ?_ | refine g_caseb 89 rfl (fun h6 => ?_) fun h6 => ?_
        ·refine g_cond_t rfl (g_skip (t_ (s_ (g_block (s_ (o_ ?_))))))
         refine xg 6 [2] rfl (by omega) ?_
         refine n_ (t_ (g_cond_f rfl ?_))
         have ha : a i m = true := by simpa using ‹a i m = true›
         cases hc : rpQ (rep n a (n + 1) lo1 (max hi1 (-1))) a (RP n a (max (lo1 - 1) 0) (max (hi1 - 1) (min hi1 0))) (decide (lo1 = 0) || a i i) i m j i j
         ·refine k_go [0,1,1] rfl (by kernel_rfl) (fun _ _ _ _ _ h => h) fun hQ => ?_
          refine k_x 0 [0,1,1] [] hQ (by kernel_rfl) rfl rfl rfl rfl rfl rfl ?_
          refine k_x 1 [0,1,1] [] hQ (by kernel_rfl) rfl rfl rfl rfl rfl rfl ?_
          refine k_take (v := .pointer (some ⟨T.tb, i, none⟩)) 2 rfl (by kernel_rfl) hQ rfl rfl rfl (fun _ h => h.pick [0,1,1] rfl) (y_idxAddr (m := i) rfl rfl Try.underlying73 Try.sizeOf75 (by omega) (by omega) (by omega)) ?_
          refine k_take (v := slW (n + 1) (T.gs.getD i 0)) 3 rfl (by kernel_rfl) hQ rfl rfl rfl (fun _ h => h.pick [0,1,1] rfl) (y_ldR (off := i) 0 rfl Try.isAgg75 rfl (gt_get (n := n + 1) (by omega))) ?_
          refine k_x 4 [0,1,1] [] hQ (by kernel_rfl) rfl rfl rfl rfl rfl rfl ?_
          refine k_x 5 [0,1,1] [] hQ (by kernel_rfl) rfl rfl rfl rfl rfl rfl ?_
          refine k_x 6 [0,1,1] [] hQ (by kernel_rfl) rfl rfl rfl rfl rfl rfl ?_
          refine k_take (v := .pointer (some ⟨T.tb, i, none⟩)) 7 rfl (by kernel_rfl) hQ rfl rfl rfl (fun _ h => h.pick [0,1,1] rfl) (y_idxAddr (m := i) rfl rfl Try.underlying73 Try.sizeOf75 (by omega) (by omega) (by omega)) ?_
          refine k_take (v := slW (n + 1) (T.gs.getD i 0)) 8 rfl (by kernel_rfl) hQ rfl rfl rfl (fun _ h => h.pick [0,1,1] rfl) (y_ldR (off := i) 0 rfl Try.isAgg75 rfl (gt_get (n := n + 1) (by omega))) ?_
          refine k_x 9 [0,1,1] [] hQ (by kernel_rfl) rfl rfl rfl rfl rfl rfl ?_
          refine k_take (v := .pointer (some ⟨T.gs.getD i 0, j, none⟩)) 10 rfl (by kernel_rfl) hQ rfl rfl rfl (fun _ h => h.pick [0,1,1] rfl) (y_idxAddr (m := j) rfl rfl Try.underlying75 Try.sizeOf4 (by omega) (by omega) (by omega)) ?_
          refine k_one 11 (by kernel_rfl) ?_
          refine k_op 11 rfl ?_
          refine g_val (v := .bool false) rfl rfl rfl (y_val (y_ldB (i := i) (j := j) 1 rfl Try.isAgg4 rfl (gt_at (by omega)) (by omega)) (by rw [hc])) ?_
          refine n_ ?_
          refine k_end (fun _ h => h.pick [0,1,1] rfl) ?_
          refine k_x 12 [0,1,1] [] hQ (by kernel_rfl) rfl rfl rfl rfl rfl rfl ?_
          refine k_x 13 [0,1,1] [] hQ (by kernel_rfl) rfl rfl rfl rfl rfl rfl ?_
          refine k_x 14 [0,1,1] [] hQ (by kernel_rfl) rfl rfl rfl rfl rfl rfl ?_
          refine k_take (v := .pointer (some ⟨Xn.tb, m, none⟩)) 15 rfl (by kernel_rfl) hQ rfl rfl rfl (fun _ h => h.pick [0,1,1] rfl) (y_idxAddr (m := m) rfl rfl Try.underlying73 Try.sizeOf75 (by omega) (by omega) (by omega)) ?_
          refine k_take (v := slW (n + 1) (Xn.gs.getD m 0)) 16 rfl (by kernel_rfl) hQ rfl rfl rfl (fun _ h => h.pick [0,1,1] rfl) (y_ldR (off := m) 1 rfl Try.isAgg75 rfl (gt_get (n := n + 1) (by omega))) ?_
          refine k_x 17 [0,1,1] [] hQ (by kernel_rfl) rfl rfl rfl rfl rfl rfl ?_
          refine k_take (v := .pointer (some ⟨Xn.gs.getD m 0, j, none⟩)) 18 rfl (by kernel_rfl) hQ rfl rfl rfl (fun _ h => h.pick [0,1,1] rfl) (y_idxAddr (m := j) rfl rfl Try.underlying75 Try.sizeOf4 (by omega) (by omega) (by omega)) ?_
          refine k_take (v := .bool ((RP n a (max (lo1 - 1) 0) (max (hi1 - 1) (min hi1 0))) m j)) 19 rfl (by kernel_rfl) hQ rfl rfl rfl (fun _ h => h.pick [0,1,1] rfl) (y_ldB (i := m) (j := j) 2 rfl Try.isAgg4 rfl (gt_at (by omega)) (by omega)) ?_
          refine k_x 20 [0,1,1] [] hQ (by kernel_rfl) rfl rfl rfl rfl rfl rfl ?_
          refine k_take (v := .pointer (some ⟨T.gs.getD i 0, j, none⟩)) 21 rfl (by kernel_rfl) hQ rfl rfl rfl (fun _ h => h.pick [0,1,1] rfl) (y_idxAddr (m := j) rfl rfl Try.underlying75 Try.sizeOf4 (by omega) (by omega) (by omega)) ?_
          refine k_one 22 (by kernel_rfl) ?_
          refine k_op 22 rfl ?_
          refine g_stB (i := i) (j := j) 1 rfl rfl rfl Try.sizeOf4 rfl (gt_at (by omega)) (by omega) ?_
          simp only [List.set_cons_zero, List.set_cons_succ]
          refine n_ ?_
          refine k_end (fun _ h => h.pick [0,1,1] rfl) ?_
          refine k_done (by kernel_rfl) ?_
          refine g_in_normal (t_ (o_ ?_))
          refine xg 3 [] rfl (by omega) ?_
          refine n_ ?_
          refine g_brsEq (d := (rpQ (rep n a (n + 1) lo1 (max hi1 (-1))) a (RP n a (max (lo1 - 1) 0) (max (hi1 - 1) (min hi1 0))) (decide (lo1 = 0) || a i i) i m (j + 1))) 1 rfl (fun p r hp hr => rp_step hmj ha (by rw [hc]; rw [Bool.false_or])) ?_
          simp only [List.set_cons_zero, List.set_cons_succ]
          exact g_again ⟨j + 1, by omega, by omega⟩ [0, 1, 2, 7, 8, 9, 10, 11, 12] (by dsimp only; omega) rfl (fun w h => h.pick [0,0,0,0] rfl)
         refine k_go [] rfl (by kernel_rfl) (fun _ _ _ _ _ h => h) fun hQ => ?_
         refine k_x 0 [] [] hQ (by kernel_rfl) rfl rfl rfl rfl rfl rfl ?_
         refine k_x 1 [] [] hQ (by kernel_rfl) rfl rfl rfl rfl rfl rfl ?_
         refine k_take (v := .pointer (some ⟨T.tb, i, none⟩)) 2 rfl (by kernel_rfl) hQ rfl rfl rfl (fun _ h => h.pick [] rfl) (y_idxAddr (m := i) rfl rfl Try.underlying73 Try.sizeOf75 (by omega) (by omega) (by omega)) ?_
         refine k_x 4 [] [] hQ (by kernel_rfl) rfl rfl rfl rfl rfl rfl ?_
         refine k_x 5 [] [] hQ (by kernel_rfl) rfl rfl rfl rfl rfl rfl ?_
         refine k_x 6 [] [] hQ (by kernel_rfl) rfl rfl rfl rfl rfl rfl ?_
         refine k_take (v := .pointer (some ⟨T.tb, i, none⟩)) 7 rfl (by kernel_rfl) hQ rfl rfl rfl (fun _ h => h.pick [] rfl) (y_idxAddr (m := i) rfl rfl Try.underlying73 Try.sizeOf75 (by omega) (by omega) (by omega)) ?_
         refine k_x 9 [] [] hQ (by kernel_rfl) rfl rfl rfl rfl rfl rfl ?_
         refine k_all [3,8] (by kernel_rfl) (by simp) ⟨?_, ?_, trivial⟩
         ·refine k_op 3 rfl ?_
          refine g_val (v := slW (n + 1) (T.gs.getD i 0)) rfl rfl rfl (y_ldR (off := i) 0 rfl Try.isAgg75 rfl (gt_get (n := n + 1) (by omega))) ?_
          refine n_ ?_
          refine k_end (fun _ h => h.pick [] rfl) ?_
          refine k_one 8 (by kernel_rfl) ?_
          refine k_op 8 rfl ?_
          refine g_val (v := slW (n + 1) (T.gs.getD i 0)) rfl rfl rfl (y_ldR (off := i) 0 rfl Try.isAgg75 rfl (gt_get (n := n + 1) (by omega))) ?_
          refine n_ ?_
          refine k_end (fun _ h => h.pick [] rfl) ?_
          refine k_take (v := .pointer (some ⟨T.gs.getD i 0, j, none⟩)) 10 rfl (by kernel_rfl) hQ rfl rfl rfl (fun _ h => h.pick [] rfl) (y_idxAddr (m := j) rfl rfl Try.underlying75 Try.sizeOf4 (by omega) (by omega) (by omega)) ?_
          refine k_one 11 (by kernel_rfl) ?_
          refine k_op 11 rfl ?_
          refine g_val (v := .bool true) rfl rfl rfl (y_val (y_ldB (i := i) (j := j) 1 rfl Try.isAgg4 rfl (gt_at (by omega)) (by omega)) (by rw [hc])) ?_
          refine n_ ?_
          refine k_end (fun _ h => h.pick [] rfl) ?_
          refine k_x 12 [] [] hQ (by kernel_rfl) rfl rfl rfl rfl rfl rfl ?_
          refine k_no 13 [] hQ (by kernel_rfl) rfl rfl rfl rfl rfl ?_
          refine k_no 14 [] hQ (by kernel_rfl) rfl rfl rfl rfl rfl ?_
          refine k_no 15 [] hQ (by kernel_rfl) rfl rfl rfl rfl rfl ?_
          refine k_no 16 [] hQ (by kernel_rfl) rfl rfl rfl rfl rfl ?_
          refine k_no 17 [] hQ (by kernel_rfl) rfl rfl rfl rfl rfl ?_
          refine k_no 18 [] hQ (by kernel_rfl) rfl rfl rfl rfl rfl ?_
          refine k_no 19 [] hQ (by kernel_rfl) rfl rfl rfl rfl rfl ?_
          refine k_x 20 [] [] hQ (by kernel_rfl) rfl rfl rfl rfl rfl rfl ?_
          refine k_take (v := .pointer (some ⟨T.gs.getD i 0, j, none⟩)) 21 rfl (by kernel_rfl) hQ rfl rfl rfl (fun _ h => h.pick [] rfl) (y_idxAddr (m := j) rfl rfl Try.underlying75 Try.sizeOf4 (by omega) (by omega) (by omega)) ?_
          refine k_one 22 (by kernel_rfl) ?_
          refine k_op 22 rfl ?_
          refine g_stB (i := i) (j := j) 1 rfl rfl rfl Try.sizeOf4 rfl (gt_at (by omega)) (by omega) ?_
          simp only [List.set_cons_zero, List.set_cons_succ]
          refine n_ ?_
          refine k_end (fun _ h => h.pick [] rfl) ?_
          refine k_done (by kernel_rfl) ?_
          refine g_in_normal (t_ (o_ ?_))
          refine xg 3 [] rfl (by omega) ?_
          refine n_ ?_
          refine g_brsEq (d := (rpQ (rep n a (n + 1) lo1 (max hi1 (-1))) a (RP n a (max (lo1 - 1) 0) (max (hi1 - 1) (min hi1 0))) (decide (lo1 = 0) || a i i) i m (j + 1))) 1 rfl (fun p r hp hr => rp_step hmj ha (by rw [hc]; rfl)) ?_
          simp only [List.set_cons_zero, List.set_cons_succ]
          exact g_again ⟨j + 1, by omega, by omega⟩ [0, 1, 2, 7, 8, 9, 10, 11, 12] (by dsimp only; omega) rfl (fun w h => h.pick [0,0,0,0] rfl)
         refine k_op 8 rfl ?_
         refine g_val (v := slW (n + 1) (T.gs.getD i 0)) rfl rfl rfl (y_ldR (off := i) 0 rfl Try.isAgg75 rfl (gt_get (n := n + 1) (by omega))) ?_
         refine n_ ?_
         refine k_end (fun _ h => h.pick [] rfl) ?_
         refine k_take (v := .pointer (some ⟨T.gs.getD i 0, j, none⟩)) 10 rfl (by kernel_rfl) hQ rfl rfl rfl (fun _ h => h.pick [] rfl) (y_idxAddr (m := j) rfl rfl Try.underlying75 Try.sizeOf4 (by omega) (by omega) (by omega)) ?_
         refine k_all [3,11] (by kernel_rfl) (by simp) ⟨?_, ?_, trivial⟩
         ·refine k_op 3 rfl ?_
          refine g_val (v := slW (n + 1) (T.gs.getD i 0)) rfl rfl rfl (y_ldR (off := i) 0 rfl Try.isAgg75 rfl (gt_get (n := n + 1) (by omega))) ?_
          refine n_ ?_
          refine k_end (fun _ h => h.pick [] rfl) ?_
          refine k_one 11 (by kernel_rfl) ?_
          refine k_op 11 rfl ?_
          refine g_val (v := .bool true) rfl rfl rfl (y_val (y_ldB (i := i) (j := j) 1 rfl Try.isAgg4 rfl (gt_at (by omega)) (by omega)) (by rw [hc])) ?_
          refine n_ ?_
          refine k_end (fun _ h => h.pick [] rfl) ?_
          refine k_x 12 [] [] hQ (by kernel_rfl) rfl rfl rfl rfl rfl rfl ?_
          refine k_no 13 [] hQ (by kernel_rfl) rfl rfl rfl rfl rfl ?_
          refine k_no 14 [] hQ (by kernel_rfl) rfl rfl rfl rfl rfl ?_
          refine k_no 15 [] hQ (by kernel_rfl) rfl rfl rfl rfl rfl ?_
          refine k_no 16 [] hQ (by kernel_rfl) rfl rfl rfl rfl rfl ?_
          refine k_no 17 [] hQ (by kernel_rfl) rfl rfl rfl rfl rfl ?_
          refine k_no 18 [] hQ (by kernel_rfl) rfl rfl rfl rfl rfl ?_
          refine k_no 19 [] hQ (by kernel_rfl) rfl rfl rfl rfl rfl ?_
          refine k_x 20 [] [] hQ (by kernel_rfl) rfl rfl rfl rfl rfl rfl ?_
          refine k_take (v := .pointer (some ⟨T.gs.getD i 0, j, none⟩)) 21 rfl (by kernel_rfl) hQ rfl rfl rfl (fun _ h => h.pick [] rfl) (y_idxAddr (m := j) rfl rfl Try.underlying75 Try.sizeOf4 (by omega) (by omega) (by omega)) ?_
          refine k_one 22 (by kernel_rfl) ?_
          refine k_op 22 rfl ?_
          refine g_stB (i := i) (j := j) 1 rfl rfl rfl Try.sizeOf4 rfl (gt_at (by omega)) (by omega) ?_
          simp only [List.set_cons_zero, List.set_cons_succ]
          refine n_ ?_
          refine k_end (fun _ h => h.pick [] rfl) ?_
          refine k_done (by kernel_rfl) ?_
          refine g_in_normal (t_ (o_ ?_))
          refine xg 3 [] rfl (by omega) ?_
          refine n_ ?_
          refine g_brsEq (d := (rpQ (rep n a (n + 1) lo1 (max hi1 (-1))) a (RP n a (max (lo1 - 1) 0) (max (hi1 - 1) (min hi1 0))) (decide (lo1 = 0) || a i i) i m (j + 1))) 1 rfl (fun p r hp hr => rp_step hmj ha (by rw [hc]; rfl)) ?_
          simp only [List.set_cons_zero, List.set_cons_succ]
          exact g_again ⟨j + 1, by omega, by omega⟩ [0, 1, 2, 7, 8, 9, 10, 11, 12] (by dsimp only; omega) rfl (fun w h => h.pick [0,0,0,0] rfl)
         refine k_op 11 rfl ?_
         refine g_val (v := .bool true) rfl rfl rfl (y_val (y_ldB (i := i) (j := j) 1 rfl Try.isAgg4 rfl (gt_at (by omega)) (by omega)) (by rw [hc])) ?_
         refine n_ ?_
         refine k_end (fun _ h => h.pick [] rfl) ?_
         refine k_x 12 [] [] hQ (by kernel_rfl) rfl rfl rfl rfl rfl rfl ?_
         refine k_no 13 [] hQ (by kernel_rfl) rfl rfl rfl rfl rfl ?_
         refine k_no 14 [] hQ (by kernel_rfl) rfl rfl rfl rfl rfl ?_
         refine k_no 15 [] hQ (by kernel_rfl) rfl rfl rfl rfl rfl ?_
         refine k_no 16 [] hQ (by kernel_rfl) rfl rfl rfl rfl rfl ?_
         refine k_no 17 [] hQ (by kernel_rfl) rfl rfl rfl rfl rfl ?_
         refine k_no 18 [] hQ (by kernel_rfl) rfl rfl rfl rfl rfl ?_
         refine k_no 19 [] hQ (by kernel_rfl) rfl rfl rfl rfl rfl ?_
         refine k_x 20 [] [] hQ (by kernel_rfl) rfl rfl rfl rfl rfl rfl ?_
         refine k_one 3 (by kernel_rfl) ?_
         refine k_op 3 rfl ?_
         refine g_val (v := slW (n + 1) (T.gs.getD i 0)) rfl rfl rfl (y_ldR (off := i) 0 rfl Try.isAgg75 rfl (gt_get (n := n + 1) (by omega))) ?_
         refine n_ ?_
         refine k_end (fun _ h => h.pick [] rfl) ?_
         refine k_take (v := .pointer (some ⟨T.gs.getD i 0, j, none⟩)) 21 rfl (by kernel_rfl) hQ rfl rfl rfl (fun _ h => h.pick [] rfl) (y_idxAddr (m := j) rfl rfl Try.underlying75 Try.sizeOf4 (by omega) (by omega) (by omega)) ?_
         refine k_one 22 (by kernel_rfl) ?_
         refine k_op 22 rfl ?_
         refine g_stB (i := i) (j := j) 1 rfl rfl rfl Try.sizeOf4 rfl (gt_at (by omega)) (by omega) ?_
         simp only [List.set_cons_zero, List.set_cons_succ]
         refine n_ ?_
         refine k_end (fun _ h => h.pick [] rfl) ?_
         refine k_done (by kernel_rfl) ?_
         refine g_in_normal (t_ (o_ ?_))
         refine xg 3 [] rfl (by omega) ?_
         refine n_ ?_
         refine g_brsEq (d := (rpQ (rep n a (n + 1) lo1 (max hi1 (-1))) a (RP n a (max (lo1 - 1) 0) (max (hi1 - 1) (min hi1 0))) (decide (lo1 = 0) || a i i) i m (j + 1))) 1 rfl (fun p r hp hr => rp_step hmj ha (by rw [hc]; rfl)) ?_
         simp only [List.set_cons_zero, List.set_cons_succ]
         exact g_again ⟨j + 1, by omega, by omega⟩ [0, 1, 2, 7, 8, 9, 10, 11, 12] (by dsimp only; omega) rfl (fun w h => h.pick [0,0,0,0] rfl)
        refine g_cond_f rfl (g_exit (g_then_exit (g_then_exit (g_in_exit (g_in_normal (t_ (o_ ?_)))))))
        refine xg 3 [] rfl (by omega) ?_
        refine n_ ?_
        refine g_brsEq (d := (rpQ (rep n a (n + 1) lo1 (max hi1 (-1))) a (RP n a (max (lo1 - 1) 0) (max (hi1 - 1) (min hi1 0))) (decide (lo1 = 0) || a i i) i (m + 1) (m + 1))) 1 rfl (fun p r hp hr => rp_next (by omega) (fun r h => (RP_ups hK m r (by omega) h).1) (by first | exact .inl (by omega) | (right; simpa using ‹_›)) hr) ?_
        simp only [List.set_cons_zero, List.set_cons_succ]
        exact g_again ⟨m + 1, by omega, by omega, by omega⟩ [0, 1, 2, 7, 8, 9, 10, 11] (by dsimp only; omega) rfl (fun w h => h.pick [0,0,0,0] rfl)
       refine xg 8 [] rfl rfl ?_
       refine n_ (t_ (g_cond_f rfl (g_exit (g_then_exit (g_then_exit (g_in_exit (g_in_normal (t_ (o_ ?_)))))))))
       refine xg 3 [] rfl (by omega) ?_
       refine n_ ?_
       refine g_brsEq (d := (rpQ (rep n a (n + 1) lo1 (max hi1 (-1))) a (RP n a (max (lo1 - 1) 0) (max (hi1 - 1) (min hi1 0))) (decide (lo1 = 0) || a i i) i (m + 1) (m + 1))) 1 rfl (fun p r hp hr => rp_next (by omega) (fun r h => (RP_ups hK m r (by omega) h).1) (by first | exact .inl (by omega) | (right; simpa using ‹_›)) hr) ?_
       simp only [List.set_cons_zero, List.set_cons_succ]
       exact g_again ⟨m + 1, by omega, by omega, by omega⟩ [0, 1, 2, 7, 8, 9, 10, 11] (by dsimp only; omega) rfl (fun w h => h.pick [0,0,0,0] rfl)
      refine g_cond_f rfl (g_exit (g_then_exit (g_then_exit (g_in_exit (g_in_normal (t_ (o_ ?_)))))))
      refine xg 3 [] rfl (by omega) ?_
      refine n_ ?_
      refine g_brsEq (d := (rpS (rep n a (n + 1) lo1 (max hi1 (-1))) i)) 1 rfl (fun p r hp hr => rp_row (by omega) (by omega) (by omega) rfl rfl rfl (by omega) (by intro _; split <;> omega) (by omega) hr) ?_
      simp only [List.set_cons_zero, List.set_cons_succ]
      exact g_again ⟨i, by omega⟩ [0, 1, 2, 7, 8, 9, 10] (by dsimp only; omega) rfl (fun w h => h.pick [0,0,0,0] rfl)
     refine xg 3 [] rfl rfl ?_
     refine n_ (t_ (g_cond_f rfl (g_exit (g_then_exit (g_then_exit (g_in_exit (g_in_normal (t_ (o_ ?_)))))))))
     refine xg 3 [] rfl (by omega) ?_
     refine n_ ?_
     refine g_brsEq (d := (rpS (rep n a (n + 1) lo1 (max hi1 (-1))) i)) 1 rfl (fun p r hp hr => rp_row (by omega) (by omega) (by omega) rfl rfl rfl (by omega) (by intro _; split <;> omega) (by omega) hr) ?_
     simp only [List.set_cons_zero, List.set_cons_succ]
     exact g_again ⟨i, by omega⟩ [0, 1, 2, 7, 8, 9, 10] (by dsimp only; omega) rfl (fun w h => h.pick [0,0,0,0] rfl)
    refine g_cond_f rfl (g_exit (g_then_exit (g_then_exit (g_in_exit (t_ (s_ ?_))))))
    refine g_brsEq (d := (RP n a lo hi)) 1 rfl (fun p r hp hr => (by obtain rfl : x = 0 := (by omega); rw [rp_done]; unfold RP; rw [← hlo1, show min (max hi (-1)) ((n : Int) + 1) = max hi1 (-1) by omega])) ?_
    simp only [List.set_cons_zero, List.set_cons_succ]
    refine o_ ?_
    refine xg 2 [] rfl rfl ?_
    refine n_ (t_ (g_ret ?_))
    refine g_end1 Try.results52 rfl ?_
    exact fun w hS => ⟨⟨T, hgT⟩, rfl, hS.pick [0,0] rfl⟩
   refine xg 3 [0] rfl rfl ?_
   refine n_ (t_ ?_)
   refine g_casep 36 rfl (fun h7 => ?_) fun h7 => ?_
   ·refine g_cond_t rfl (o_ ?_)
    refine xg 3 [] rfl (by omega) ?_
    refine g_val (v := .int .i64 (max (lo1 - 1) 0)) rfl rfl rfl (y_maxi rfl rfl) ?_
    refine xg 1 [] rfl rfl ?_
    refine g_c1 (m_fewer hi1 (by omega)) any_I rfl rfl rfl ?_
    refine g_callOwn (L0 := []) (fun y : {y : TbX // y.gs.length = n + 1} => y.1.v (n + 1)) (fun y => [y.1.o (n + 1), .brs y.1.gs (n + 1) (RP n a (max (lo1 - 1) 0) (max (hi1 - 1) (min hi1 0)))]) rfl rfl rfl Try.call52 (fun w hS => ih (max (lo1 - 1) 0) (max (hi1 - 1) (min hi1 0)) (by omega) (by omega) w (hA.keep hS)) ?_
    rintro ⟨Xn, hgXn⟩
    dsimp only
    simp only [List.cons_append, List.nil_append]
    refine xg 1 [] rfl rfl ?_
    refine n_ (t_ (s_ (s_ ?_)))
    refine g_brsEq (d := (rpS (rep n a (n + 1) lo1 (max hi1 (-1))) (n + 1))) 3 rfl (fun p r hp hr => (rp_zero (by omega)).symm) ?_
    simp only [List.set_cons_zero, List.set_cons_succ]
    refine o_ ?_
    refine xg 2 [] rfl rfl ?_
    refine n_ (t_ (g_block ?_))
    refine g_eqv 10 (.int .i64 (((n + 1 : Nat) : Int) - 1)) rfl (by congr 1; omega) ?_
    refine g_loop (α := {x : Nat // x ≤ n + 1}) (fun x => [(0, A.v (n + 1)), (1, .int .i64 lo1), (2, .int .i64 hi1), (7, .int .i64 (n : Int)), (8, T.v (n + 1)), (9, Xn.v (n + 1)), (10, .int .i64 ((x.1 : Int) - 1))]) (fun x => St w [] [T.o (n + 1), .brs T.gs (n + 1) (rpS (rep n a (n + 1) lo1 (max hi1 (-1))) x.1), Xn.o (n + 1), .brs Xn.gs (n + 1) (RP n a (max (lo1 - 1) 0) (max (hi1 - 1) (min hi1 0)))]) (fun x => x.1) ⟨n + 1, Nat.le_refl _⟩ [0, 1, 2, 7, 8, 9, 10] rfl (fun w h => h.pick [2,2,0,0] rfl) ?_
    rintro ⟨x, hx⟩
    dsimp only
    refine s_ (s_ (o_ ?_))
    refine xg 2 [0] rfl rfl ?_
    refine n_ (t_ ?_)
    refine g_casep 46 rfl (fun h8 => ?_) fun h8 => ?_
    ·refine g_cond_t rfl (g_skip (t_ (s_ (g_block (s_ ?_)))))
     obtain ⟨i, rfl⟩ : ∃ i, x = i + 1 := ⟨x - 1, by omega⟩
     refine g_eqv 10 (.int .i64 (i : Int)) rfl (by congr 1; omega) ?_
     refine k_go [0] rfl (by kernel_rfl) (fun _ _ _ _ _ h => h) fun hQ => ?_
     refine k_x 0 [0] [] hQ (by kernel_rfl) rfl rfl rfl rfl rfl rfl ?_
     refine k_x 1 [0] [] hQ (by kernel_rfl) rfl rfl rfl rfl rfl rfl ?_
     refine k_take (v := .pointer (some ⟨T.tb, i, none⟩)) 2 rfl (by kernel_rfl) hQ rfl rfl rfl (fun _ h => h.pick [0] rfl) (y_idxAddr (m := i) rfl rfl Try.underlying73 Try.sizeOf75 (by omega) (by omega) (by omega)) ?_
     refine k_take (v := slW (n + 1) (T.gs.getD i 0)) 3 rfl (by kernel_rfl) hQ rfl rfl rfl (fun _ h => h.pick [0] rfl) (y_ldR (off := i) 0 rfl Try.isAgg75 rfl (gt_get (n := n + 1) (by omega))) ?_
     refine k_x 4 [0] [] hQ (by kernel_rfl) rfl rfl rfl rfl rfl rfl ?_
     refine k_x 5 [0] [] hQ (by kernel_rfl) rfl rfl rfl rfl rfl rfl ?_
     refine k_xc 6 [0] [1] hQ (by kernel_rfl) rfl rfl rfl rfl rfl rfl (by omega) ?_
     refine k_x 7 [0] [] hQ (by kernel_rfl) rfl rfl rfl rfl rfl rfl ?_
     refine k_no 8 [0] hQ (by kernel_rfl) rfl rfl rfl rfl rfl ?_
     refine k_no 9 [0] hQ (by kernel_rfl) rfl rfl rfl rfl rfl ?_
     refine k_no 10 [0] hQ (by kernel_rfl) rfl rfl rfl rfl rfl ?_
     refine k_no 11 [0] hQ (by kernel_rfl) rfl rfl rfl rfl rfl ?_
     refine k_no 12 [0] hQ (by kernel_rfl) rfl rfl rfl rfl rfl ?_
     refine k_no 13 [0] hQ (by kernel_rfl) rfl rfl rfl rfl rfl ?_
     refine k_no 14 [0] hQ (by kernel_rfl) rfl rfl rfl rfl rfl ?_
     refine k_x 15 [0] [] hQ (by kernel_rfl) rfl rfl rfl rfl rfl rfl ?_
     refine k_take (v := .pointer (some ⟨T.gs.getD i 0, i, none⟩)) 16 rfl (by kernel_rfl) hQ rfl rfl rfl (fun _ h => h.pick [0] rfl) (y_idxAddr (m := i) rfl rfl Try.underlying75 Try.sizeOf4 (by omega) (by omega) (by omega)) ?_
     refine k_one 17 (by kernel_rfl) ?_
     refine k_op 17 rfl ?_
     refine g_stB (i := i) (j := i) 1 rfl rfl rfl Try.sizeOf4 rfl (gt_at (by omega)) (by omega) ?_
     simp only [List.set_cons_zero, List.set_cons_succ]
     refine n_ ?_
     refine k_end (fun _ h => h.pick [0] rfl) ?_
     refine k_done (by kernel_rfl) ?_
     refine t_ (s_ ?_)
     refine g_brsEq (d := (rpQ (rep n a (n + 1) lo1 (max hi1 (-1))) a (RP n a (max (lo1 - 1) 0) (max (hi1 - 1) (min hi1 0))) (decide (lo1 = 0) || a i i) i (i + 1) (i + 1))) 1 rfl (fun p r hp hr => rp_diag (by rw [decide_eq_true (show lo1 = 0 by omega), Bool.true_or])) ?_
     simp only [List.set_cons_zero, List.set_cons_succ]
     refine o_ ?_
     refine xg 3 [] rfl (by omega) ?_
     refine n_ (t_ (g_block ?_))
     refine g_loop (α := {x : Nat // i + 1 ≤ x ∧ x ≤ n + 1 ∧ (hi1 = 0 → x = i + 1)}) (fun x => [(0, A.v (n + 1)), (1, .int .i64 lo1), (2, .int .i64 hi1), (7, .int .i64 (n : Int)), (8, T.v (n + 1)), (9, Xn.v (n + 1)), (10, .int .i64 (i : Int)), (11, .int .i64 (x.1 : Int))]) (fun x => St w [] [T.o (n + 1), .brs T.gs (n + 1) (rpQ (rep n a (n + 1) lo1 (max hi1 (-1))) a (RP n a (max (lo1 - 1) 0) (max (hi1 - 1) (min hi1 0))) (decide (lo1 = 0) || a i i) i x.1 x.1), Xn.o (n + 1), .brs Xn.gs (n + 1) (RP n a (max (lo1 - 1) 0) (max (hi1 - 1) (min hi1 0)))]) (fun x => n + 1 - x.1) ⟨i + 1, by omega, by omega, by omega⟩ [0, 1, 2, 7, 8, 9, 10, 11] rfl (fun w h => h.pick [0,0,0,0] rfl) ?_
     rintro ⟨m, hm1, hm2, hm3⟩
     dsimp only
     refine s_ (s_ (o_ ?_))
     refine xg 4 [0] rfl rfl ?_
     refine g_casep 71 rfl (fun h9 => ?_) fun h9 => ?_
     ·refine xg 3 [1] rfl (by omega) ?_
      refine n_ (t_ (g_cond_t rfl (g_skip (t_ (s_ (g_block (s_ (o_ ?_))))))))
      refine xg 2 [] rfl rfl ?_
      refine n_ (t_ (g_block ?_))
      refine g_loop (α := {x : Nat // m ≤ x ∧ x ≤ n + 1}) (fun x => [(0, A.v (n + 1)), (1, .int .i64 lo1), (2, .int .i64 hi1), (7, .int .i64 (n : Int)), (8, T.v (n + 1)), (9, Xn.v (n + 1)), (10, .int .i64 (i : Int)), (11, .int .i64 (m : Int)), (12, .int .i64 (x.1 : Int))]) (fun x => St w [] [T.o (n + 1), .brs T.gs (n + 1) (rpQ (rep n a (n + 1) lo1 (max hi1 (-1))) a (RP n a (max (lo1 - 1) 0) (max (hi1 - 1) (min hi1 0))) (decide (lo1 = 0) || a i i) i m x.1), Xn.o (n + 1), .brs Xn.gs (n + 1) (RP n a (max (lo1 - 1) 0) (max (hi1 - 1) (min hi1 0)))]) (fun x => n + 1 - x.1) ⟨m, by omega, by omega⟩ [0, 1, 2, 7, 8, 9, 10, 11, 12] rfl (fun w h => h.pick [0,0,0,0] rfl) ?_
      rintro ⟨j, hmj, hj⟩
      dsimp only
      refine s_ (s_ (o_ ?_))
      refine xg 4 [0] rfl rfl ?_
      refine g_casep 81 rfl (fun h10 => ?_) fun h10 => ?_
      ·refine xg 2 [] rfl rfl ?_
       refine g_val (v := .pointer (some ⟨A.tb, i, none⟩)) rfl rfl rfl (y_idxAddr (m := i) rfl rfl Try.underlying73 Try.sizeOf75 (by omega) (by omega) (by omega)) ?_
       refine g_val (v := slW (n + 1) (A.gs.getD i 0)) rfl rfl rfl (y_rtO (i := i) hA List.not_mem_nil rfl Try.isAgg75 (by omega)) ?_
       refine xg 1 [] rfl rfl ?_
       refine g_val (v := .pointer (some ⟨A.gs.getD i 0, m, none⟩)) rfl rfl rfl (y_idxAddr (m := m) rfl rfl Try.underlying75 Try.sizeOf4 (by omega) (by omega) (by omega)) ?_
       refine g_val (v := .bool (a i m)) rfl rfl rfl (y_rtI (i := i) (j := m) hA List.not_mem_nil rfl Try.isAgg4 (by omega) (by omega)) ?_
       refine xg 1 [] rfl rfl ?_
       refine n_ (t_ ?_)
       first | refine g_casep 89 rfl (fun h11 => ?_) fun h11 => ?_ | refine g_caseb 89 rfl (fun h11 => ?_) fun h11 => ?_
       ·refine g_cond_t rfl (g_skip (t_ (s_ (g_block (s_ (o_ ?_))))))
        refine xg 6 [1,2] rfl (by omega) ?_
        refine n_ (t_ (g_cond_f rfl ?_))
        have ha : a i m = true := by simpa using ‹a i m = true›
        cases hc : rpQ (rep n a (n + 1) lo1 (max hi1 (-1))) a (RP n a (max (lo1 - 1) 0) (max (hi1 - 1) (min hi1 0))) (decide (lo1 = 0) || a i i) i m j i j
        ·refine k_go [0,1,1] rfl (by kernel_rfl) (fun _ _ _ _ _ h => h) fun hQ => ?_
         refine k_x 0 [0,1,1] [] hQ (by kernel_rfl) rfl rfl rfl rfl rfl rfl ?_
         refine k_x 1 [0,1,1] [] hQ (by kernel_rfl) rfl rfl rfl rfl rfl rfl ?_
         refine k_take (v := .pointer (some ⟨T.tb, i, none⟩)) 2 rfl (by kernel_rfl) hQ rfl rfl rfl (fun _ h => h.pick [0,1,1] rfl) (y_idxAddr (m := i) rfl rfl Try.underlying73 Try.sizeOf75 (by omega) (by omega) (by omega)) ?_
         refine k_take (v := slW (n + 1) (T.gs.getD i 0)) 3 rfl (by kernel_rfl) hQ rfl rfl rfl (fun _ h => h.pick [0,1,1] rfl) (y_ldR (off := i) 0 rfl Try.isAgg75 rfl (gt_get (n := n + 1) (by omega))) ?_
         refine k_x 4 [0,1,1] [] hQ (by kernel_rfl) rfl rfl rfl rfl rfl rfl ?_
         refine k_x 5 [0,1,1] [] hQ (by kernel_rfl) rfl rfl rfl rfl rfl rfl ?_
         refine k_x 6 [0,1,1] [] hQ (by kernel_rfl) rfl rfl rfl rfl rfl rfl ?_
         refine k_take (v := .pointer (some ⟨T.tb, i, none⟩)) 7 rfl (by kernel_rfl) hQ rfl rfl rfl (fun _ h => h.pick [0,1,1] rfl) (y_idxAddr (m := i) rfl rfl Try.underlying73 Try.sizeOf75 (by omega) (by omega) (by omega)) ?_
         refine k_take (v := slW (n + 1) (T.gs.getD i 0)) 8 rfl (by kernel_rfl) hQ rfl rfl rfl (fun _ h => h.pick [0,1,1] rfl) (y_ldR (off := i) 0 rfl Try.isAgg75 rfl (gt_get (n := n + 1) (by omega))) ?_
         refine k_x 9 [0,1,1] [] hQ (by kernel_rfl) rfl rfl rfl rfl rfl rfl ?_
         refine k_take (v := .pointer (some ⟨T.gs.getD i 0, j, none⟩)) 10 rfl (by kernel_rfl) hQ rfl rfl rfl (fun _ h => h.pick [0,1,1] rfl) (y_idxAddr (m := j) rfl rfl Try.underlying75 Try.sizeOf4 (by omega) (by omega) (by omega)) ?_
         refine k_one 11 (by kernel_rfl) ?_
         refine k_op 11 rfl ?_
         refine g_val (v := .bool false) rfl rfl rfl (y_val (y_ldB (i := i) (j := j) 1 rfl Try.isAgg4 rfl (gt_at (by omega)) (by omega)) (by rw [hc])) ?_
         refine n_ ?_
         refine k_end (fun _ h => h.pick [0,1,1] rfl) ?_
         refine k_x 12 [0,1,1] [] hQ (by kernel_rfl) rfl rfl rfl rfl rfl rfl ?_
         refine k_x 13 [0,1,1] [] hQ (by kernel_rfl) rfl rfl rfl rfl rfl rfl ?_
         refine k_x 14 [0,1,1] [] hQ (by kernel_rfl) rfl rfl rfl rfl rfl rfl ?_
         refine k_take (v := .pointer (some ⟨Xn.tb, m, none⟩)) 15 rfl (by kernel_rfl) hQ rfl rfl rfl (fun _ h => h.pick [0,1,1] rfl) (y_idxAddr (m := m) rfl rfl Try.underlying73 Try.sizeOf75 (by omega) (by omega) (by omega)) ?_
         refine k_take (v := slW (n + 1) (Xn.gs.getD m 0)) 16 rfl (by kernel_rfl) hQ rfl rfl rfl (fun _ h => h.pick [0,1,1] rfl) (y_ldR (off := m) 1 rfl Try.isAgg75 rfl (gt_get (n := n + 1) (by omega))) ?_
         refine k_x 17 [0,1,1] [] hQ (by kernel_rfl) rfl rfl rfl rfl rfl rfl ?_
         refine k_take (v := .pointer (some ⟨Xn.gs.getD m 0, j, none⟩)) 18 rfl (by kernel_rfl) hQ rfl rfl rfl (fun _ h => h.pick [0,1,1] rfl) (y_idxAddr (m := j) rfl rfl Try.underlying75 Try.sizeOf4 (by omega) (by omega) (by omega)) ?_
         refine k_take (v := .bool ((RP n a (max (lo1 - 1) 0) (max (hi1 - 1) (min hi1 0))) m j)) 19 rfl (by kernel_rfl) hQ rfl rfl rfl (fun _ h => h.pick [0,1,1] rfl) (y_ldB (i := m) (j := j) 2 rfl Try.isAgg4 rfl (gt_at (by omega)) (by omega)) ?_
         refine k_x 20 [0,1,1] [] hQ (by kernel_rfl) rfl rfl rfl rfl rfl rfl ?_
         refine k_take (v := .pointer (some ⟨T.gs.getD i 0, j, none⟩)) 21 rfl (by kernel_rfl) hQ rfl rfl rfl (fun _ h => h.pick [0,1,1] rfl) (y_idxAddr (m := j) rfl rfl Try.underlying75 Try.sizeOf4 (by omega) (by omega) (by omega)) ?_
         refine k_one 22 (by kernel_rfl) ?_
         refine k_op 22 rfl ?_
         refine g_stB (i := i) (j := j) 1 rfl rfl rfl Try.sizeOf4 rfl (gt_at (by omega)) (by omega) ?_
         simp only [List.set_cons_zero, List.set_cons_succ]
         refine n_ ?_
         refine k_end (fun _ h => h.pick [0,1,1] rfl) ?_
         refine k_done (by kernel_rfl) ?_
         refine g_in_normal (t_ (o_ ?_))
         refine xg 3 [] rfl (by omega) ?_
         refine n_ ?_
         refine g_brsEq (d := (rpQ (rep n a (n + 1) lo1 (max hi1 (-1))) a (RP n a (max (lo1 - 1) 0) (max (hi1 - 1) (min hi1 0))) (decide (lo1 = 0) || a i i) i m (j + 1))) 1 rfl (fun p r hp hr => rp_step hmj ha (by rw [hc]; rw [Bool.false_or])) ?_
         simp only [List.set_cons_zero, List.set_cons_succ]
         exact g_again ⟨j + 1, by omega, by omega⟩ [0, 1, 2, 7, 8, 9, 10, 11, 12] (by dsimp only; omega) rfl (fun w h => h.pick [0,0,0,0] rfl)
        refine k_go [] rfl (by kernel_rfl) (fun _ _ _ _ _ h => h) fun hQ => ?_
        refine k_x 0 [] [] hQ (by kernel_rfl) rfl rfl rfl rfl rfl rfl ?_
        refine k_x 1 [] [] hQ (by kernel_rfl) rfl rfl rfl rfl rfl rfl ?_
        refine k_take (v := .pointer (some ⟨T.tb, i, none⟩)) 2 rfl (by kernel_rfl) hQ rfl rfl rfl (fun _ h => h.pick [] rfl) (y_idxAddr (m := i) rfl rfl Try.underlying73 Try.sizeOf75 (by omega) (by omega) (by omega)) ?_
        refine k_x 4 [] [] hQ (by kernel_rfl) rfl rfl rfl rfl rfl rfl ?_
        refine k_x 5 [] [] hQ (by kernel_rfl) rfl rfl rfl rfl rfl rfl ?_
        refine k_x 6 [] [] hQ (by kernel_rfl) rfl rfl rfl rfl rfl rfl ?_
        refine k_take (v := .pointer (some ⟨T.tb, i, none⟩)) 7 rfl (by kernel_rfl) hQ rfl rfl rfl (fun _ h => h.pick [] rfl) (y_idxAddr (m := i) rfl rfl Try.underlying73 Try.sizeOf75 (by omega) (by omega) (by omega)) ?_
        refine k_x 9 [] [] hQ (by kernel_rfl) rfl rfl rfl rfl rfl rfl ?_
        refine k_all [3,8] (by kernel_rfl) (by simp) ⟨?_, ?_, trivial⟩
        ·refine k_op 3 rfl ?_
         refine g_val (v := slW (n + 1) (T.gs.getD i 0)) rfl rfl rfl (y_ldR (off := i) 0 rfl Try.isAgg75 rfl (gt_get (n := n + 1) (by omega))) ?_
         refine n_ ?_
         refine k_end (fun _ h => h.pick [] rfl) ?_
         refine k_one 8 (by kernel_rfl) ?_
         refine k_op 8 rfl ?_
         refine g_val (v := slW (n + 1) (T.gs.getD i 0)) rfl rfl rfl (y_ldR (off := i) 0 rfl Try.isAgg75 rfl (gt_get (n := n + 1) (by omega))) ?_
         refine n_ ?_
         refine k_end (fun _ h => h.pick [] rfl) ?_
         refine k_take (v := .pointer (some ⟨T.gs.getD i 0, j, none⟩)) 10 rfl (by kernel_rfl) hQ rfl rfl rfl (fun _ h => h.pick [] rfl) (y_idxAddr (m := j) rfl rfl Try.underlying75 Try.sizeOf4 (by omega) (by omega) (by omega)) ?_
         refine k_one 11 (by kernel_rfl) ?_
         refine k_op 11 rfl ?_
         refine g_val (v := .bool true) rfl rfl rfl (y_val (y_ldB (i := i) (j := j) 1 rfl Try.isAgg4 rfl (gt_at (by omega)) (by omega)) (by rw [hc])) ?_
         refine n_ ?_
         refine k_end (fun _ h => h.pick [] rfl) ?_
         refine k_x 12 [] [] hQ (by kernel_rfl) rfl rfl rfl rfl rfl rfl ?_
         refine k_no 13 [] hQ (by kernel_rfl) rfl rfl rfl rfl rfl ?_
         refine k_no 14 [] hQ (by kernel_rfl) rfl rfl rfl rfl rfl ?_
         refine k_no 15 [] hQ (by kernel_rfl) rfl rfl rfl rfl rfl ?_
         refine k_no 16 [] hQ (by kernel_rfl) rfl rfl rfl rfl rfl ?_
         refine k_no 17 [] hQ (by kernel_rfl) rfl rfl rfl rfl rfl ?_
         refine k_no 18 [] hQ (by kernel_rfl) rfl rfl rfl rfl rfl ?_
         refine k_no 19 [] hQ (by kernel_rfl) rfl rfl rfl rfl rfl ?_
         refine k_x 20 [] [] hQ (by kernel_rfl) rfl rfl rfl rfl rfl rfl ?_
         refine k_take (v := .pointer (some ⟨T.gs.getD i 0, j, none⟩)) 21 rfl (by kernel_rfl) hQ rfl rfl rfl (fun _ h => h.pick [] rfl) (y_idxAddr (m := j) rfl rfl Try.underlying75 Try.sizeOf4 (by omega) (by omega) (by omega)) ?_
         refine k_one 22 (by kernel_rfl) ?_
         refine k_op 22 rfl ?_
         refine g_stB (i := i) (j := j) 1 rfl rfl rfl Try.sizeOf4 rfl (gt_at (by omega)) (by omega) ?_
         simp only [List.set_cons_zero, List.set_cons_succ]
         refine n_ ?_
         refine k_end (fun _ h => h.pick [] rfl) ?_
         refine k_done (by kernel_rfl) ?_
         refine g_in_normal (t_ (o_ ?_))
         refine xg 3 [] rfl (by omega) ?_
         refine n_ ?_
         refine g_brsEq (d := (rpQ (rep n a (n + 1) lo1 (max hi1 (-1))) a (RP n a (max (lo1 - 1) 0) (max (hi1 - 1) (min hi1 0))) (decide (lo1 = 0) || a i i) i m (j + 1))) 1 rfl (fun p r hp hr => rp_step hmj ha (by rw [hc]; rfl)) ?_
         simp only [List.set_cons_zero, List.set_cons_succ]
         exact g_again ⟨j + 1, by omega, by omega⟩ [0, 1, 2, 7, 8, 9, 10, 11, 12] (by dsimp only; omega) rfl (fun w h => h.pick [0,0,0,0] rfl)
        refine k_op 8 rfl ?_
        refine g_val (v := slW (n + 1) (T.gs.getD i 0)) rfl rfl rfl (y_ldR (off := i) 0 rfl Try.isAgg75 rfl (gt_get (n := n + 1) (by omega))) ?_
        refine n_ ?_
        refine k_end (fun _ h => h.pick [] rfl) ?_
        refine k_take (v := .pointer (some ⟨T.gs.getD i 0, j, none⟩)) 10 rfl (by kernel_rfl) hQ rfl rfl rfl (fun _ h => h.pick [] rfl) (y_idxAddr (m := j) rfl rfl Try.underlying75 Try.sizeOf4 (by omega) (by omega) (by omega)) ?_
        refine k_all [3,11] (by kernel_rfl) (by simp) ⟨?_, ?_, trivial⟩
        ·refine k_op 3 rfl ?_
         refine g_val (v := slW (n + 1) (T.gs.getD i 0)) rfl rfl rfl (y_ldR (off := i) 0 rfl Try.isAgg75 rfl (gt_get (n := n + 1) (by omega))) ?_
         refine n_ ?_
         refine k_end (fun _ h => h.pick [] rfl) ?_
         refine k_one 11 (by kernel_rfl) ?_
         refine k_op 11 rfl ?_
         refine g_val (v := .bool true) rfl rfl rfl (y_val (y_ldB (i := i) (j := j) 1 rfl Try.isAgg4 rfl (gt_at (by omega)) (by omega)) (by rw [hc])) ?_
         refine n_ ?_
         refine k_end (fun _ h => h.pick [] rfl) ?_
         refine k_x 12 [] [] hQ (by kernel_rfl) rfl rfl rfl rfl rfl rfl ?_
         refine k_no 13 [] hQ (by kernel_rfl) rfl rfl rfl rfl rfl ?_
         refine k_no 14 [] hQ (by kernel_rfl) rfl rfl rfl rfl rfl ?_
         refine k_no 15 [] hQ (by kernel_rfl) rfl rfl rfl rfl rfl ?_
         refine k_no 16 [] hQ (by kernel_rfl) rfl rfl rfl rfl rfl ?_
         refine k_no 17 [] hQ (by kernel_rfl) rfl rfl rfl rfl rfl ?_
         refine k_no 18 [] hQ (by kernel_rfl) rfl rfl rfl rfl rfl ?_
         refine k_no 19 [] hQ (by kernel_rfl) rfl rfl rfl rfl rfl ?_
         refine k_x 20 [] [] hQ (by kernel_rfl) rfl rfl rfl rfl rfl rfl ?_
         refine k_take (v := .pointer (some ⟨T.gs.getD i 0, j, none⟩)) 21 rfl (by kernel_rfl) hQ rfl rfl rfl (fun _ h => h.pick [] rfl) (y_idxAddr (m := j) rfl rfl Try.underlying75 Try.sizeOf4 (by omega) (by omega) (by omega)) ?_
         refine k_one 22 (by kernel_rfl) ?_
         refine k_op 22 rfl ?_
         refine g_stB (i := i) (j := j) 1 rfl rfl rfl Try.sizeOf4 rfl (gt_at (by omega)) (by omega) ?_
         simp only [List.set_cons_zero, List.set_cons_succ]
         refine n_ ?_
         refine k_end (fun _ h => h.pick [] rfl) ?_
         refine k_done (by kernel_rfl) ?_
         refine g_in_normal (t_ (o_ ?_))
         refine xg 3 [] rfl (by omega) ?_
         refine n_ ?_
         refine g_brsEq (d := (rpQ (rep n a (n + 1) lo1 (max hi1 (-1))) a (RP n a (max (lo1 - 1) 0) (max (hi1 - 1) (min hi1 0))) (decide (lo1 = 0) || a i i) i m (j + 1))) 1 rfl (fun p r hp hr => rp_step hmj ha (by rw [hc]; rfl)) ?_
         simp only [List.set_cons_zero, List.set_cons_succ]
         exact g_again ⟨j + 1, by omega, by omega⟩ [0, 1, 2, 7, 8, 9, 10, 11, 12] (by dsimp only; omega) rfl (fun w h => h.pick [0,0,0,0] rfl)
        refine k_op 11 rfl ?_
        refine g_val (v := .bool true) rfl rfl rfl (y_val (y_ldB (i := i) (j := j) 1 rfl Try.isAgg4 rfl (gt_at (by omega)) (by omega)) (by rw [hc])) ?_
        refine n_ ?_
        refine k_end (fun _ h => h.pick [] rfl) ?_
        refine k_x 12 [] [] hQ (by kernel_rfl) rfl rfl rfl rfl rfl rfl ?_
        refine k_no 13 [] hQ (by kernel_rfl) rfl rfl rfl rfl rfl ?_
        refine k_no 14 [] hQ (by kernel_rfl) rfl rfl rfl rfl rfl ?_
        refine k_no 15 [] hQ (by kernel_rfl) rfl rfl rfl rfl rfl ?_
        refine k_no 16 [] hQ (by kernel_rfl) rfl rfl rfl rfl rfl ?_
        refine k_no 17 [] hQ (by kernel_rfl) rfl rfl rfl rfl rfl ?_
        refine k_no 18 [] hQ (by kernel_rfl) rfl rfl rfl rfl rfl ?_
        refine k_no 19 [] hQ (by kernel_rfl) rfl rfl rfl rfl rfl ?_
        refine k_x 20 [] [] hQ (by kernel_rfl) rfl rfl rfl rfl rfl rfl ?_
        refine k_one 3 (by kernel_rfl) ?_
        refine k_op 3 rfl ?_
        refine g_val (v := slW (n + 1) (T.gs.getD i 0)) rfl rfl rfl (y_ldR (off := i) 0 rfl Try.isAgg75 rfl (gt_get (n := n + 1) (by omega))) ?_
        refine n_ ?_
        refine k_end (fun _ h => h.pick [] rfl) ?_
        refine k_take (v := .pointer (some ⟨T.gs.getD i 0, j, none⟩)) 21 rfl (by kernel_rfl) hQ rfl rfl rfl (fun _ h => h.pick [] rfl) (y_idxAddr (m := j) rfl rfl Try.underlying75 Try.sizeOf4 (by omega) (by omega) (by omega)) ?_
        refine k_one 22 (by kernel_rfl) ?_
        refine k_op 22 rfl ?_
        refine g_stB (i := i) (j := j) 1 rfl rfl rfl Try.sizeOf4 rfl (gt_at (by omega)) (by omega) ?_
        simp only [List.set_cons_zero, List.set_cons_succ]
        refine n_ ?_
        refine k_end (fun _ h => h.pick [] rfl) ?_
        refine k_done (by kernel_rfl) ?_
        refine g_in_normal (t_ (o_ ?_))
        refine xg 3 [] rfl (by omega) ?_
        refine n_ ?_
        refine g_brsEq (d := (rpQ (rep n a (n + 1) lo1 (max hi1 (-1))) a (RP n a (max (lo1 - 1) 0) (max (hi1 - 1) (min hi1 0))) (decide (lo1 = 0) || a i i) i m (j + 1))) 1 rfl (fun p r hp hr => rp_step hmj ha (by rw [hc]; rfl)) ?_
        simp only [List.set_cons_zero, List.set_cons_succ]
        exact g_again ⟨j + 1, by omega, by omega⟩ [0, 1, 2, 7, 8, 9, 10, 11, 12] (by dsimp only; omega) rfl (fun w h => h.pick [0,0,0,0] rfl)
       refine g_cond_f rfl (g_exit (g_then_exit (g_then_exit (g_in_exit (g_in_normal (t_ (o_ ?_)))))))
       refine xg 3 [] rfl (by omega) ?_
       refine n_ ?_
       refine g_brsEq (d := (rpQ (rep n a (n + 1) lo1 (max hi1 (-1))) a (RP n a (max (lo1 - 1) 0) (max (hi1 - 1) (min hi1 0))) (decide (lo1 = 0) || a i i) i (m + 1) (m + 1))) 1 rfl (fun p r hp hr => rp_next (by omega) (fun r h => (RP_ups hK m r (by omega) h).1) (by first | exact .inl (by omega) | (right; simpa using ‹_›)) hr) ?_
       simp only [List.set_cons_zero, List.set_cons_succ]
       exact g_again ⟨m + 1, by omega, by omega, by omega⟩ [0, 1, 2, 7, 8, 9, 10, 11] (by dsimp only; omega) rfl (fun w h => h.pick [0,0,0,0] rfl)
      refine xg 8 [] rfl rfl ?_
      refine n_ (t_ (g_cond_f rfl (g_exit (g_then_exit (g_then_exit (g_in_exit (g_in_normal (t_ (o_ ?_)))))))))
      refine xg 3 [] rfl (by omega) ?_
      refine n_ ?_
      refine g_brsEq (d := (rpQ (rep n a (n + 1) lo1 (max hi1 (-1))) a (RP n a (max (lo1 - 1) 0) (max (hi1 - 1) (min hi1 0))) (decide (lo1 = 0) || a i i) i (m + 1) (m + 1))) 1 rfl (fun p r hp hr => rp_next (by omega) (fun r h => (RP_ups hK m r (by omega) h).1) (by first | exact .inl (by omega) | (right; simpa using ‹_›)) hr) ?_
      simp only [List.set_cons_zero, List.set_cons_succ]
      exact g_again ⟨m + 1, by omega, by omega, by omega⟩ [0, 1, 2, 7, 8, 9, 10, 11] (by dsimp only; omega) rfl (fun w h => h.pick [0,0,0,0] rfl)
     refine xg 3 [] rfl rfl ?_
     refine n_ (t_ (g_cond_f rfl (g_exit (g_then_exit (g_then_exit (g_in_exit (g_in_normal (t_ (o_ ?_)))))))))
     refine xg 3 [] rfl (by omega) ?_
     refine n_ ?_
     refine g_brsEq (d := (rpS (rep n a (n + 1) lo1 (max hi1 (-1))) i)) 1 rfl (fun p r hp hr => rp_row (by omega) (by omega) (by omega) rfl rfl rfl (by omega) (by intro _; split <;> omega) (by omega) hr) ?_
     simp only [List.set_cons_zero, List.set_cons_succ]
     exact g_again ⟨i, by omega⟩ [0, 1, 2, 7, 8, 9, 10] (by dsimp only; omega) rfl (fun w h => h.pick [0,0,0,0] rfl)
    refine g_cond_f rfl (g_exit (g_then_exit (g_then_exit (g_in_exit (t_ (s_ ?_))))))
    refine g_brsEq (d := (RP n a lo hi)) 1 rfl (fun p r hp hr => (by obtain rfl : x = 0 := (by omega); rw [rp_done]; unfold RP; rw [← hlo1, show min (max hi (-1)) ((n : Int) + 1) = max hi1 (-1) by omega])) ?_
    simp only [List.set_cons_zero, List.set_cons_succ]
    refine o_ ?_
    refine xg 2 [] rfl rfl ?_
    refine n_ (t_ (g_ret ?_))
    refine g_end1 Try.results52 rfl ?_
    exact fun w hS => ⟨⟨T, hgT⟩, rfl, hS.pick [0,0] rfl⟩
   refine g_cond_f rfl (g_skip (t_ (s_ (s_ ?_))))
   refine g_brsEq (d := (rpS (rep n a (n + 1) lo1 (max hi1 (-1))) (n + 1))) 1 rfl (fun p r hp hr => (rp_zero (by omega)).symm) ?_
   simp only [List.set_cons_zero, List.set_cons_succ]
   refine o_ ?_
   refine xg 2 [] rfl rfl ?_
   refine n_ (t_ (g_block ?_))
   refine g_eqv 10 (.int .i64 (((n + 1 : Nat) : Int) - 1)) rfl (by congr 1; omega) ?_
   refine g_loop (α := {x : Nat // x ≤ n + 1}) (fun x => [(0, A.v (n + 1)), (1, .int .i64 lo1), (2, .int .i64 hi1), (7, .int .i64 (n : Int)), (8, T.v (n + 1)), (9, T.v (n + 1)), (10, .int .i64 ((x.1 : Int) - 1))]) (fun x => St w [] [T.o (n + 1), .brs T.gs (n + 1) (rpS (rep n a (n + 1) lo1 (max hi1 (-1))) x.1)]) (fun x => x.1) ⟨n + 1, Nat.le_refl _⟩ [0, 1, 2, 7, 8, 9, 10] rfl (fun w h => h.pick [0,0] rfl) ?_
   rintro ⟨x, hx⟩
   dsimp only
   refine s_ (s_ (o_ ?_))
   refine xg 2 [0] rfl rfl ?_
   refine n_ (t_ ?_)
   refine g_casep 46 rfl (fun h12 => ?_) fun h12 => ?_
   ·refine g_cond_t rfl (g_skip (t_ (s_ (g_block (s_ ?_)))))
    obtain ⟨i, rfl⟩ : ∃ i, x = i + 1 := ⟨x - 1, by omega⟩
    refine g_eqv 10 (.int .i64 (i : Int)) rfl (by congr 1; omega) ?_
    refine k_go [0] rfl (by kernel_rfl) (fun _ _ _ _ _ h => h) fun hQ => ?_
    refine k_x 0 [0] [] hQ (by kernel_rfl) rfl rfl rfl rfl rfl rfl ?_
    refine k_x 1 [0] [] hQ (by kernel_rfl) rfl rfl rfl rfl rfl rfl ?_
    refine k_take (v := .pointer (some ⟨T.tb, i, none⟩)) 2 rfl (by kernel_rfl) hQ rfl rfl rfl (fun _ h => h.pick [0] rfl) (y_idxAddr (m := i) rfl rfl Try.underlying73 Try.sizeOf75 (by omega) (by omega) (by omega)) ?_
    refine k_take (v := slW (n + 1) (T.gs.getD i 0)) 3 rfl (by kernel_rfl) hQ rfl rfl rfl (fun _ h => h.pick [0] rfl) (y_ldR (off := i) 0 rfl Try.isAgg75 rfl (gt_get (n := n + 1) (by omega))) ?_
    refine k_x 4 [0] [] hQ (by kernel_rfl) rfl rfl rfl rfl rfl rfl ?_
    refine k_x 5 [0] [] hQ (by kernel_rfl) rfl rfl rfl rfl rfl rfl ?_
    refine k_xc 6 [0] [1] hQ (by kernel_rfl) rfl rfl rfl rfl rfl rfl (by omega) ?_
    refine k_x 7 [0] [] hQ (by kernel_rfl) rfl rfl rfl rfl rfl rfl ?_
    refine k_no 8 [0] hQ (by kernel_rfl) rfl rfl rfl rfl rfl ?_
    refine k_no 9 [0] hQ (by kernel_rfl) rfl rfl rfl rfl rfl ?_
    refine k_no 10 [0] hQ (by kernel_rfl) rfl rfl rfl rfl rfl ?_
    refine k_no 11 [0] hQ (by kernel_rfl) rfl rfl rfl rfl rfl ?_
    refine k_no 12 [0] hQ (by kernel_rfl) rfl rfl rfl rfl rfl ?_
    refine k_no 13 [0] hQ (by kernel_rfl) rfl rfl rfl rfl rfl ?_
    refine k_no 14 [0] hQ (by kernel_rfl) rfl rfl rfl rfl rfl ?_
    refine k_x 15 [0] [] hQ (by kernel_rfl) rfl rfl rfl rfl rfl rfl ?_
    refine k_take (v := .pointer (some ⟨T.gs.getD i 0, i, none⟩)) 16 rfl (by kernel_rfl) hQ rfl rfl rfl (fun _ h => h.pick [0] rfl) (y_idxAddr (m := i) rfl rfl Try.underlying75 Try.sizeOf4 (by omega) (by omega) (by omega)) ?_
    refine k_one 17 (by kernel_rfl) ?_
    refine k_op 17 rfl ?_
    refine g_stB (i := i) (j := i) 1 rfl rfl rfl Try.sizeOf4 rfl (gt_at (by omega)) (by omega) ?_
    simp only [List.set_cons_zero, List.set_cons_succ]
    refine n_ ?_
    refine k_end (fun _ h => h.pick [0] rfl) ?_
    refine k_done (by kernel_rfl) ?_
    refine t_ (s_ ?_)
    refine g_brsEq (d := (rpQ (rep n a (n + 1) lo1 (max hi1 (-1))) a (rep n a (n + 1) lo1 (max hi1 (-1))) (decide (lo1 = 0) || a i i) i (i + 1) (i + 1))) 1 rfl (fun p r hp hr => rp_diag (by rw [decide_eq_true (show lo1 = 0 by omega), Bool.true_or])) ?_
    simp only [List.set_cons_zero, List.set_cons_succ]
    refine o_ ?_
    refine xg 3 [] rfl (by omega) ?_
    refine n_ (t_ (g_block ?_))
    refine g_loop (α := {x : Nat // i + 1 ≤ x ∧ x ≤ n + 1 ∧ (hi1 = 0 → x = i + 1)}) (fun x => [(0, A.v (n + 1)), (1, .int .i64 lo1), (2, .int .i64 hi1), (7, .int .i64 (n : Int)), (8, T.v (n + 1)), (9, T.v (n + 1)), (10, .int .i64 (i : Int)), (11, .int .i64 (x.1 : Int))]) (fun x => St w [] [T.o (n + 1), .brs T.gs (n + 1) (rpQ (rep n a (n + 1) lo1 (max hi1 (-1))) a (rep n a (n + 1) lo1 (max hi1 (-1))) (decide (lo1 = 0) || a i i) i x.1 x.1)]) (fun x => n + 1 - x.1) ⟨i + 1, by omega, by omega, by omega⟩ [0, 1, 2, 7, 8, 9, 10, 11] rfl (fun w h => h.pick [0,0] rfl) ?_
    rintro ⟨m, hm1, hm2, hm3⟩
    dsimp only
    refine s_ (s_ (o_ ?_))
    refine xg 4 [0] rfl rfl ?_
    refine g_casep 71 rfl (fun h13 => ?_) fun h13 => ?_
    ·refine xg 3 [0] rfl rfl ?_
     refine n_ (t_ ?_)
     refine g_casep 74 rfl (fun h14 => ?_) fun h14 => ?_
     ·refine g_cond_t rfl (g_skip (t_ (s_ (g_block (s_ (o_ ?_))))))
      refine xg 2 [] rfl rfl ?_
      refine n_ (t_ (g_block ?_))
      refine g_loop (α := {x : Nat // m ≤ x ∧ x ≤ n + 1}) (fun x => [(0, A.v (n + 1)), (1, .int .i64 lo1), (2, .int .i64 hi1), (7, .int .i64 (n : Int)), (8, T.v (n + 1)), (9, T.v (n + 1)), (10, .int .i64 (i : Int)), (11, .int .i64 (m : Int)), (12, .int .i64 (x.1 : Int))]) (fun x => St w [] [T.o (n + 1), .brs T.gs (n + 1) (rpQ (rep n a (n + 1) lo1 (max hi1 (-1))) a (rep n a (n + 1) lo1 (max hi1 (-1))) (decide (lo1 = 0) || a i i) i m x.1)]) (fun x => n + 1 - x.1) ⟨m, by omega, by omega⟩ [0, 1, 2, 7, 8, 9, 10, 11, 12] rfl (fun w h => h.pick [0,0] rfl) ?_
      rintro ⟨j, hmj, hj⟩
      dsimp only
      refine s_ (s_ (o_ ?_))
      refine xg 4 [0] rfl rfl ?_
      refine g_casep 81 rfl (fun h15 => ?_) fun h15 => ?_
      ·refine xg 2 [] rfl rfl ?_
       refine g_val (v := .pointer (some ⟨A.tb, i, none⟩)) rfl rfl rfl (y_idxAddr (m := i) rfl rfl Try.underlying73 Try.sizeOf75 (by omega) (by omega) (by omega)) ?_
       refine g_val (v := slW (n + 1) (A.gs.getD i 0)) rfl rfl rfl (y_rtO (i := i) hA List.not_mem_nil rfl Try.isAgg75 (by omega)) ?_
       refine xg 1 [] rfl rfl ?_
       refine g_val (v := .pointer (some ⟨A.gs.getD i 0, m, none⟩)) rfl rfl rfl (y_idxAddr (m := m) rfl rfl Try.underlying75 Try.sizeOf4 (by omega) (by omega) (by omega)) ?_
       refine g_val (v := .bool (a i m)) rfl rfl rfl (y_rtI (i := i) (j := m) hA List.not_mem_nil rfl Try.isAgg4 (by omega) (by omega)) ?_
       refine xg 1 [] rfl rfl ?_
       refine n_ (t_ ?_)
       first | refine g_casep 89 rfl (fun h16 => ?_) fun h16 => ?_ | refine g_caseb 89 rfl (fun h16 => ?_) fun h16 => ?_
       ·refine g_cond_t rfl (g_skip (t_ (s_ (g_block (s_ (o_ ?_))))))
        refine xg 6 [1,1] rfl (by omega) ?_
        refine n_ (t_ (g_cond_t rfl ?_))
        have ha : a i m = true := by simpa using ‹a i m = true›
        cases hc : rpQ (rep n a (n + 1) lo1 (max hi1 (-1))) a (rep n a (n + 1) lo1 (max hi1 (-1))) (decide (lo1 = 0) || a i i) i m j i j
        ·refine k_go [0] rfl (by kernel_rfl) (fun _ _ _ _ _ h => h) fun hQ => ?_
         refine k_x 0 [0] [] hQ (by kernel_rfl) rfl rfl rfl rfl rfl rfl ?_
         refine k_x 1 [0] [] hQ (by kernel_rfl) rfl rfl rfl rfl rfl rfl ?_
         refine k_take (v := .pointer (some ⟨T.tb, i, none⟩)) 2 rfl (by kernel_rfl) hQ rfl rfl rfl (fun _ h => h.pick [0] rfl) (y_idxAddr (m := i) rfl rfl Try.underlying73 Try.sizeOf75 (by omega) (by omega) (by omega)) ?_
         refine k_take (v := slW (n + 1) (T.gs.getD i 0)) 3 rfl (by kernel_rfl) hQ rfl rfl rfl (fun _ h => h.pick [0] rfl) (y_ldR (off := i) 0 rfl Try.isAgg75 rfl (gt_get (n := n + 1) (by omega))) ?_
         refine k_x 4 [0] [] hQ (by kernel_rfl) rfl rfl rfl rfl rfl rfl ?_
         refine k_x 5 [0] [] hQ (by kernel_rfl) rfl rfl rfl rfl rfl rfl ?_
         refine k_x 6 [0] [] hQ (by kernel_rfl) rfl rfl rfl rfl rfl rfl ?_
         refine k_take (v := .pointer (some ⟨T.tb, i, none⟩)) 7 rfl (by kernel_rfl) hQ rfl rfl rfl (fun _ h => h.pick [0] rfl) (y_idxAddr (m := i) rfl rfl Try.underlying73 Try.sizeOf75 (by omega) (by omega) (by omega)) ?_
         refine k_take (v := slW (n + 1) (T.gs.getD i 0)) 8 rfl (by kernel_rfl) hQ rfl rfl rfl (fun _ h => h.pick [0] rfl) (y_ldR (off := i) 0 rfl Try.isAgg75 rfl (gt_get (n := n + 1) (by omega))) ?_
         refine k_x 9 [0] [] hQ (by kernel_rfl) rfl rfl rfl rfl rfl rfl ?_
         refine k_take (v := .pointer (some ⟨T.gs.getD i 0, j, none⟩)) 10 rfl (by kernel_rfl) hQ rfl rfl rfl (fun _ h => h.pick [0] rfl) (y_idxAddr (m := j) rfl rfl Try.underlying75 Try.sizeOf4 (by omega) (by omega) (by omega)) ?_
         refine k_one 11 (by kernel_rfl) ?_
         refine k_op 11 rfl ?_
         refine g_val (v := .bool false) rfl rfl rfl (y_val (y_ldB (i := i) (j := j) 1 rfl Try.isAgg4 rfl (gt_at (by omega)) (by omega)) (by rw [hc])) ?_
         refine n_ ?_
         refine k_end (fun _ h => h.pick [0] rfl) ?_
         refine k_x 12 [0] [] hQ (by kernel_rfl) rfl rfl rfl rfl rfl rfl ?_
         refine k_x 13 [0] [] hQ (by kernel_rfl) rfl rfl rfl rfl rfl rfl ?_
         refine k_x 14 [0] [] hQ (by kernel_rfl) rfl rfl rfl rfl rfl rfl ?_
         refine k_take (v := .pointer (some ⟨T.tb, m, none⟩)) 15 rfl (by kernel_rfl) hQ rfl rfl rfl (fun _ h => h.pick [0] rfl) (y_idxAddr (m := m) rfl rfl Try.underlying73 Try.sizeOf75 (by omega) (by omega) (by omega)) ?_
         refine k_take (v := slW (n + 1) (T.gs.getD m 0)) 16 rfl (by kernel_rfl) hQ rfl rfl rfl (fun _ h => h.pick [0] rfl) (y_ldR (off := m) 0 rfl Try.isAgg75 rfl (gt_get (n := n + 1) (by omega))) ?_
         refine k_x 17 [0] [] hQ (by kernel_rfl) rfl rfl rfl rfl rfl rfl ?_
         refine k_take (v := .pointer (some ⟨T.gs.getD m 0, j, none⟩)) 18 rfl (by kernel_rfl) hQ rfl rfl rfl (fun _ h => h.pick [0] rfl) (y_idxAddr (m := j) rfl rfl Try.underlying75 Try.sizeOf4 (by omega) (by omega) (by omega)) ?_
         refine k_one 19 (by kernel_rfl) ?_
         refine k_op 19 rfl ?_
         refine g_val (v := .bool ((rpQ (rep n a (n + 1) lo1 (max hi1 (-1))) a (rep n a (n + 1) lo1 (max hi1 (-1))) (decide (lo1 = 0) || a i i) i m j) m j)) rfl rfl rfl (y_ldB (i := m) (j := j) 1 rfl Try.isAgg4 rfl (gt_at (by omega)) (by omega)) ?_
         refine n_ ?_
         refine k_end (fun _ h => h.pick [0] rfl) ?_
         refine k_x 20 [0] [] hQ (by kernel_rfl) rfl rfl rfl rfl rfl rfl ?_
         refine k_take (v := .pointer (some ⟨T.gs.getD i 0, j, none⟩)) 21 rfl (by kernel_rfl) hQ rfl rfl rfl (fun _ h => h.pick [0] rfl) (y_idxAddr (m := j) rfl rfl Try.underlying75 Try.sizeOf4 (by omega) (by omega) (by omega)) ?_
         refine k_one 22 (by kernel_rfl) ?_
         refine k_op 22 rfl ?_
         refine g_stB (i := i) (j := j) 1 rfl rfl rfl Try.sizeOf4 rfl (gt_at (by omega)) (by omega) ?_
         simp only [List.set_cons_zero, List.set_cons_succ]
         refine n_ ?_
         refine k_end (fun _ h => h.pick [0] rfl) ?_
         refine k_done (by kernel_rfl) ?_
         refine g_in_normal (t_ (o_ ?_))
         refine xg 3 [] rfl (by omega) ?_
         refine n_ ?_
         refine g_brsEq (d := (rpQ (rep n a (n + 1) lo1 (max hi1 (-1))) a (rep n a (n + 1) lo1 (max hi1 (-1))) (decide (lo1 = 0) || a i i) i m (j + 1))) 1 rfl (fun p r hp hr => rp_step hmj ha (by rw [hc]; rw [Bool.false_or, rp_below (by omega)])) ?_
         simp only [List.set_cons_zero, List.set_cons_succ]
         exact g_again ⟨j + 1, by omega, by omega⟩ [0, 1, 2, 7, 8, 9, 10, 11, 12] (by dsimp only; omega) rfl (fun w h => h.pick [0,0] rfl)
        refine k_go [] rfl (by kernel_rfl) (fun _ _ _ _ _ h => h) fun hQ => ?_
        refine k_x 0 [] [] hQ (by kernel_rfl) rfl rfl rfl rfl rfl rfl ?_
        refine k_x 1 [] [] hQ (by kernel_rfl) rfl rfl rfl rfl rfl rfl ?_
        refine k_take (v := .pointer (some ⟨T.tb, i, none⟩)) 2 rfl (by kernel_rfl) hQ rfl rfl rfl (fun _ h => h.pick [] rfl) (y_idxAddr (m := i) rfl rfl Try.underlying73 Try.sizeOf75 (by omega) (by omega) (by omega)) ?_
        refine k_x 4 [] [] hQ (by kernel_rfl) rfl rfl rfl rfl rfl rfl ?_
        refine k_x 5 [] [] hQ (by kernel_rfl) rfl rfl rfl rfl rfl rfl ?_
        refine k_x 6 [] [] hQ (by kernel_rfl) rfl rfl rfl rfl rfl rfl ?_
        refine k_take (v := .pointer (some ⟨T.tb, i, none⟩)) 7 rfl (by kernel_rfl) hQ rfl rfl rfl (fun _ h => h.pick [] rfl) (y_idxAddr (m := i) rfl rfl Try.underlying73 Try.sizeOf75 (by omega) (by omega) (by omega)) ?_
        refine k_x 9 [] [] hQ (by kernel_rfl) rfl rfl rfl rfl rfl rfl ?_
        refine k_all [3,8] (by kernel_rfl) (by simp) ⟨?_, ?_, trivial⟩
        ·refine k_op 3 rfl ?_
         refine g_val (v := slW (n + 1) (T.gs.getD i 0)) rfl rfl rfl (y_ldR (off := i) 0 rfl Try.isAgg75 rfl (gt_get (n := n + 1) (by omega))) ?_
         refine n_ ?_
         refine k_end (fun _ h => h.pick [] rfl) ?_
         refine k_one 8 (by kernel_rfl) ?_
         refine k_op 8 rfl ?_
         refine g_val (v := slW (n + 1) (T.gs.getD i 0)) rfl rfl rfl (y_ldR (off := i) 0 rfl Try.isAgg75 rfl (gt_get (n := n + 1) (by omega))) ?_
         refine n_ ?_
         refine k_end (fun _ h => h.pick [] rfl) ?_
         refine k_take (v := .pointer (some ⟨T.gs.getD i 0, j, none⟩)) 10 rfl (by kernel_rfl) hQ rfl rfl rfl (fun _ h => h.pick [] rfl) (y_idxAddr (m := j) rfl rfl Try.underlying75 Try.sizeOf4 (by omega) (by omega) (by omega)) ?_
         refine k_one 11 (by kernel_rfl) ?_
         refine k_op 11 rfl ?_
         refine g_val (v := .bool true) rfl rfl rfl (y_val (y_ldB (i := i) (j := j) 1 rfl Try.isAgg4 rfl (gt_at (by omega)) (by omega)) (by rw [hc])) ?_
         refine n_ ?_
         refine k_end (fun _ h => h.pick [] rfl) ?_
         refine k_x 12 [] [] hQ (by kernel_rfl) rfl rfl rfl rfl rfl rfl ?_
         refine k_no 13 [] hQ (by kernel_rfl) rfl rfl rfl rfl rfl ?_
         refine k_no 14 [] hQ (by kernel_rfl) rfl rfl rfl rfl rfl ?_
         refine k_no 15 [] hQ (by kernel_rfl) rfl rfl rfl rfl rfl ?_
         refine k_no 16 [] hQ (by kernel_rfl) rfl rfl rfl rfl rfl ?_
         refine k_no 17 [] hQ (by kernel_rfl) rfl rfl rfl rfl rfl ?_
         refine k_no 18 [] hQ (by kernel_rfl) rfl rfl rfl rfl rfl ?_
         refine k_no 19 [] hQ (by kernel_rfl) rfl rfl rfl rfl rfl ?_
         refine k_x 20 [] [] hQ (by kernel_rfl) rfl rfl rfl rfl rfl rfl ?_
         refine k_take (v := .pointer (some ⟨T.gs.getD i 0, j, none⟩)) 21 rfl (by kernel_rfl) hQ rfl rfl rfl (fun _ h => h.pick [] rfl) (y_idxAddr (m := j) rfl rfl Try.underlying75 Try.sizeOf4 (by omega) (by omega) (by omega)) ?_
         refine k_one 22 (by kernel_rfl) ?_
         refine k_op 22 rfl ?_
         refine g_stB (i := i) (j := j) 1 rfl rfl rfl Try.sizeOf4 rfl (gt_at (by omega)) (by omega) ?_
         simp only [List.set_cons_zero, List.set_cons_succ]
         refine n_ ?_
         refine k_end (fun _ h => h.pick [] rfl) ?_
         refine k_done (by kernel_rfl) ?_
         refine g_in_normal (t_ (o_ ?_))
         refine xg 3 [] rfl (by omega) ?_
         refine n_ ?_
         refine g_brsEq (d := (rpQ (rep n a (n + 1) lo1 (max hi1 (-1))) a (rep n a (n + 1) lo1 (max hi1 (-1))) (decide (lo1 = 0) || a i i) i m (j + 1))) 1 rfl (fun p r hp hr => rp_step hmj ha (by rw [hc]; rfl)) ?_
         simp only [List.set_cons_zero, List.set_cons_succ]
         exact g_again ⟨j + 1, by omega, by omega⟩ [0, 1, 2, 7, 8, 9, 10, 11, 12] (by dsimp only; omega) rfl (fun w h => h.pick [0,0] rfl)
        refine k_op 8 rfl ?_
        refine g_val (v := slW (n + 1) (T.gs.getD i 0)) rfl rfl rfl (y_ldR (off := i) 0 rfl Try.isAgg75 rfl (gt_get (n := n + 1) (by omega))) ?_
        refine n_ ?_
        refine k_end (fun _ h => h.pick [] rfl) ?_
        refine k_take (v := .pointer (some ⟨T.gs.getD i 0, j, none⟩)) 10 rfl (by kernel_rfl) hQ rfl rfl rfl (fun _ h => h.pick [] rfl) (y_idxAddr (m := j) rfl rfl Try.underlying75 Try.sizeOf4 (by omega) (by omega) (by omega)) ?_
        refine k_all [3,11] (by kernel_rfl) (by simp) ⟨?_, ?_, trivial⟩
        ·refine k_op 3 rfl ?_
         refine g_val (v := slW (n + 1) (T.gs.getD i 0)) rfl rfl rfl (y_ldR (off := i) 0 rfl Try.isAgg75 rfl (gt_get (n := n + 1) (by omega))) ?_
         refine n_ ?_
         refine k_end (fun _ h => h.pick [] rfl) ?_
         refine k_one 11 (by kernel_rfl) ?_
         refine k_op 11 rfl ?_
         refine g_val (v := .bool true) rfl rfl rfl (y_val (y_ldB (i := i) (j := j) 1 rfl Try.isAgg4 rfl (gt_at (by omega)) (by omega)) (by rw [hc])) ?_
         refine n_ ?_
         refine k_end (fun _ h => h.pick [] rfl) ?_
         refine k_x 12 [] [] hQ (by kernel_rfl) rfl rfl rfl rfl rfl rfl ?_
         refine k_no 13 [] hQ (by kernel_rfl) rfl rfl rfl rfl rfl ?_
         refine k_no 14 [] hQ (by kernel_rfl) rfl rfl rfl rfl rfl ?_
         refine k_no 15 [] hQ (by kernel_rfl) rfl rfl rfl rfl rfl ?_
         refine k_no 16 [] hQ (by kernel_rfl) rfl rfl rfl rfl rfl ?_
         refine k_no 17 [] hQ (by kernel_rfl) rfl rfl rfl rfl rfl ?_
         refine k_no 18 [] hQ (by kernel_rfl) rfl rfl rfl rfl rfl ?_
         refine k_no 19 [] hQ (by kernel_rfl) rfl rfl rfl rfl rfl ?_
         refine k_x 20 [] [] hQ (by kernel_rfl) rfl rfl rfl rfl rfl rfl ?_
         refine k_take (v := .pointer (some ⟨T.gs.getD i 0, j, none⟩)) 21 rfl (by kernel_rfl) hQ rfl rfl rfl (fun _ h => h.pick [] rfl) (y_idxAddr (m := j) rfl rfl Try.underlying75 Try.sizeOf4 (by omega) (by omega) (by omega)) ?_
         refine k_one 22 (by kernel_rfl) ?_
         refine k_op 22 rfl ?_
         refine g_stB (i := i) (j := j) 1 rfl rfl rfl Try.sizeOf4 rfl (gt_at (by omega)) (by omega) ?_
         simp only [List.set_cons_zero, List.set_cons_succ]
         refine n_ ?_
         refine k_end (fun _ h => h.pick [] rfl) ?_
         refine k_done (by kernel_rfl) ?_
         refine g_in_normal (t_ (o_ ?_))
         refine xg 3 [] rfl (by omega) ?_
         refine n_ ?_
         refine g_brsEq (d := (rpQ (rep n a (n + 1) lo1 (max hi1 (-1))) a (rep n a (n + 1) lo1 (max hi1 (-1))) (decide (lo1 = 0) || a i i) i m (j + 1))) 1 rfl (fun p r hp hr => rp_step hmj ha (by rw [hc]; rfl)) ?_
         simp only [List.set_cons_zero, List.set_cons_succ]
         exact g_again ⟨j + 1, by omega, by omega⟩ [0, 1, 2, 7, 8, 9, 10, 11, 12] (by dsimp only; omega) rfl (fun w h => h.pick [0,0] rfl)
        refine k_op 11 rfl ?_
        refine g_val (v := .bool true) rfl rfl rfl (y_val (y_ldB (i := i) (j := j) 1 rfl Try.isAgg4 rfl (gt_at (by omega)) (by omega)) (by rw [hc])) ?_
        refine n_ ?_
        refine k_end (fun _ h => h.pick [] rfl) ?_
        refine k_x 12 [] [] hQ (by kernel_rfl) rfl rfl rfl rfl rfl rfl ?_
        refine k_no 13 [] hQ (by kernel_rfl) rfl rfl rfl rfl rfl ?_
        refine k_no 14 [] hQ (by kernel_rfl) rfl rfl rfl rfl rfl ?_
        refine k_no 15 [] hQ (by kernel_rfl) rfl rfl rfl rfl rfl ?_
        refine k_no 16 [] hQ (by kernel_rfl) rfl rfl rfl rfl rfl ?_
        refine k_no 17 [] hQ (by kernel_rfl) rfl rfl rfl rfl rfl ?_
        refine k_no 18 [] hQ (by kernel_rfl) rfl rfl rfl rfl rfl ?_
        refine k_no 19 [] hQ (by kernel_rfl) rfl rfl rfl rfl rfl ?_
        refine k_x 20 [] [] hQ (by kernel_rfl) rfl rfl rfl rfl rfl rfl ?_
        refine k_one 3 (by kernel_rfl) ?_
        refine k_op 3 rfl ?_
        refine g_val (v := slW (n + 1) (T.gs.getD i 0)) rfl rfl rfl (y_ldR (off := i) 0 rfl Try.isAgg75 rfl (gt_get (n := n + 1) (by omega))) ?_
        refine n_ ?_
        refine k_end (fun _ h => h.pick [] rfl) ?_
        refine k_take (v := .pointer (some ⟨T.gs.getD i 0, j, none⟩)) 21 rfl (by kernel_rfl) hQ rfl rfl rfl (fun _ h => h.pick [] rfl) (y_idxAddr (m := j) rfl rfl Try.underlying75 Try.sizeOf4 (by omega) (by omega) (by omega)) ?_
        refine k_one 22 (by kernel_rfl) ?_
        refine k_op 22 rfl ?_
        refine g_stB (i := i) (j := j) 1 rfl rfl rfl Try.sizeOf4 rfl (gt_at (by omega)) (by omega) ?_
        simp only [List.set_cons_zero, List.set_cons_succ]
        refine n_ ?_
        refine k_end (fun _ h => h.pick [] rfl) ?_
        refine k_done (by kernel_rfl) ?_
        refine g_in_normal (t_ (o_ ?_))
        refine xg 3 [] rfl (by omega) ?_
        refine n_ ?_
        refine g_brsEq (d := (rpQ (rep n a (n + 1) lo1 (max hi1 (-1))) a (rep n a (n + 1) lo1 (max hi1 (-1))) (decide (lo1 = 0) || a i i) i m (j + 1))) 1 rfl (fun p r hp hr => rp_step hmj ha (by rw [hc]; rfl)) ?_
        simp only [List.set_cons_zero, List.set_cons_succ]
        exact g_again ⟨j + 1, by omega, by omega⟩ [0, 1, 2, 7, 8, 9, 10, 11, 12] (by dsimp only; omega) rfl (fun w h => h.pick [0,0] rfl)
       refine g_cond_f rfl (g_exit (g_then_exit (g_then_exit (g_in_exit (g_in_normal (t_ (o_ ?_)))))))
       refine xg 3 [] rfl (by omega) ?_
       refine n_ ?_
       refine g_brsEq (d := (rpQ (rep n a (n + 1) lo1 (max hi1 (-1))) a (rep n a (n + 1) lo1 (max hi1 (-1))) (decide (lo1 = 0) || a i i) i (m + 1) (m + 1))) 1 rfl (fun p r hp hr => rp_next (by omega) (fun r h => (rep_in hK _ _ _ m r (by omega) h).1) (by first | exact .inl (by omega) | (right; simpa using ‹_›)) hr) ?_
       simp only [List.set_cons_zero, List.set_cons_succ]
       exact g_again ⟨m + 1, by omega, by omega, by omega⟩ [0, 1, 2, 7, 8, 9, 10, 11] (by dsimp only; omega) rfl (fun w h => h.pick [0,0] rfl)
      refine xg 8 [] rfl rfl ?_
      refine n_ (t_ (g_cond_f rfl (g_exit (g_then_exit (g_then_exit (g_in_exit (g_in_normal (t_ (o_ ?_)))))))))
      refine xg 3 [] rfl (by omega) ?_
      refine n_ ?_
      refine g_brsEq (d := (rpQ (rep n a (n + 1) lo1 (max hi1 (-1))) a (rep n a (n + 1) lo1 (max hi1 (-1))) (decide (lo1 = 0) || a i i) i (m + 1) (m + 1))) 1 rfl (fun p r hp hr => rp_next (by omega) (fun r h => (rep_in hK _ _ _ m r (by omega) h).1) (by first | exact .inl (by omega) | (right; simpa using ‹_›)) hr) ?_
      simp only [List.set_cons_zero, List.set_cons_succ]
      exact g_again ⟨m + 1, by omega, by omega, by omega⟩ [0, 1, 2, 7, 8, 9, 10, 11] (by dsimp only; omega) rfl (fun w h => h.pick [0,0] rfl)
     refine g_cond_f rfl (g_exit (g_then_exit (g_then_exit (g_in_exit (g_in_normal (t_ (o_ ?_)))))))
     refine xg 3 [] rfl (by omega) ?_
     refine n_ ?_
     refine g_brsEq (d := (rpS (rep n a (n + 1) lo1 (max hi1 (-1))) i)) 1 rfl (fun p r hp hr => rp_row (by omega) (by omega) (by omega) rfl rfl rfl (by omega) (by intro _; rw [if_neg (by omega)]) (by omega) hr) ?_
     simp only [List.set_cons_zero, List.set_cons_succ]
     exact g_again ⟨i, by omega⟩ [0, 1, 2, 7, 8, 9, 10] (by dsimp only; omega) rfl (fun w h => h.pick [0,0] rfl)
    refine xg 3 [] rfl rfl ?_
    refine n_ (t_ (g_cond_f rfl (g_exit (g_then_exit (g_then_exit (g_in_exit (g_in_normal (t_ (o_ ?_)))))))))
    refine xg 3 [] rfl (by omega) ?_
    refine n_ ?_
    refine g_brsEq (d := (rpS (rep n a (n + 1) lo1 (max hi1 (-1))) i)) 1 rfl (fun p r hp hr => rp_row (by omega) (by omega) (by omega) rfl rfl rfl (by omega) (by intro _; rw [if_neg (by omega)]) (by omega) hr) ?_
    simp only [List.set_cons_zero, List.set_cons_succ]
    exact g_again ⟨i, by omega⟩ [0, 1, 2, 7, 8, 9, 10] (by dsimp only; omega) rfl (fun w h => h.pick [0,0] rfl)
   refine g_cond_f rfl (g_exit (g_then_exit (g_then_exit (g_in_exit (t_ (s_ ?_))))))
   refine g_brsEq (d := (RP n a lo hi)) 1 rfl (fun p r hp hr => (by obtain rfl : x = 0 := (by omega); rw [rp_done]; unfold RP; rw [← hlo1, show min (max hi (-1)) ((n : Int) + 1) = max hi1 (-1) by omega])) ?_
   simp only [List.set_cons_zero, List.set_cons_succ]
   refine o_ ?_
   refine xg 2 [] rfl rfl ?_
   refine n_ (t_ (g_ret ?_))
   refine g_end1 Try.results52 rfl ?_
   exact fun w hS => ⟨⟨T, hgT⟩, rfl, hS.pick [0,0] rfl⟩
  intro hj
  refine g_casep 25 rfl (fun h17 => ?_) fun h17 => ?_
  ·refine g_cond_t rfl (o_ ?_)
   refine xg 3 [] rfl (by omega) ?_
   refine n_ ?_
   exact g_fall (hj ⟨((n : Int) + 1), by omega⟩) [0, 1, 2, 7] rfl (fun w h => h.pick [] rfl)
  refine g_cond_f rfl (g_skip ?_)
  exact g_fall (hj ⟨hi, by omega⟩) [0, 1, 2, 7] rfl (fun w h => h.pick [] rfl)
 intro hj
 refine g_casep 19 rfl (fun h18 => ?_) fun h18 => ?_
 ·refine g_cond_t rfl (o_ ?_)
  refine xg 3 [] rfl (by omega) ?_
  refine n_ ?_
  exact g_fall (hj ⟨((n : Int) + 1), by omega⟩) [0, 1, 2, 7] rfl (fun w h => h.pick [] rfl)
 refine g_cond_f rfl (g_skip ?_)
 exact g_fall (hj ⟨lo, by omega⟩) [0, 1, 2, 7] rfl (fun w h => h.pick [] rfl)

theorem repeat_ok (n : Nat) (hn : n ≤ 100000) (A : TbX) (a : Nat → Nat → Bool) (hK : Ups n a) : ∀ (D : Nat) (lo hi : Int), 0 ≤ lo → (min lo (n + 1)).toNat + (min hi (n + 1)).toNat ≤ D → ∀ w, RdT w (n + 1) A a → Calls Try.prog 52 #[A.v (n + 1), .int .i64 lo, .int .i64 hi] w fun e w' => ∃ y : {y : TbX // y.gs.length = n + 1}, e = .returned (y.1.v (n + 1)) ∧ St w [] [y.1.o (n + 1), .brs y.1.gs (n + 1) (RP n a lo hi)] w' := by
  intro D
  induction D with
  | zero => exact fun lo hi h1 h2 w hA => repeat_any n hn A a hK lo hi h1 (fun lo2 hi2 _ h3 => by omega) w hA
  | succ D ih => exact fun lo hi h1 h2 w hA => repeat_any n hn A a hK lo hi h1 (fun lo2 hi2 h3 h4 => ih lo2 hi2 h3 (by omega)) w hA
end Go.Proofs.Ytfcamlkbkehlnaa

