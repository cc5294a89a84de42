/- The lexer: intervals. -/
import Derived.Test.YtpoelkfncpjmfaaPbi
namespace Go.Proofs.Ytpoelkfncpjmfaa
open Go Go.RowKit


set_option maxRecDepth 100000 in
theorem interval_any (b : Nat) (l : List UInt8) (e0 d v : Value) (ts : List Tok) (cl : List UInt8) (F : List Nat) (w : World) (hl : l.length ≤ 1000) (hts : ts.length ≤ 900) (hS0 : St w F [.cells b 50 [st8 l, e0, v, d], .row 64 7 v ts.length (ts.flatMap tC)] w) :
    Calls Try.prog 29 #[.pointer (some ⟨b, 0, none⟩), .string ⟨cl.toArray⟩] w fun e w' => ∃ x : {x : Tok × List UInt8 × Bool × Value // IvR cl l x.1 x.2.1 x.2.2.1}, e = .returned (.bool x.1.2.2.1) ∧ St w F [.cells b 50 [st8 x.1.2.1, e0, x.1.2.2.2, d], .row 64 7 x.1.2.2.2 (ts ++ [x.1.1]).length ((ts ++ [x.1.1]).flatMap tC)] w' := by
 refine fn_intro_own Try.func29 rfl Try.ntmps29 rfl rfl hS0 ?_
 refine s_ (o_ ?_)
 refine xg 1 [] rfl rfl ?_
 refine ntso_ ?_
 refine xg 1 [] rfl rfl ?_
 refine g_callAll (fun x : {x : Nat × Int // NumR l x.1 x.2} => .int .i64 (nv x.1.1 x.1.2)) (fun x => [.cells b 50 [st8 (l.drop x.1.1), e0, v, d], .row 64 7 v ts.length (ts.flatMap tC)]) rfl rfl rfl Try.call41 (fun w F' hS => number_any b l e0 d v ts F' w hl (by omega) hS) ?_
 rintro ⟨⟨k, n⟩, hn⟩
 try dsimp only
 refine g_val (v := .agg (tC (timesT (nv k n) 0)).toArray) rfl rfl rfl (y_val (y_build (offs := [0, 5]) rfl Try.zeroValue64 (by kernel_rfl)) rfl) ?_
 refine g_alloc rfl rfl Try.zeroValue64 rfl (fun b1 => ?_)
 refine g_stN 0 rfl rfl rfl (by kernel_rfl) rfl rfl rfl rfl ?_
 simp only [List.set_cons_zero]
 refine ntso_ ?_
 refine xg 1 [] rfl rfl ?_
 refine g_val (v := .int .i64 (nv k n)) rfl rfl rfl (y_ld 0 rfl Try.isAgg3 rfl rfl) ?_
 refine xg 1 [] rfl rfl ?_
 refine g_st 0 rfl rfl rfl Try.sizeOf3 rfl rfl rfl ?_
 simp only [List.set_cons_zero]
 refine n_ (t_ (s_ (s_ (o_ ?_))))
 refine xg 1 [] rfl rfl ?_
 have hl1 : (l.drop k).length ≤ 1000 := by rw [List.length_drop]; omega
 refine g_perm (.trans (.swap _ _ _) (.cons _ (.swap _ _ _))) ?_
 refine g_callOwn (L0 := [.cells b 50 [st8 (l.drop k), e0, v, d], .row 64 7 v ts.length (ts.flatMap tC)]) (fun _ : Unit => .bool (Lib.hasPrefix (l.drop k) [44])) (fun _ => [.cells b 50 [st8 (Lib.trimPrefix (l.drop k) [44]), e0, v, d], .row 64 7 v ts.length (ts.flatMap tC)]) rfl rfl rfl Try.call42 (fun w hS => skip_any b (l.drop k) e0 d v ts [44] _ w hl1 (by first | omega | (simp only [List.length_append, List.length_singleton]; omega)) hS.part) ?_
 intro _
 try dsimp only
 simp only [List.cons_append, List.nil_append]
 have hl2 : (Lib.trimPrefix (l.drop k) [44]).length ≤ 1000 := Nat.le_trans (Lib.trimPrefix_le _ _) hl1
 refine n_ (t_ ?_)
 first | refine g_casep 13 rfl (fun h1 => ?_) fun h1 => ?_ | refine g_caseb 13 rfl (fun h1 => ?_) fun h1 => ?_
 ·refine g_cond_t rfl (o_ ?_)
  refine xg 1 [] rfl rfl ?_
  refine g_callOwn (L0 := [.cells b 50 [st8 (Lib.trimPrefix (l.drop k) [44]), e0, v, d], .row 64 7 v ts.length (ts.flatMap tC)]) (fun x : {x : Nat × Int // NumR (Lib.trimPrefix (l.drop k) [44]) x.1 x.2} => .int .i64 (nv x.1.1 x.1.2)) (fun x => [.cells b 50 [st8 ((Lib.trimPrefix (l.drop k) [44]).drop x.1.1), e0, v, d], .row 64 7 v ts.length (ts.flatMap tC)]) rfl rfl rfl Try.call41 (fun w hS => number_any b (Lib.trimPrefix (l.drop k) [44]) e0 d v ts _ w hl2 (by omega) hS.part) ?_
  rintro ⟨⟨k2, n2⟩, hn2⟩
  try dsimp only
  simp only [List.cons_append, List.nil_append]
  refine xg 1 [] rfl rfl ?_
  refine g_st 2 rfl rfl rfl Try.sizeOf3 rfl rfl rfl ?_
  simp only [List.set_cons_zero, List.set_cons_succ]
  refine ntso_ ?_
  refine xg 1 [] rfl rfl ?_
  refine g_val (v := .agg (tC (timesT (nv k n) (nv k2 n2))).toArray) rfl rfl rfl (y_ldN (vs := tC (timesT (nv k n) (nv k2 n2))) 2 rfl Try.isAgg64 Try.sizeOf64 rfl rfl rfl) ?_
  refine g_callOwn (L0 := [.cells b 50 [st8 ((Lib.trimPrefix (l.drop k) [44]).drop k2), e0, v, d], .row 64 7 v ts.length (ts.flatMap tC)]) (fun _ : Value => .tuple #[]) (fun v' => [.cells b 50 [st8 ((Lib.trimPrefix (l.drop k) [44]).drop k2), e0, v', d], .row 64 7 v' (ts ++ [(timesT (nv k n) (nv k2 n2))]).length ((ts ++ [(timesT (nv k n) (nv k2 n2))]).flatMap tC)]) rfl rfl rfl Try.call23 (fun w hS => put_any b (st8 ((Lib.trimPrefix (l.drop k) [44]).drop k2)) e0 d v ts (timesT (nv k n) (nv k2 n2)) _ w (by omega) hS.part) ?_
  intro vq
  try dsimp only
  simp only [List.cons_append, List.nil_append]
  refine ntso_ ?_
  refine xg 2 [] rfl rfl ?_
  have hl3 : ((Lib.trimPrefix (l.drop k) [44]).drop k2).length ≤ 1000 := by rw [List.length_drop]; omega
  refine g_callOwn (L0 := [.cells b 50 [st8 ((Lib.trimPrefix (l.drop k) [44]).drop k2), e0, vq, d], .row 64 7 vq (ts ++ [(timesT (nv k n) (nv k2 n2))]).length ((ts ++ [(timesT (nv k n) (nv k2 n2))]).flatMap tC)]) (fun _ : Unit => .bool (Lib.hasPrefix ((Lib.trimPrefix (l.drop k) [44]).drop k2) cl)) (fun _ => [.cells b 50 [st8 (Lib.trimPrefix ((Lib.trimPrefix (l.drop k) [44]).drop k2) cl), e0, vq, d], .row 64 7 vq (ts ++ [(timesT (nv k n) (nv k2 n2))]).length ((ts ++ [(timesT (nv k n) (nv k2 n2))]).flatMap tC)]) rfl rfl rfl Try.call42 (fun w hS => skip_any b ((Lib.trimPrefix (l.drop k) [44]).drop k2) e0 d vq (ts ++ [(timesT (nv k n) (nv k2 n2))]) cl _ w hl3 (by first | omega | (simp only [List.length_append, List.length_singleton]; omega)) hS.part) ?_
  intro _
  try dsimp only
  simp only [List.cons_append, List.nil_append]
  refine xg 1 [] rfl rfl ?_
  first | refine g_casep 23 rfl (fun h2 => ?_) fun h2 => ?_ | refine g_caseb 23 rfl (fun h2 => ?_) fun h2 => ?_
  ·refine xg 1 [] rfl rfl ?_
   refine g_val (v := .int .i64 (nv k n)) rfl rfl rfl (y_ld 2 rfl Try.isAgg3 rfl rfl) ?_
   refine xg 3 [0] rfl rfl ?_
   refine g_casep 28 rfl (fun h3 => ?_) fun h3 => ?_
   ·refine xg 1 [] rfl rfl ?_
    refine g_val (v := .int .i64 (nv k n)) rfl rfl rfl (y_ld 2 rfl Try.isAgg3 rfl rfl) ?_
    refine xg 3 [0] rfl rfl ?_
    refine g_casep 33 rfl (fun h4 => ?_) fun h4 => ?_
    ·refine xg 1 [] rfl rfl ?_
     refine g_val (v := .int .i64 (nv k2 n2)) rfl rfl rfl (y_ld 2 rfl Try.isAgg3 rfl rfl) ?_
     refine xg 3 [0] rfl rfl ?_
     refine g_casep 38 rfl (fun h5 => ?_) fun h5 => ?_
     ·refine xg 1 [] rfl rfl ?_
      refine g_val (v := .int .i64 (nv k2 n2)) rfl rfl rfl (y_ld 2 rfl Try.isAgg3 rfl rfl) ?_
      refine xg 2 [0] rfl rfl ?_
      refine g_casep 42 rfl (fun h6 => ?_) fun h6 => ?_
      ·refine xg 8 [] rfl rfl ?_
       refine n_ (t_ (g_ret ?_))
       refine g_end1 Try.results29 rfl ?_
       refine fun w hS => ⟨⟨(_, _, _, _), .two hn (by assumption) hn2 ?_⟩, rfl, hS.pick [0,0] rfl⟩
       dsimp only
       exact ⟨fun _ => ⟨by assumption, by omega, by omega, by omega, by omega⟩, fun _ => rfl⟩
      refine xg 1 [] rfl rfl ?_
      refine g_val (v := .int .i64 (nv k2 n2)) rfl rfl rfl (y_ld 2 rfl Try.isAgg3 rfl rfl) ?_
      refine xg 1 [] rfl rfl ?_
      refine g_val (v := .int .i64 (nv k n)) rfl rfl rfl (y_ld 2 rfl Try.isAgg3 rfl rfl) ?_
      refine xg 4 [0] rfl rfl ?_
      refine n_ (t_ (g_ret ?_))
      refine g_end1 Try.results29 rfl ?_
      refine fun w hS => ⟨⟨(_, _, _, _), .two hn (by assumption) hn2 ?_⟩, rfl, hS.pick [0,0] rfl⟩
      dsimp only
      refine ⟨fun h => ⟨by assumption, by omega, by omega, by omega, .inr (of_decide_eq_true h)⟩, fun h => decide_eq_true ?_⟩
      have := h.2
      omega
     refine xg 12 [] rfl rfl ?_
     refine n_ (t_ (g_ret ?_))
     refine g_end1 Try.results29 rfl ?_
     refine fun w hS => ⟨⟨(_, _, _, _), .two hn (by assumption) hn2 ?_⟩, rfl, hS.pick [0,0] rfl⟩
     dsimp only
     exact ⟨fun h => absurd h (by decide), fun h => by first | (have := h.1; simp_all; done) | (have := h.2; omega)⟩
    refine xg 17 [] rfl rfl ?_
    refine n_ (t_ (g_ret ?_))
    refine g_end1 Try.results29 rfl ?_
    refine fun w hS => ⟨⟨(_, _, _, _), .two hn (by assumption) hn2 ?_⟩, rfl, hS.pick [0,0] rfl⟩
    dsimp only
    exact ⟨fun h => absurd h (by decide), fun h => by first | (have := h.1; simp_all; done) | (have := h.2; omega)⟩
   refine xg 22 [] rfl rfl ?_
   refine n_ (t_ (g_ret ?_))
   refine g_end1 Try.results29 rfl ?_
   refine fun w hS => ⟨⟨(_, _, _, _), .two hn (by assumption) hn2 ?_⟩, rfl, hS.pick [0,0] rfl⟩
   dsimp only
   exact ⟨fun h => absurd h (by decide), fun h => by first | (have := h.1; simp_all; done) | (have := h.2; omega)⟩
  refine xg 27 [] rfl rfl ?_
  refine n_ (t_ (g_ret ?_))
  refine g_end1 Try.results29 rfl ?_
  refine fun w hS => ⟨⟨(_, _, _, _), .two hn (by assumption) hn2 ?_⟩, rfl, hS.pick [0,0] rfl⟩
  dsimp only
  exact ⟨fun h => absurd h (by decide), fun h => by first | (have := h.1; simp_all; done) | (have := h.2; omega)⟩
 refine g_cond_f rfl (g_skip (t_ (s_ (o_ ?_))))
 refine xg 1 [] rfl rfl ?_
 refine g_val (v := .agg (tC (timesT (nv k n) (nv k n))).toArray) rfl rfl rfl (y_ldN (vs := tC (timesT (nv k n) (nv k n))) 2 rfl Try.isAgg64 Try.sizeOf64 rfl rfl rfl) ?_
 refine g_callOwn (L0 := [.cells b 50 [st8 (Lib.trimPrefix (l.drop k) [44]), e0, v, d], .row 64 7 v ts.length (ts.flatMap tC)]) (fun _ : Value => .tuple #[]) (fun v' => [.cells b 50 [st8 (Lib.trimPrefix (l.drop k) [44]), e0, v', d], .row 64 7 v' (ts ++ [(timesT (nv k n) (nv k n))]).length ((ts ++ [(timesT (nv k n) (nv k n))]).flatMap tC)]) rfl rfl rfl Try.call23 (fun w hS => put_any b (st8 (Lib.trimPrefix (l.drop k) [44])) e0 d v ts (timesT (nv k n) (nv k n)) _ w (by omega) hS.part) ?_
 intro vq
 try dsimp only
 simp only [List.cons_append, List.nil_append]
 refine ntso_ ?_
 refine xg 2 [] rfl rfl ?_
 refine g_callOwn (L0 := [.cells b 50 [st8 (Lib.trimPrefix (l.drop k) [44]), e0, vq, d], .row 64 7 vq (ts ++ [(timesT (nv k n) (nv k n))]).length ((ts ++ [(timesT (nv k n) (nv k n))]).flatMap tC)]) (fun _ : Unit => .bool (Lib.hasPrefix (Lib.trimPrefix (l.drop k) [44]) cl)) (fun _ => [.cells b 50 [st8 (Lib.trimPrefix (Lib.trimPrefix (l.drop k) [44]) cl), e0, vq, d], .row 64 7 vq (ts ++ [(timesT (nv k n) (nv k n))]).length ((ts ++ [(timesT (nv k n) (nv k n))]).flatMap tC)]) rfl rfl rfl Try.call42 (fun w hS => skip_any b (Lib.trimPrefix (l.drop k) [44]) e0 d vq (ts ++ [(timesT (nv k n) (nv k n))]) cl _ w hl2 (by first | omega | (simp only [List.length_append, List.length_singleton]; omega)) hS.part) ?_
 intro _
 try dsimp only
 simp only [List.cons_append, List.nil_append]
 refine xg 1 [] rfl rfl ?_
 first | refine g_casep 23 rfl (fun h7 => ?_) fun h7 => ?_ | refine g_caseb 23 rfl (fun h7 => ?_) fun h7 => ?_
 ·refine xg 1 [] rfl rfl ?_
  refine g_val (v := .int .i64 (nv k n)) rfl rfl rfl (y_ld 2 rfl Try.isAgg3 rfl rfl) ?_
  refine xg 3 [0] rfl rfl ?_
  refine g_casep 28 rfl (fun h8 => ?_) fun h8 => ?_
  ·refine xg 1 [] rfl rfl ?_
   refine g_val (v := .int .i64 (nv k n)) rfl rfl rfl (y_ld 2 rfl Try.isAgg3 rfl rfl) ?_
   refine xg 3 [0] rfl rfl ?_
   refine g_casep 33 rfl (fun h9 => ?_) fun h9 => ?_
   ·refine xg 1 [] rfl rfl ?_
    refine g_val (v := .int .i64 (nv k n)) rfl rfl rfl (y_ld 2 rfl Try.isAgg3 rfl rfl) ?_
    refine xg 3 [0] rfl rfl ?_
    refine g_casep 38 rfl (fun h10 => ?_) fun h10 => ?_
    ·refine xg 1 [] rfl rfl ?_
     refine g_val (v := .int .i64 (nv k n)) rfl rfl rfl (y_ld 2 rfl Try.isAgg3 rfl rfl) ?_
     refine xg 2 [0] rfl rfl ?_
     refine g_casep 42 rfl (fun h11 => ?_) fun h11 => ?_
     ·refine xg 8 [] rfl rfl ?_
      refine n_ (t_ (g_ret ?_))
      refine g_end1 Try.results29 rfl ?_
      refine fun w hS => ⟨⟨(_, _, _, _), .one hn (by assumption) ?_⟩, rfl, hS.pick [0,0] rfl⟩
      dsimp only
      exact ⟨fun _ => ⟨by assumption, by omega, by omega, by omega, by omega⟩, fun _ => rfl⟩
     refine xg 1 [] rfl rfl ?_
     refine g_val (v := .int .i64 (nv k n)) rfl rfl rfl (y_ld 2 rfl Try.isAgg3 rfl rfl) ?_
     refine xg 1 [] rfl rfl ?_
     refine g_val (v := .int .i64 (nv k n)) rfl rfl rfl (y_ld 2 rfl Try.isAgg3 rfl rfl) ?_
     refine xg 4 [0] rfl rfl ?_
     refine n_ (t_ (g_ret ?_))
     refine g_end1 Try.results29 rfl ?_
     refine fun w hS => ⟨⟨(_, _, _, _), .one hn (by assumption) ?_⟩, rfl, hS.pick [0,0] rfl⟩
     dsimp only
     refine ⟨fun h => ⟨by assumption, by omega, by omega, by omega, .inr (of_decide_eq_true h)⟩, fun h => decide_eq_true ?_⟩
     have := h.2
     omega
    refine xg 12 [] rfl rfl ?_
    refine n_ (t_ (g_ret ?_))
    refine g_end1 Try.results29 rfl ?_
    refine fun w hS => ⟨⟨(_, _, _, _), .one hn (by assumption) ?_⟩, rfl, hS.pick [0,0] rfl⟩
    dsimp only
    exact ⟨fun h => absurd h (by decide), fun h => by first | (have := h.1; simp_all; done) | (have := h.2; omega)⟩
   refine xg 17 [] rfl rfl ?_
   refine n_ (t_ (g_ret ?_))
   refine g_end1 Try.results29 rfl ?_
   refine fun w hS => ⟨⟨(_, _, _, _), .one hn (by assumption) ?_⟩, rfl, hS.pick [0,0] rfl⟩
   dsimp only
   exact ⟨fun h => absurd h (by decide), fun h => by first | (have := h.1; simp_all; done) | (have := h.2; omega)⟩
  refine xg 22 [] rfl rfl ?_
  refine n_ (t_ (g_ret ?_))
  refine g_end1 Try.results29 rfl ?_
  refine fun w hS => ⟨⟨(_, _, _, _), .one hn (by assumption) ?_⟩, rfl, hS.pick [0,0] rfl⟩
  dsimp only
  exact ⟨fun h => absurd h (by decide), fun h => by first | (have := h.1; simp_all; done) | (have := h.2; omega)⟩
 refine xg 27 [] rfl rfl ?_
 refine n_ (t_ (g_ret ?_))
 refine g_end1 Try.results29 rfl ?_
 refine fun w hS => ⟨⟨(_, _, _, _), .one hn (by assumption) ?_⟩, rfl, hS.pick [0,0] rfl⟩
 dsimp only
 exact ⟨fun h => absurd h (by decide), fun h => by first | (have := h.1; simp_all; done) | (have := h.2; omega)⟩

end Go.Proofs.Ytpoelkfncpjmfaa
