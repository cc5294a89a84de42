/- headgatelaw09.built: a row of shapes. -/
import Derived.Test.YtpoelkfncpjmfaaPbw
namespace Go.Proofs.Ytpoelkfncpjmfaa
open Go Go.RowKit

structure Sh where
  g : Bool
  c : UInt8
  t : Bool
  mi : Int
  ma : Int
  hm : -9223372036854775808 ≤ mi ∧ mi ≤ 9223372036854775807
  hx : -9223372036854775808 ≤ ma ∧ ma ≤ 9223372036854775807
instance : Inhabited Sh := ⟨⟨false, 0, false, 0, 0, by decide, by decide⟩⟩
def shC (x : Sh) : List Value := [.bool x.g, .int .u8 x.c.toNat, .bool x.t, .int .i64 x.mi, .int .i64 x.ma]
def shF (f : Nat → Sh) (i j : Nat) : Value := ((shC (f i))[j]?).getD default
theorem shF_get (f : Nat → Sh) (i j : Nat) (h : j < 5) : (shC (f i))[j]? = some (shF f i j) := by
  unfold shF
  rw [List.getElem?_eq_getElem (show j < (shC (f i)).length from h)]; rfl
theorem rd_keep {W w : World} {L : List Ent} {p : Option Addr} {n sz : Nat} {f : Nat → Nat → Value} (hr : RdSl W p n sz f) (hS : St W [] L w) : RdSl w p n sz f :=
  ⟨hr.addr, fun h => Nat.lt_of_lt_of_le (hr.blk h) hS.size, fun i j hi hj => rd_cell hr hi hj w hS⟩
/-- What is built behind at0 shapes, g0 the next group's number. -/
def BT (g0 at0 : Int) (ts : List MT) (a g : Int) : Prop := at0 ≤ a ∧ a ≤ 20 ∧ g0 ≤ g ∧ g ≤ 10 ∧ (szL ts : Int) ≤ 3 * (a - at0) ∧ ts.length ≤ 5 ∧ ∃ ps, erL ts = erL (mtL ps) ∧ wfL ps (g0 - 1) (g - 1) ∧ okPs ps
/-- A piece; z: how many nodes less it has than it may. -/
def PK (z : Int) (at1 : Prop) (tn : MT) (a g a' g' : Int) : Prop := a < a' ∧ a' ≤ 20 ∧ g ≤ g' ∧ g' ≤ 10 ∧ (szT tn : Int) + z ≤ 3 * (a' - a) ∧ ∃ p, er tn = er (mtP p) ∧ wfP p (g - 1) (g' - 1) ∧ okP p ∧ (at1 → p.atom)
theorem wfL_snoc : ∀ {ps : List PT} {p : PT} {g g1 g2 : Int}, wfL ps g g1 → wfP p g1 g2 → wfL (ps ++ [p]) g g2
  | [], p, g, g1, g2, h, h2 => by rw [wfL_nil] at h; subst h; exact wfL_cons.2 ⟨g2, h2, wfL_nil.2 rfl⟩
  | q :: ps, p, g, g1, g2, h, h2 => by
    obtain ⟨x, h3, h4⟩ := wfL_cons.1 h
    exact wfL_cons.2 ⟨x, h3, wfL_snoc h4 h2⟩
theorem mtL_snoc (ps : List PT) (p : PT) : mtL (ps ++ [p]) = mtL ps ++ [mtP p] := by
  induction ps with
  | nil => rw [List.nil_append, mtL_cons, mtL_nil]; rfl
  | cons q ps ih => rw [List.cons_append, mtL_cons, mtL_cons, ih]; rfl
theorem okPs_snoc {ps : List PT} {p : PT} (h : okPs ps) (h2 : okP p) : okPs (ps ++ [p]) := by
  induction ps with
  | nil => exact okPs_cons.2 ⟨h2, okPs_nil⟩
  | cons q ps ih => obtain ⟨h3, h4⟩ := okPs_cons.1 h; exact okPs_cons.2 ⟨h3, ih h4⟩
theorem BT_more {g0 at0 a g a' g' : Int} {ts : List MT} {tn : MT} {at1 : Prop} (h : BT g0 at0 ts a g) (hl : ts.length < 5) (hp : PK 0 at1 tn a g a' g') : BT g0 at0 (ts ++ [tn]) a' g' := by
  obtain ⟨h1, h2, h3, h4, h5, h6, ps, h7, h8, h9⟩ := h
  obtain ⟨q1, q2, q3, q4, q5, p, q6, q7, q8, _⟩ := hp
  refine ⟨by omega, q2, by omega, q4, ?_, by rw [List.length_append]; simp; omega, ps ++ [p], ?_, wfL_snoc h8 q7, okPs_snoc h9 q8⟩
  · rw [szL_append, szL_cons, szL_nil]; push_cast; omega
  · rw [erL_append, mtL_snoc, erL_append, h7, erL_cons, erL_cons, q6]
theorem PK_leaf {c : Nat} (hc : 97 ≤ c ∧ c ≤ 122) {v : Value} {a g : Int} (ha : a < 20) (hg : g ≤ 10) : PK 1 True (.mk 1 (withS s0 c (c + 1 - c)) 0 0 0 v []) a g (a + 1) g := by
  have e : (UInt8.ofNat c).toNat = c := by rw [UInt8.toNat_ofNat']; omega
  refine ⟨by omega, by omega, by omega, hg, by rw [szT_mk, szL_nil]; push_cast; omega, .one (UInt8.ofNat c), ?_, wfP_one.2 rfl, okP_one.2 (by unfold plainC; rw [e]; omega), fun _ => trivial⟩
  rw [mtP_one]; unfold oneM; rw [er_mk, er_mk, e, show c + 1 - c = 1 by omega]
theorem szT_row {v : Value} {ts : List MT} : szT (rowV v ts) ≤ 1 + szL ts := by
  match ts with
  | [] => unfold rowV; rw [szT_mk]; omega
  | [t] => show szT t ≤ _; rw [szL_cons, szL_nil]; omega
  | t :: t2 :: r => unfold rowV; rw [szT_mk]; omega
theorem PK_grp {a g a2 g2 : Int} {ts : List MT} {v v2 : Value} (ha : a < 20) (hg : g ≤ 9) (hne : ts ≠ []) (h : BT (g + 1) (a + 1) ts a2 g2) : PK 1 True (.mk 5 s0 0 0 g v [rowV v2 ts]) a g a2 g2 := by
  obtain ⟨h1, h2, h3, h4, h5, h6, ps, h7, h8, h9⟩ := h
  have hps : ps ≠ [] := fun q => by subst q; rw [mtL_nil] at h7; exact hne (List.length_eq_zero_iff.1 (erL_len h7))
  have hz := szT_row (v := v2) (ts := ts)
  refine ⟨by omega, h2, by omega, h4, by rw [szT_mk, szL_cons, szL_nil]; push_cast; omega, .grp g ps, ?_, wfP_grp.2 ⟨by omega, hg, hps, ?_⟩, okP_grp.2 h9, fun _ => trivial⟩
  · rw [mtP_grp, er_mk, er_mk, erL_cons, erL_cons, erL_nil, er_row h7]
  · rw [show g - 1 + 1 = g + 1 - 1 by omega]; exact h8
theorem PK_rep {a g a2 g2 lo hi : Int} {tn : MT} {v : Value} (h : PK 1 True tn a g a2 g2) (hl : 0 ≤ lo ∧ lo ≤ 20) (hh : hi ≤ 20 ∧ (hi = -1 ∨ lo ≤ hi)) : PK 0 False (.mk 4 s0 lo hi 0 v [tn]) a g a2 g2 := by
  obtain ⟨q1, q2, q3, q4, q5, p, q6, q7, q8, q9⟩ := h
  refine ⟨q1, q2, q3, q4, by rw [szT_mk, szL_cons, szL_nil]; push_cast; omega, .rep lo hi p, ?_, wfP_rep.2 ⟨q9 trivial, q7⟩, okP_rep.2 ⟨hl.1, hl.2, hh.1, hh.2, q9 trivial, q8⟩, fun q => q.elim⟩
  rw [mtP_rep, er_mk, er_mk, erL_cons, erL_cons, erL_nil, q6]
theorem PK_less {a g a2 g2 : Int} {tn : MT} (h : PK 1 True tn a g a2 g2) : PK 0 False tn a g a2 g2 := by
  obtain ⟨q1, q2, q3, q4, q5, p, q6, q7, q8, q9⟩ := h
  exact ⟨q1, q2, q3, q4, by omega, p, q6, q7, q8, fun q => q.elim⟩
theorem rem26 (c : Nat) : ((c : Int)).tmod 26 = ((c % 26 : Nat) : Int) := rfl

set_option maxHeartbeats 2000000 in
set_option maxRecDepth 100000 in
theorem built_any (f : Nat → Sh) (n cap : Nat) (p : Option Addr) (hn : n ≤ maxLen) : ∀ (D : Nat), D ≤ 3 → ∀ (at0 g0 : Int) (w : World), 0 ≤ at0 → at0 ≤ 20 → 1 ≤ g0 → g0 ≤ 10 → RdSl w p n 5 (shF f) →
    Calls Try.prog 11 #[.slice p n cap, .int .i64 at0, .int .i64 g0, .int .i64 (D : Int)] w fun e w' => ∃ x : {x : Value × List MT × Int × Int // BT g0 at0 x.2.1 x.2.2.1 x.2.2.2}, e = .returned (.tuple #[x.1.1, .int .i64 x.1.2.2.1, .int .i64 x.1.2.2.2]) ∧ St w [] [.row 30 9 x.1.1 x.1.2.1.length (x.1.2.1.flatMap nC), .forest x.1.2.1] w' := by
 intro D
 induction D using Nat.strongRecOn with
 | _ D ih =>
 intro hD at0 g0 w hat0 hat1 hg0 hg1 hrdl
 have hmax : maxLen = 9223372036854775807 := rfl
 refine fn_intro Try.func11 rfl Try.ntmps11 rfl rfl ?_
 refine s_ (o_ ?_)
 refine xg 3 [] rfl rfl ?_
 refine ntso_ ?_
 refine g_nilRow 30 9 ?_
 refine g_forest0 ?_
 refine g_val rfl rfl rfl (y_assign rfl) ?_
 refine n_ (t_ (s_ (g_block ?_)))
 refine g_loop (α := {x : Value × List MT × Int × Int // BT g0 at0 x.2.1 x.2.2.1 x.2.2.2}) (fun x => [(0, .slice p n cap), (1, .int .i64 x.1.2.2.1), (2, .int .i64 x.1.2.2.2), (3, .int .i64 (D : Int)), (11, x.1.1)]) (fun x => St w [] [.row 30 9 x.1.1 x.1.2.1.length (x.1.2.1.flatMap nC), .forest x.1.2.1]) (fun x => 20 - x.1.2.2.1.toNat) ⟨(_, [], at0, g0), ⟨Int.le_refl _, hat1, Int.le_refl _, hg1, by dsimp only; rw [szL_nil]; omega, Nat.zero_le _, [], rfl, wfL_nil.2 rfl, okPs_nil⟩⟩ [0, 1, 2, 3, 11] rfl (fun w h => h.pick [1,0] rfl) ?_
 rintro ⟨⟨v, ts, a, g⟩, hbt⟩
 dsimp only
 dsimp only at hbt
 obtain ⟨hq1, hq2, hq3, hq4, hq5, hq6, _⟩ := id hbt
 refine s_ (s_ (o_ ?_))
 refine xg 5 [0] rfl rfl ?_
 refine g_casep 26 rfl (fun h1 => ?_) fun h1 => ?_
 ·refine xg 4 [0] rfl rfl ?_
  refine g_casep 30 rfl (fun h2 => ?_) fun h2 => ?_
  ·refine xg 1 [] rfl rfl ?_
   refine g_rowLen 0 rfl (fun pr3 cr3 hv3 => ?_)
   cases hv3
   refine g_val rfl rfl rfl (y_llen rfl Try.underlying28) ?_
   refine xg 2 [0] rfl rfl ?_
   refine n_ (t_ ?_)
   refine g_casep 34 rfl (fun h4 => ?_) fun h4 => ?_
   ·refine g_cond_t rfl (g_skip (t_ (g_block (s_ (o_ ?_)))))
    refine xg 2 [] rfl rfl ?_
    refine g_val rfl rfl rfl (y_rdAddr hrdl rfl rfl Try.underlying36 Try.sizeOf57 (by omega) (by omega)) ?_
    refine g_val (v := .agg (shC (f a.toNat)).toArray) rfl rfl rfl (y_rdAgg (i := a) (vs := shC (f a.toNat)) hrdl rfl Try.isAgg57 Try.sizeOf57 (by omega) (by omega) rfl (fun j hj => shF_get f a.toNat j hj)) ?_
    have hmi := (f a.toNat).hm
    have hma := (f a.toNat).hx
    have hcl := (f a.toNat).c.toNat_lt
    refine g_alloc rfl rfl Try.zeroValue57 rfl (fun b1 => ?_)
    refine xg 1 [0] rfl (by omega) ?_
    refine ntso_ ?_
    refine xg 3 [] rfl (by omega) ?_
    refine ntso_ ?_
    refine xg 2 [0] rfl (by omega) ?_
    refine g_val (v := .int .u8 (((f a.toNat).c.toNat % 26 : Nat) : Int)) rfl rfl rfl (y_eqv (y_irem rfl rfl (by decide)) (by rw [rem26])) ?_
    refine g_val (v := .int .u8 ((97 + (f a.toNat).c.toNat % 26 : Nat) : Int)) rfl rfl rfl (y_eqv (y_iadd rfl rfl) (by rw [wrap_u8 (by omega)]; rfl)) ?_
    refine xg 1 [] rfl rfl ?_
    refine ntso_ ?_
    refine xg 3 [] rfl rfl ?_
    refine g_call1 rfl rfl rfl Try.call10 (fun w hS => rwith_any s0 (97 + (f a.toNat).c.toNat % 26) (97 + (f a.toNat).c.toNat % 26) (by omega) (by omega) w) ?_
    refine g_val (v := .agg (nC (.mk 1 (withS s0 (97 + (f a.toNat).c.toNat % 26) ((97 + (f a.toNat).c.toNat % 26) + 1 - (97 + (f a.toNat).c.toNat % 26))) 0 0 0 nilS [])).toArray) rfl rfl rfl (y_builtE (z := nC (.mk 1 (withS s0 (97 + (f a.toNat).c.toNat % 26) ((97 + (f a.toNat).c.toNat % 26) + 1 - (97 + (f a.toNat).c.toNat % 26))) 0 0 0 nilS [])) rfl (by kernel_rfl)) ?_
    refine g_alloc rfl rfl Try.zeroValue30 rfl (fun b2 => ?_)
    refine g_stN 0 rfl rfl rfl (by kernel_rfl) rfl rfl rfl (nC_len _) ?_
    simp only [List.set_cons_zero]
    refine n_ (t_ (s_ (s_ (o_ ?_))))
    refine xg 3 [1] rfl (by omega) ?_
    refine g_caseb 52 rfl (fun h5 => ?_) fun h5 => ?_
    ·refine xg 4 [0] rfl rfl ?_
     refine g_casep 56 rfl (fun h6 => ?_) fun h6 => ?_
     ·refine xg 3 [0] rfl rfl ?_
      refine n_ (t_ ?_)
      refine g_cutc (α := {x : MT × Int × Int // PK 1 True x.1 a g x.2.1 x.2.2}) (fun x => [(0, .slice p n cap), (1, .int .i64 x.1.2.1), (2, .int .i64 x.1.2.2), (3, .int .i64 (D : Int)), (11, (.slice pr3 (ts.length) cr3)), (12, .pointer (some ⟨b1, 0, none⟩)), (14, .pointer (some ⟨b2, 0, none⟩))]) (fun x => [.row 30 9 (.slice pr3 (ts.length) cr3) ts.length (ts.flatMap nC), .forest ts, .cells b1 57 (shC (f a.toNat)), .cells b2 30 (nC x.1.1), .forest [x.1.1]]) ?_ ?_
      ·rintro ⟨⟨⟨k1, s1, m1, x1, u1, v1, q1⟩, a1, g1⟩, hpk⟩
       try dsimp only
       dsimp only at hpk
       refine g_kids 4 rfl (fun p1 c1 hv => ?_)
       cases hv
       obtain ⟨hk1, hk2, hk3, hk4, _⟩ := id hpk
       refine t_ (s_ (s_ (o_ ?_)))
       refine xg 2 [2] rfl (by omega) ?_
       refine n_ (t_ ?_)
       refine g_cutc (α := {x : MT // PK 0 False x a g a1 g1}) (fun x => [(0, .slice p n cap), (1, .int .i64 a1), (2, .int .i64 g1), (3, .int .i64 (D : Int)), (11, (.slice pr3 (ts.length) cr3)), (14, .pointer (some ⟨b2, 0, none⟩))]) (fun x => [.row 30 9 (.slice pr3 (ts.length) cr3) ts.length (ts.flatMap nC), .forest ts, .cells b2 30 (nC x.1), .forest [x.1]]) ?_ ?_
       ·rintro ⟨⟨k3, s3, m3, x3, u3, v3, q3⟩, hpk3⟩
        try dsimp only
        refine g_kids 3 rfl (fun p3 c3 hv => ?_)
        cases hv
        refine t_ (o_ ?_)
        refine xg 1 [] rfl rfl ?_
        refine g_val rfl rfl rfl (y_ldN (vs := nC (.mk k3 s3 m3 x3 u3 (.slice p3 q3.length c3) q3)) 2 rfl Try.isAgg30 Try.sizeOf30 rfl rfl rfl) ?_
        refine g_buildSlice (offs := [0]) rfl rfl Try.underlying28 rfl Try.zeroValue30 (by kernel_rfl) (fun b3 => ?_)
        refine g_appS (bytes := 88) nC ((.mk k3 s3 m3 x3 u3 (.slice p3 q3.length c3) q3)) 1 (j := 0) rfl rfl rfl rfl Try.underlying28 (by kernel_rfl) rfl rfl nC_len rfl (by omega) (by have : maxLen = 9223372036854775807 := rfl; omega) (fun v4 => ?_)
        simp only [List.set_cons_zero, List.set_cons_succ]
        refine xg 1 [] rfl rfl ?_
        refine n_ (g_in_normal ?_)
        refine g_perm (.trans (.cons _ (.swap _ _ _)) (.trans (.swap _ _ _) (.trans (.cons _ (.cons _ (.cons _ (.swap _ _ _)))) (.trans (.cons _ (.cons _ (.swap _ _ _))) (.cons _ (.swap _ _ _)))))) ?_
        refine g_grow ?_
        exact g_again ⟨(_, ts ++ [(.mk k3 s3 m3 x3 u3 (.slice p3 q3.length c3) q3)], a1, g1), BT_more hbt (by omega) hpk3⟩ [0, 1, 2, 3, 11] (by dsimp only; omega) rfl (fun w h => h.pick [2,0] rfl)
       intro hj
       refine g_caseb 90 rfl (fun h7 => ?_) fun h7 => ?_
       ·refine g_cond_t rfl (s_ (o_ ?_))
        refine xg 3 [2] rfl (by omega) ?_
        refine n_ (t_ (s_ (s_ (o_ ?_))))
        refine xg 2 [0] rfl rfl ?_
        refine n_ (t_ ?_)
        refine g_casep 94 rfl (fun h8 => ?_) fun h8 => ?_
        ·refine g_cond_t rfl (o_ ?_)
         refine xg 4 [] rfl (by omega) ?_
         refine ntso_ ?_
         refine xg 3 [] rfl (by omega) ?_
         refine ntso_ ?_
         refine xg 1 [] rfl rfl ?_
         refine n_ (t_ (s_ (s_ (o_ ?_))))
         refine xg 3 [2,0] rfl (by omega) ?_
         refine n_ (t_ ?_)
         refine g_casep 102 rfl (fun h9 => ?_) fun h9 => ?_
         ·refine g_cond_t rfl (o_ ?_)
          refine xg 5 [2] rfl (by omega) ?_
          refine g_val rfl rfl rfl (y_irem rfl rfl (by omega)) ?_
          have hr1 : 0 ≤ (Int.tmod (f a.toNat).ma (21 - ((0 - ((f a.toNat).mi + 1)) % 21))) := Int.tmod_nonneg _ (by omega)
          have hr2 : (Int.tmod (f a.toNat).ma (21 - ((0 - ((f a.toNat).mi + 1)) % 21))) < (21 - ((0 - ((f a.toNat).mi + 1)) % 21)) := Int.tmod_lt_of_pos _ (by omega)
          refine xg 2 [] rfl (by omega) ?_
          refine nto_ ?_
          refine xg 2 [] rfl rfl ?_
          refine g_val rfl rfl rfl (y_ldN (vs := nC (.mk k1 s1 m1 x1 u1 (.slice p1 q1.length c1) q1)) 3 rfl Try.isAgg30 Try.sizeOf30 rfl rfl rfl) ?_
          refine g_buildSlice (offs := [0]) rfl rfl Try.underlying28 rfl Try.zeroValue30 (by kernel_rfl) (fun b5 => ?_)
          refine g_val (v := .agg (nC (.mk 4 s0 ((0 - ((f a.toNat).mi + 1)) % 21) (((0 - ((f a.toNat).mi + 1)) % 21) + (Int.tmod (f a.toNat).ma (21 - ((0 - ((f a.toNat).mi + 1)) % 21)))) 0 (.slice (some ⟨b5, 0, none⟩) 1 1) [(.mk k1 s1 m1 x1 u1 (.slice p1 q1.length c1) q1)])).toArray) rfl rfl rfl (y_builtE (z := nC (.mk 4 s0 ((0 - ((f a.toNat).mi + 1)) % 21) (((0 - ((f a.toNat).mi + 1)) % 21) + (Int.tmod (f a.toNat).ma (21 - ((0 - ((f a.toNat).mi + 1)) % 21)))) 0 (.slice (some ⟨b5, 0, none⟩) 1 1) [(.mk k1 s1 m1 x1 u1 (.slice p1 q1.length c1) q1)])) rfl (by kernel_rfl)) ?_
          refine g_stN 4 rfl rfl rfl (by kernel_rfl) rfl rfl rfl (nC_len _) ?_
          simp only [List.set_cons_zero, List.set_cons_succ]
          refine g_rowOf (n := 1) nC [(.mk k1 s1 m1 x1 u1 (.slice p1 q1.length c1) q1)] 0 rfl rfl nC_len rfl (by decide) ?_
          simp only [List.set_cons_zero]
          refine g_perm (.trans (.cons _ (.cons _ (.cons _ (.cons _ (.swap _ _ _))))) (.trans (.cons _ (.cons _ (.cons _ (.swap _ _ _)))) (.trans (.cons _ (.cons _ (.swap _ _ _))) (.cons _ (.swap _ _ _))))) ?_
          refine g_node 4 s0 ((0 - ((f a.toNat).mi + 1)) % 21) (((0 - ((f a.toNat).mi + 1)) % 21) + (Int.tmod (f a.toNat).ma (21 - ((0 - ((f a.toNat).mi + 1)) % 21)))) 0 rfl ?_
          refine n_ ?_
          exact g_fall (hj ⟨(.mk 4 s0 ((0 - ((f a.toNat).mi + 1)) % 21) (((0 - ((f a.toNat).mi + 1)) % 21) + (Int.tmod (f a.toNat).ma (21 - ((0 - ((f a.toNat).mi + 1)) % 21)))) 0 (.slice (some ⟨b5, 0, none⟩) 1 1) [(.mk k1 s1 m1 x1 u1 (.slice p1 q1.length c1) q1)]), PK_rep hpk ⟨by omega, by omega⟩ ⟨by omega, by omega⟩⟩) [0, 1, 2, 3, 11, 14] rfl (fun w h => h.pick [1,1,2,0] rfl)
         refine g_cond_f rfl (g_skip (t_ (o_ ?_)))
         refine xg 2 [] rfl rfl ?_
         refine g_val rfl rfl rfl (y_ldN (vs := nC (.mk k1 s1 m1 x1 u1 (.slice p1 q1.length c1) q1)) 3 rfl Try.isAgg30 Try.sizeOf30 rfl rfl rfl) ?_
         refine g_buildSlice (offs := [0]) rfl rfl Try.underlying28 rfl Try.zeroValue30 (by kernel_rfl) (fun b6 => ?_)
         refine g_val (v := .agg (nC (.mk 4 s0 ((0 - ((f a.toNat).mi + 1)) % 21) (-1) 0 (.slice (some ⟨b6, 0, none⟩) 1 1) [(.mk k1 s1 m1 x1 u1 (.slice p1 q1.length c1) q1)])).toArray) rfl rfl rfl (y_builtE (z := nC (.mk 4 s0 ((0 - ((f a.toNat).mi + 1)) % 21) (-1) 0 (.slice (some ⟨b6, 0, none⟩) 1 1) [(.mk k1 s1 m1 x1 u1 (.slice p1 q1.length c1) q1)])) rfl (by kernel_rfl)) ?_
         refine g_stN 4 rfl rfl rfl (by kernel_rfl) rfl rfl rfl (nC_len _) ?_
         simp only [List.set_cons_zero, List.set_cons_succ]
         refine g_rowOf (n := 1) nC [(.mk k1 s1 m1 x1 u1 (.slice p1 q1.length c1) q1)] 0 rfl rfl nC_len rfl (by decide) ?_
         simp only [List.set_cons_zero]
         refine g_perm (.trans (.cons _ (.cons _ (.cons _ (.cons _ (.swap _ _ _))))) (.trans (.cons _ (.cons _ (.cons _ (.swap _ _ _)))) (.trans (.cons _ (.cons _ (.swap _ _ _))) (.cons _ (.swap _ _ _))))) ?_
         refine g_node 4 s0 ((0 - ((f a.toNat).mi + 1)) % 21) (-1) 0 rfl ?_
         refine n_ ?_
         exact g_fall (hj ⟨(.mk 4 s0 ((0 - ((f a.toNat).mi + 1)) % 21) (-1) 0 (.slice (some ⟨b6, 0, none⟩) 1 1) [(.mk k1 s1 m1 x1 u1 (.slice p1 q1.length c1) q1)]), PK_rep hpk ⟨by omega, by omega⟩ ⟨by omega, by omega⟩⟩) [0, 1, 2, 3, 11, 14] rfl (fun w h => h.pick [1,1,2,0] rfl)
        refine g_cond_f rfl (g_skip (t_ (s_ (o_ ?_))))
        refine xg 3 [] rfl (by omega) ?_
        refine ntso_ ?_
        refine xg 1 [] rfl rfl ?_
        refine n_ (t_ (s_ (s_ (o_ ?_))))
        refine xg 3 [2,0] rfl (by omega) ?_
        refine n_ (t_ ?_)
        refine g_casep 102 rfl (fun h10 => ?_) fun h10 => ?_
        ·refine g_cond_t rfl (o_ ?_)
         refine xg 5 [2] rfl (by omega) ?_
         refine g_val rfl rfl rfl (y_irem rfl rfl (by omega)) ?_
         have hr1 : 0 ≤ (Int.tmod (f a.toNat).ma (21 - ((f a.toNat).mi % 21))) := Int.tmod_nonneg _ (by omega)
         have hr2 : (Int.tmod (f a.toNat).ma (21 - ((f a.toNat).mi % 21))) < (21 - ((f a.toNat).mi % 21)) := Int.tmod_lt_of_pos _ (by omega)
         refine xg 2 [] rfl (by omega) ?_
         refine nto_ ?_
         refine xg 2 [] rfl rfl ?_
         refine g_val rfl rfl rfl (y_ldN (vs := nC (.mk k1 s1 m1 x1 u1 (.slice p1 q1.length c1) q1)) 3 rfl Try.isAgg30 Try.sizeOf30 rfl rfl rfl) ?_
         refine g_buildSlice (offs := [0]) rfl rfl Try.underlying28 rfl Try.zeroValue30 (by kernel_rfl) (fun b7 => ?_)
         refine g_val (v := .agg (nC (.mk 4 s0 ((f a.toNat).mi % 21) (((f a.toNat).mi % 21) + (Int.tmod (f a.toNat).ma (21 - ((f a.toNat).mi % 21)))) 0 (.slice (some ⟨b7, 0, none⟩) 1 1) [(.mk k1 s1 m1 x1 u1 (.slice p1 q1.length c1) q1)])).toArray) rfl rfl rfl (y_builtE (z := nC (.mk 4 s0 ((f a.toNat).mi % 21) (((f a.toNat).mi % 21) + (Int.tmod (f a.toNat).ma (21 - ((f a.toNat).mi % 21)))) 0 (.slice (some ⟨b7, 0, none⟩) 1 1) [(.mk k1 s1 m1 x1 u1 (.slice p1 q1.length c1) q1)])) rfl (by kernel_rfl)) ?_
         refine g_stN 4 rfl rfl rfl (by kernel_rfl) rfl rfl rfl (nC_len _) ?_
         simp only [List.set_cons_zero, List.set_cons_succ]
         refine g_rowOf (n := 1) nC [(.mk k1 s1 m1 x1 u1 (.slice p1 q1.length c1) q1)] 0 rfl rfl nC_len rfl (by decide) ?_
         simp only [List.set_cons_zero]
         refine g_perm (.trans (.cons _ (.cons _ (.cons _ (.cons _ (.swap _ _ _))))) (.trans (.cons _ (.cons _ (.cons _ (.swap _ _ _)))) (.trans (.cons _ (.cons _ (.swap _ _ _))) (.cons _ (.swap _ _ _))))) ?_
         refine g_node 4 s0 ((f a.toNat).mi % 21) (((f a.toNat).mi % 21) + (Int.tmod (f a.toNat).ma (21 - ((f a.toNat).mi % 21)))) 0 rfl ?_
         refine n_ ?_
         exact g_fall (hj ⟨(.mk 4 s0 ((f a.toNat).mi % 21) (((f a.toNat).mi % 21) + (Int.tmod (f a.toNat).ma (21 - ((f a.toNat).mi % 21)))) 0 (.slice (some ⟨b7, 0, none⟩) 1 1) [(.mk k1 s1 m1 x1 u1 (.slice p1 q1.length c1) q1)]), PK_rep hpk ⟨by omega, by omega⟩ ⟨by omega, by omega⟩⟩) [0, 1, 2, 3, 11, 14] rfl (fun w h => h.pick [1,1,2,0] rfl)
        refine g_cond_f rfl (g_skip (t_ (o_ ?_)))
        refine xg 2 [] rfl rfl ?_
        refine g_val rfl rfl rfl (y_ldN (vs := nC (.mk k1 s1 m1 x1 u1 (.slice p1 q1.length c1) q1)) 3 rfl Try.isAgg30 Try.sizeOf30 rfl rfl rfl) ?_
        refine g_buildSlice (offs := [0]) rfl rfl Try.underlying28 rfl Try.zeroValue30 (by kernel_rfl) (fun b8 => ?_)
        refine g_val (v := .agg (nC (.mk 4 s0 ((f a.toNat).mi % 21) (-1) 0 (.slice (some ⟨b8, 0, none⟩) 1 1) [(.mk k1 s1 m1 x1 u1 (.slice p1 q1.length c1) q1)])).toArray) rfl rfl rfl (y_builtE (z := nC (.mk 4 s0 ((f a.toNat).mi % 21) (-1) 0 (.slice (some ⟨b8, 0, none⟩) 1 1) [(.mk k1 s1 m1 x1 u1 (.slice p1 q1.length c1) q1)])) rfl (by kernel_rfl)) ?_
        refine g_stN 4 rfl rfl rfl (by kernel_rfl) rfl rfl rfl (nC_len _) ?_
        simp only [List.set_cons_zero, List.set_cons_succ]
        refine g_rowOf (n := 1) nC [(.mk k1 s1 m1 x1 u1 (.slice p1 q1.length c1) q1)] 0 rfl rfl nC_len rfl (by decide) ?_
        simp only [List.set_cons_zero]
        refine g_perm (.trans (.cons _ (.cons _ (.cons _ (.cons _ (.swap _ _ _))))) (.trans (.cons _ (.cons _ (.cons _ (.swap _ _ _)))) (.trans (.cons _ (.cons _ (.swap _ _ _))) (.cons _ (.swap _ _ _))))) ?_
        refine g_node 4 s0 ((f a.toNat).mi % 21) (-1) 0 rfl ?_
        refine n_ ?_
        exact g_fall (hj ⟨(.mk 4 s0 ((f a.toNat).mi % 21) (-1) 0 (.slice (some ⟨b8, 0, none⟩) 1 1) [(.mk k1 s1 m1 x1 u1 (.slice p1 q1.length c1) q1)]), PK_rep hpk ⟨by omega, by omega⟩ ⟨by omega, by omega⟩⟩) [0, 1, 2, 3, 11, 14] rfl (fun w h => h.pick [1,1,2,0] rfl)
       refine g_cond_f rfl (g_skip ?_)
       exact g_fall (hj ⟨(.mk k1 s1 m1 x1 u1 (.slice p1 q1.length c1) q1), PK_less hpk⟩) [0, 1, 2, 3, 11, 14] rfl (fun w h => h.pick [0,0,1,1] rfl)
      intro hj
      refine g_casep 59 rfl (fun h11 => ?_) fun h11 => ?_
      ·refine g_cond_t rfl (s_ (o_ ?_))
       refine xg 2 [] rfl rfl ?_
       refine ntso_ ?_
       refine xg 6 [] rfl (by omega) ?_
       obtain ⟨D', rfl⟩ : ∃ D', D = D' + 1 := ⟨D - 1, by omega⟩
       refine g_callNew (fun x : {x : Value × List MT × Int × Int // BT (g + 1) (a + 1) x.2.1 x.2.2.1 x.2.2.2} => .tuple #[x.1.1, .int .i64 x.1.2.2.1, .int .i64 x.1.2.2.2]) (fun x => [.row 30 9 x.1.1 x.1.2.1.length (x.1.2.1.flatMap nC), .forest x.1.2.1]) rfl rfl rfl Try.call11 (fun w hS => by have := ih D' (by omega) (by omega) (a + 1) (g + 1) w (by omega) (by omega) (by omega) (by omega) (rd_keep hrdl hS); rwa [show ((D' : Nat) : Int) = ((D' + 1 : Nat) : Int) - 1 by omega] at this) ?_
       rintro ⟨⟨vk, ts2, a2, g2⟩, hbt2⟩
       dsimp only at hbt2
       simp only [List.cons_append, List.nil_append]
       obtain ⟨hb1, hb2, hb3, hb4, hb5, hb6, _⟩ := id hbt2
       refine xg 1 [] rfl rfl ?_
       refine g_val (v := vk) rfl rfl rfl (y_extract rfl rfl) ?_
       refine g_val (v := .int .i64 a2) rfl rfl rfl (y_extract rfl rfl) ?_
       refine g_val (v := .int .i64 g2) rfl rfl rfl (y_extract rfl rfl) ?_
       refine xg 3 [] rfl rfl ?_
       refine n_ (t_ (s_ ?_))
       rcases ts2 with _ | ⟨⟨k2, s2, m2, x2, u2, v2, q2⟩, _ | ⟨t3, ms2⟩⟩
       ·refine o_ ?_
        refine xg 1 [] rfl rfl ?_
        refine g_rowLen 0 rfl (fun pr12 cr12 hv12 => ?_)
        cases hv12
        refine g_val rfl rfl rfl (y_llen rfl Try.underlying28) ?_
        refine xg 1 [0] rfl rfl ?_
        refine g_lit 74 false rfl (by simp) ?_
        refine n_ (t_ (g_cond_f rfl (g_skip ?_)))
        refine g_leaf 1 (withS s0 (97 + (f a.toNat).c.toNat % 26) ((97 + (f a.toNat).c.toNat % 26) + 1 - (97 + (f a.toNat).c.toNat % 26))) 0 0 0 ?_
        exact g_fall (hj ⟨((.mk 1 (withS s0 (97 + (f a.toNat).c.toNat % 26) ((97 + (f a.toNat).c.toNat % 26) + 1 - (97 + (f a.toNat).c.toNat % 26))) 0 0 0 nilS []), a + 1, g), PK_leaf (by omega) (by omega) (by omega)⟩) [0, 1, 2, 3, 11, 12, 14] rfl (fun w h => h.pick [5,5,4,3,0] rfl)
       ·refine g_kids 1 rfl (fun p2 c2 hv => ?_)
        cases hv
        have hone2 : ([.mk k2 s2 m2 x2 u2 (.slice p2 q2.length c2) q2] : List MT).length = 1 := rfl
        refine o_ ?_
        refine xg 1 [] rfl rfl ?_
        refine g_rowLen 0 rfl (fun pr13 cr13 hv13 => ?_)
        cases hv13
        refine g_val rfl rfl rfl (y_llen rfl Try.underlying28) ?_
        refine xg 1 [0] rfl rfl ?_
        refine g_lit 74 true rfl (by simp; try omega) ?_
        refine n_ (t_ (g_cond_t rfl (s_ (o_ ?_))))
        refine xg 2 [] rfl rfl ?_
        refine ntso_ ?_
        refine xg 2 [] rfl rfl ?_
        refine ntso_ ?_
        refine xg 1 [] rfl rfl ?_
        refine g_val (v := .agg (nC (.mk 2 s0 0 0 0 (.slice pr13 (([.mk k2 s2 m2 x2 u2 (.slice p2 q2.length c2) q2] : List MT).length) cr13) ([.mk k2 s2 m2 x2 u2 (.slice p2 q2.length c2) q2] : List MT))).toArray) rfl rfl rfl (y_builtE (z := nC (.mk 2 s0 0 0 0 (.slice pr13 (([.mk k2 s2 m2 x2 u2 (.slice p2 q2.length c2) q2] : List MT).length) cr13) ([.mk k2 s2 m2 x2 u2 (.slice p2 q2.length c2) q2] : List MT))) rfl (by kernel_rfl)) ?_
        refine g_alloc rfl rfl Try.zeroValue30 rfl (fun b9 => ?_)
        refine g_stN 0 rfl rfl rfl (by kernel_rfl) rfl rfl rfl (nC_len _) ?_
        simp only [List.set_cons_zero]
        refine n_ (t_ (s_ (s_ (o_ ?_))))
        refine xg 3 [0] rfl rfl ?_
        refine g_lit 81 true rfl (by simp) ?_
        refine n_ (t_ (g_cond_t rfl (o_ ?_)))
        refine xg 1 [] rfl rfl ?_
        refine g_rowCase 1 rfl (by omega) (fun gr14 cr14 hv14 => ?_)
        cases hv14
        refine g_val rfl rfl rfl (y_idxAddr (m := 0 * 9 + 0) rfl rfl Try.underlying28 Try.sizeOf30 (by omega) (by omega) (by omega)) ?_
        refine g_val (v := .agg (nC (.mk k2 s2 m2 x2 u2 (.slice p2 q2.length c2) q2)).toArray) rfl rfl rfl (y_ldRN (k := 9) (vs := nC (.mk k2 s2 m2 x2 u2 (.slice p2 q2.length c2) q2)) 1 rfl Try.isAgg30 Try.sizeOf30 rfl rfl rfl) ?_
        refine g_stN 0 rfl rfl rfl (by kernel_rfl) rfl rfl rfl (nC_len _) ?_
        simp only [List.set_cons_zero]
        refine nto_ ?_
        refine xg 1 [] rfl rfl ?_
        refine g_val rfl rfl rfl (y_ldN (vs := nC (.mk k2 s2 m2 x2 u2 (.slice p2 q2.length c2) q2)) 0 rfl Try.isAgg30 Try.sizeOf30 rfl rfl rfl) ?_
        refine g_buildSlice (offs := [0]) rfl rfl Try.underlying28 rfl Try.zeroValue30 (by kernel_rfl) (fun b10 => ?_)
        refine g_val (v := .agg (nC (.mk 5 s0 0 0 g (.slice (some ⟨b10, 0, none⟩) 1 1) [(.mk k2 s2 m2 x2 u2 (.slice p2 q2.length c2) q2)])).toArray) rfl rfl rfl (y_builtE (z := nC (.mk 5 s0 0 0 g (.slice (some ⟨b10, 0, none⟩) 1 1) [(.mk k2 s2 m2 x2 u2 (.slice p2 q2.length c2) q2)])) rfl (by kernel_rfl)) ?_
        refine g_stN 4 rfl rfl rfl (by kernel_rfl) rfl rfl rfl (nC_len _) ?_
        simp only [List.set_cons_zero, List.set_cons_succ]
        refine g_rowOf (n := 1) nC [(.mk k2 s2 m2 x2 u2 (.slice p2 q2.length c2) q2)] 0 rfl rfl nC_len rfl (by decide) ?_
        simp only [List.set_cons_zero]
        refine g_perm (.trans (.cons _ (.cons _ (.swap _ _ _))) (.cons _ (.swap _ _ _))) ?_
        refine g_node 5 s0 0 0 g rfl ?_
        refine n_ ?_
        exact g_fall (hj ⟨((.mk 5 s0 0 0 g (.slice (some ⟨b10, 0, none⟩) 1 1) [(.mk k2 s2 m2 x2 u2 (.slice p2 q2.length c2) q2)]), a2, g2), PK_grp (v2 := nilS) (by omega) (by omega) (by simp) hbt2⟩) [0, 1, 2, 3, 11, 12, 14] rfl (fun w h => h.pick [5,5,4,3,0] rfl)
       refine o_ ?_
       refine xg 1 [] rfl rfl ?_
       refine g_rowLen 0 rfl (fun pr15 cr15 hv15 => ?_)
       cases hv15
       refine g_val rfl rfl rfl (y_llen rfl Try.underlying28) ?_
       refine xg 1 [0] rfl rfl ?_
       refine g_lit 74 true rfl (by simp; try omega) ?_
       refine n_ (t_ (g_cond_t rfl (s_ (o_ ?_))))
       refine xg 2 [] rfl rfl ?_
       refine ntso_ ?_
       refine xg 2 [] rfl rfl ?_
       refine ntso_ ?_
       refine xg 1 [] rfl rfl ?_
       refine g_val (v := .agg (nC (.mk 2 s0 0 0 0 (.slice pr15 ((.mk k2 s2 m2 x2 u2 v2 q2 :: t3 :: ms2).length) cr15) (.mk k2 s2 m2 x2 u2 v2 q2 :: t3 :: ms2))).toArray) rfl rfl rfl (y_builtE (z := nC (.mk 2 s0 0 0 0 (.slice pr15 ((.mk k2 s2 m2 x2 u2 v2 q2 :: t3 :: ms2).length) cr15) (.mk k2 s2 m2 x2 u2 v2 q2 :: t3 :: ms2))) rfl (by kernel_rfl)) ?_
       refine g_alloc rfl rfl Try.zeroValue30 rfl (fun b11 => ?_)
       refine g_stN 0 rfl rfl rfl (by kernel_rfl) rfl rfl rfl (nC_len _) ?_
       simp only [List.set_cons_zero]
       refine n_ (t_ (s_ (s_ (o_ ?_))))
       refine xg 3 [0] rfl rfl ?_
       refine g_lit 81 false rfl (by simp; try omega) ?_
       refine n_ (t_ (g_cond_f rfl (g_skip (t_ (o_ ?_)))))
       refine xg 1 [] rfl rfl ?_
       refine g_val rfl rfl rfl (y_ldN (vs := nC (.mk 2 s0 0 0 0 (.slice pr15 ((.mk k2 s2 m2 x2 u2 v2 q2 :: t3 :: ms2).length) cr15) (.mk k2 s2 m2 x2 u2 v2 q2 :: t3 :: ms2))) 0 rfl Try.isAgg30 Try.sizeOf30 rfl rfl rfl) ?_
       refine g_buildSlice (offs := [0]) rfl rfl Try.underlying28 rfl Try.zeroValue30 (by kernel_rfl) (fun b12 => ?_)
       refine g_val (v := .agg (nC (.mk 5 s0 0 0 g (.slice (some ⟨b12, 0, none⟩) 1 1) [(.mk 2 s0 0 0 0 (.slice pr15 ((.mk k2 s2 m2 x2 u2 v2 q2 :: t3 :: ms2).length) cr15) (.mk k2 s2 m2 x2 u2 v2 q2 :: t3 :: ms2))])).toArray) rfl rfl rfl (y_builtE (z := nC (.mk 5 s0 0 0 g (.slice (some ⟨b12, 0, none⟩) 1 1) [(.mk 2 s0 0 0 0 (.slice pr15 ((.mk k2 s2 m2 x2 u2 v2 q2 :: t3 :: ms2).length) cr15) (.mk k2 s2 m2 x2 u2 v2 q2 :: t3 :: ms2))])) rfl (by kernel_rfl)) ?_
       refine g_perm (.trans (.cons _ (.swap _ _ _)) (.trans (.swap _ _ _) (.trans (.cons _ (.cons _ (.swap _ _ _))) (.cons _ (.swap _ _ _))))) ?_
       refine g_node 2 s0 0 0 0 rfl ?_
       refine g_stN 3 rfl rfl rfl (by kernel_rfl) rfl rfl rfl (nC_len _) ?_
       simp only [List.set_cons_zero, List.set_cons_succ]
       refine g_rowOf (n := 1) nC [(.mk 2 s0 0 0 0 (.slice pr15 ((.mk k2 s2 m2 x2 u2 v2 q2 :: t3 :: ms2).length) cr15) (.mk k2 s2 m2 x2 u2 v2 q2 :: t3 :: ms2))] 1 rfl rfl nC_len rfl (by decide) ?_
       simp only [List.set_cons_zero, List.set_cons_succ]
       refine g_perm (.swap _ _ _) ?_
       refine g_node 5 s0 0 0 g rfl ?_
       refine n_ ?_
       exact g_fall (hj ⟨((.mk 5 s0 0 0 g (.slice (some ⟨b12, 0, none⟩) 1 1) [(.mk 2 s0 0 0 0 (.slice pr15 ((.mk k2 s2 m2 x2 u2 v2 q2 :: t3 :: ms2).length) cr15) (.mk k2 s2 m2 x2 u2 v2 q2 :: t3 :: ms2))]), a2, g2), PK_grp (v2 := (.slice pr15 ((.mk k2 s2 m2 x2 u2 v2 q2 :: t3 :: ms2).length) cr15)) (by omega) (by omega) (by simp) hbt2⟩) [0, 1, 2, 3, 11, 12, 14] rfl (fun w h => h.pick [4,4,3,2,0] rfl)
      refine g_cond_f rfl (g_skip ?_)
      refine g_leaf 1 (withS s0 (97 + (f a.toNat).c.toNat % 26) ((97 + (f a.toNat).c.toNat % 26) + 1 - (97 + (f a.toNat).c.toNat % 26))) 0 0 0 ?_
      exact g_fall (hj ⟨((.mk 1 (withS s0 (97 + (f a.toNat).c.toNat % 26) ((97 + (f a.toNat).c.toNat % 26) + 1 - (97 + (f a.toNat).c.toNat % 26))) 0 0 0 nilS []), a + 1, g), PK_leaf (by omega) (by omega) (by omega)⟩) [0, 1, 2, 3, 11, 12, 14] rfl (fun w h => h.pick [3,3,2,1,0] rfl)
     refine xg 3 [] rfl rfl ?_
     refine n_ (t_ ?_)
     refine g_cutc (α := {x : MT × Int × Int // PK 1 True x.1 a g x.2.1 x.2.2}) (fun x => [(0, .slice p n cap), (1, .int .i64 x.1.2.1), (2, .int .i64 x.1.2.2), (3, .int .i64 (D : Int)), (11, (.slice pr3 (ts.length) cr3)), (12, .pointer (some ⟨b1, 0, none⟩)), (14, .pointer (some ⟨b2, 0, none⟩))]) (fun x => [.row 30 9 (.slice pr3 (ts.length) cr3) ts.length (ts.flatMap nC), .forest ts, .cells b1 57 (shC (f a.toNat)), .cells b2 30 (nC x.1.1), .forest [x.1.1]]) ?_ ?_
     ·rintro ⟨⟨⟨k1, s1, m1, x1, u1, v1, q1⟩, a1, g1⟩, hpk⟩
      try dsimp only
      dsimp only at hpk
      refine g_kids 4 rfl (fun p1 c1 hv => ?_)
      cases hv
      obtain ⟨hk1, hk2, hk3, hk4, _⟩ := id hpk
      refine t_ (s_ (s_ (o_ ?_)))
      refine xg 2 [2] rfl (by omega) ?_
      refine n_ (t_ ?_)
      refine g_cutc (α := {x : MT // PK 0 False x a g a1 g1}) (fun x => [(0, .slice p n cap), (1, .int .i64 a1), (2, .int .i64 g1), (3, .int .i64 (D : Int)), (11, (.slice pr3 (ts.length) cr3)), (14, .pointer (some ⟨b2, 0, none⟩))]) (fun x => [.row 30 9 (.slice pr3 (ts.length) cr3) ts.length (ts.flatMap nC), .forest ts, .cells b2 30 (nC x.1), .forest [x.1]]) ?_ ?_
      ·rintro ⟨⟨k3, s3, m3, x3, u3, v3, q3⟩, hpk3⟩
       try dsimp only
       refine g_kids 3 rfl (fun p3 c3 hv => ?_)
       cases hv
       refine t_ (o_ ?_)
       refine xg 1 [] rfl rfl ?_
       refine g_val rfl rfl rfl (y_ldN (vs := nC (.mk k3 s3 m3 x3 u3 (.slice p3 q3.length c3) q3)) 2 rfl Try.isAgg30 Try.sizeOf30 rfl rfl rfl) ?_
       refine g_buildSlice (offs := [0]) rfl rfl Try.underlying28 rfl Try.zeroValue30 (by kernel_rfl) (fun b13 => ?_)
       refine g_appS (bytes := 88) nC ((.mk k3 s3 m3 x3 u3 (.slice p3 q3.length c3) q3)) 1 (j := 0) rfl rfl rfl rfl Try.underlying28 (by kernel_rfl) rfl rfl nC_len rfl (by omega) (by have : maxLen = 9223372036854775807 := rfl; omega) (fun v14 => ?_)
       simp only [List.set_cons_zero, List.set_cons_succ]
       refine xg 1 [] rfl rfl ?_
       refine n_ (g_in_normal ?_)
       refine g_perm (.trans (.cons _ (.swap _ _ _)) (.trans (.swap _ _ _) (.trans (.cons _ (.cons _ (.cons _ (.swap _ _ _)))) (.trans (.cons _ (.cons _ (.swap _ _ _))) (.cons _ (.swap _ _ _)))))) ?_
       refine g_grow ?_
       exact g_again ⟨(_, ts ++ [(.mk k3 s3 m3 x3 u3 (.slice p3 q3.length c3) q3)], a1, g1), BT_more hbt (by omega) hpk3⟩ [0, 1, 2, 3, 11] (by dsimp only; omega) rfl (fun w h => h.pick [2,0] rfl)
      intro hj
      refine g_caseb 90 rfl (fun h16 => ?_) fun h16 => ?_
      ·refine g_cond_t rfl (s_ (o_ ?_))
       refine xg 3 [2] rfl (by omega) ?_
       refine n_ (t_ (s_ (s_ (o_ ?_))))
       refine xg 2 [0] rfl rfl ?_
       refine n_ (t_ ?_)
       refine g_casep 94 rfl (fun h17 => ?_) fun h17 => ?_
       ·refine g_cond_t rfl (o_ ?_)
        refine xg 4 [] rfl (by omega) ?_
        refine ntso_ ?_
        refine xg 3 [] rfl (by omega) ?_
        refine ntso_ ?_
        refine xg 1 [] rfl rfl ?_
        refine n_ (t_ (s_ (s_ (o_ ?_))))
        refine xg 3 [2,0] rfl (by omega) ?_
        refine n_ (t_ ?_)
        refine g_casep 102 rfl (fun h18 => ?_) fun h18 => ?_
        ·refine g_cond_t rfl (o_ ?_)
         refine xg 5 [2] rfl (by omega) ?_
         refine g_val rfl rfl rfl (y_irem rfl rfl (by omega)) ?_
         have hr1 : 0 ≤ (Int.tmod (f a.toNat).ma (21 - ((0 - ((f a.toNat).mi + 1)) % 21))) := Int.tmod_nonneg _ (by omega)
         have hr2 : (Int.tmod (f a.toNat).ma (21 - ((0 - ((f a.toNat).mi + 1)) % 21))) < (21 - ((0 - ((f a.toNat).mi + 1)) % 21)) := Int.tmod_lt_of_pos _ (by omega)
         refine xg 2 [] rfl (by omega) ?_
         refine nto_ ?_
         refine xg 2 [] rfl rfl ?_
         refine g_val rfl rfl rfl (y_ldN (vs := nC (.mk k1 s1 m1 x1 u1 (.slice p1 q1.length c1) q1)) 3 rfl Try.isAgg30 Try.sizeOf30 rfl rfl rfl) ?_
         refine g_buildSlice (offs := [0]) rfl rfl Try.underlying28 rfl Try.zeroValue30 (by kernel_rfl) (fun b15 => ?_)
         refine g_val (v := .agg (nC (.mk 4 s0 ((0 - ((f a.toNat).mi + 1)) % 21) (((0 - ((f a.toNat).mi + 1)) % 21) + (Int.tmod (f a.toNat).ma (21 - ((0 - ((f a.toNat).mi + 1)) % 21)))) 0 (.slice (some ⟨b15, 0, none⟩) 1 1) [(.mk k1 s1 m1 x1 u1 (.slice p1 q1.length c1) q1)])).toArray) rfl rfl rfl (y_builtE (z := nC (.mk 4 s0 ((0 - ((f a.toNat).mi + 1)) % 21) (((0 - ((f a.toNat).mi + 1)) % 21) + (Int.tmod (f a.toNat).ma (21 - ((0 - ((f a.toNat).mi + 1)) % 21)))) 0 (.slice (some ⟨b15, 0, none⟩) 1 1) [(.mk k1 s1 m1 x1 u1 (.slice p1 q1.length c1) q1)])) rfl (by kernel_rfl)) ?_
         refine g_stN 4 rfl rfl rfl (by kernel_rfl) rfl rfl rfl (nC_len _) ?_
         simp only [List.set_cons_zero, List.set_cons_succ]
         refine g_rowOf (n := 1) nC [(.mk k1 s1 m1 x1 u1 (.slice p1 q1.length c1) q1)] 0 rfl rfl nC_len rfl (by decide) ?_
         simp only [List.set_cons_zero]
         refine g_perm (.trans (.cons _ (.cons _ (.cons _ (.cons _ (.swap _ _ _))))) (.trans (.cons _ (.cons _ (.cons _ (.swap _ _ _)))) (.trans (.cons _ (.cons _ (.swap _ _ _))) (.cons _ (.swap _ _ _))))) ?_
         refine g_node 4 s0 ((0 - ((f a.toNat).mi + 1)) % 21) (((0 - ((f a.toNat).mi + 1)) % 21) + (Int.tmod (f a.toNat).ma (21 - ((0 - ((f a.toNat).mi + 1)) % 21)))) 0 rfl ?_
         refine n_ ?_
         exact g_fall (hj ⟨(.mk 4 s0 ((0 - ((f a.toNat).mi + 1)) % 21) (((0 - ((f a.toNat).mi + 1)) % 21) + (Int.tmod (f a.toNat).ma (21 - ((0 - ((f a.toNat).mi + 1)) % 21)))) 0 (.slice (some ⟨b15, 0, none⟩) 1 1) [(.mk k1 s1 m1 x1 u1 (.slice p1 q1.length c1) q1)]), PK_rep hpk ⟨by omega, by omega⟩ ⟨by omega, by omega⟩⟩) [0, 1, 2, 3, 11, 14] rfl (fun w h => h.pick [1,1,2,0] rfl)
        refine g_cond_f rfl (g_skip (t_ (o_ ?_)))
        refine xg 2 [] rfl rfl ?_
        refine g_val rfl rfl rfl (y_ldN (vs := nC (.mk k1 s1 m1 x1 u1 (.slice p1 q1.length c1) q1)) 3 rfl Try.isAgg30 Try.sizeOf30 rfl rfl rfl) ?_
        refine g_buildSlice (offs := [0]) rfl rfl Try.underlying28 rfl Try.zeroValue30 (by kernel_rfl) (fun b16 => ?_)
        refine g_val (v := .agg (nC (.mk 4 s0 ((0 - ((f a.toNat).mi + 1)) % 21) (-1) 0 (.slice (some ⟨b16, 0, none⟩) 1 1) [(.mk k1 s1 m1 x1 u1 (.slice p1 q1.length c1) q1)])).toArray) rfl rfl rfl (y_builtE (z := nC (.mk 4 s0 ((0 - ((f a.toNat).mi + 1)) % 21) (-1) 0 (.slice (some ⟨b16, 0, none⟩) 1 1) [(.mk k1 s1 m1 x1 u1 (.slice p1 q1.length c1) q1)])) rfl (by kernel_rfl)) ?_
        refine g_stN 4 rfl rfl rfl (by kernel_rfl) rfl rfl rfl (nC_len _) ?_
        simp only [List.set_cons_zero, List.set_cons_succ]
        refine g_rowOf (n := 1) nC [(.mk k1 s1 m1 x1 u1 (.slice p1 q1.length c1) q1)] 0 rfl rfl nC_len rfl (by decide) ?_
        simp only [List.set_cons_zero]
        refine g_perm (.trans (.cons _ (.cons _ (.cons _ (.cons _ (.swap _ _ _))))) (.trans (.cons _ (.cons _ (.cons _ (.swap _ _ _)))) (.trans (.cons _ (.cons _ (.swap _ _ _))) (.cons _ (.swap _ _ _))))) ?_
        refine g_node 4 s0 ((0 - ((f a.toNat).mi + 1)) % 21) (-1) 0 rfl ?_
        refine n_ ?_
        exact g_fall (hj ⟨(.mk 4 s0 ((0 - ((f a.toNat).mi + 1)) % 21) (-1) 0 (.slice (some ⟨b16, 0, none⟩) 1 1) [(.mk k1 s1 m1 x1 u1 (.slice p1 q1.length c1) q1)]), PK_rep hpk ⟨by omega, by omega⟩ ⟨by omega, by omega⟩⟩) [0, 1, 2, 3, 11, 14] rfl (fun w h => h.pick [1,1,2,0] rfl)
       refine g_cond_f rfl (g_skip (t_ (s_ (o_ ?_))))
       refine xg 3 [] rfl (by omega) ?_
       refine ntso_ ?_
       refine xg 1 [] rfl rfl ?_
       refine n_ (t_ (s_ (s_ (o_ ?_))))
       refine xg 3 [2,0] rfl (by omega) ?_
       refine n_ (t_ ?_)
       refine g_casep 102 rfl (fun h19 => ?_) fun h19 => ?_
       ·refine g_cond_t rfl (o_ ?_)
        refine xg 5 [2] rfl (by omega) ?_
        refine g_val rfl rfl rfl (y_irem rfl rfl (by omega)) ?_
        have hr1 : 0 ≤ (Int.tmod (f a.toNat).ma (21 - ((f a.toNat).mi % 21))) := Int.tmod_nonneg _ (by omega)
        have hr2 : (Int.tmod (f a.toNat).ma (21 - ((f a.toNat).mi % 21))) < (21 - ((f a.toNat).mi % 21)) := Int.tmod_lt_of_pos _ (by omega)
        refine xg 2 [] rfl (by omega) ?_
        refine nto_ ?_
        refine xg 2 [] rfl rfl ?_
        refine g_val rfl rfl rfl (y_ldN (vs := nC (.mk k1 s1 m1 x1 u1 (.slice p1 q1.length c1) q1)) 3 rfl Try.isAgg30 Try.sizeOf30 rfl rfl rfl) ?_
        refine g_buildSlice (offs := [0]) rfl rfl Try.underlying28 rfl Try.zeroValue30 (by kernel_rfl) (fun b17 => ?_)
        refine g_val (v := .agg (nC (.mk 4 s0 ((f a.toNat).mi % 21) (((f a.toNat).mi % 21) + (Int.tmod (f a.toNat).ma (21 - ((f a.toNat).mi % 21)))) 0 (.slice (some ⟨b17, 0, none⟩) 1 1) [(.mk k1 s1 m1 x1 u1 (.slice p1 q1.length c1) q1)])).toArray) rfl rfl rfl (y_builtE (z := nC (.mk 4 s0 ((f a.toNat).mi % 21) (((f a.toNat).mi % 21) + (Int.tmod (f a.toNat).ma (21 - ((f a.toNat).mi % 21)))) 0 (.slice (some ⟨b17, 0, none⟩) 1 1) [(.mk k1 s1 m1 x1 u1 (.slice p1 q1.length c1) q1)])) rfl (by kernel_rfl)) ?_
        refine g_stN 4 rfl rfl rfl (by kernel_rfl) rfl rfl rfl (nC_len _) ?_
        simp only [List.set_cons_zero, List.set_cons_succ]
        refine g_rowOf (n := 1) nC [(.mk k1 s1 m1 x1 u1 (.slice p1 q1.length c1) q1)] 0 rfl rfl nC_len rfl (by decide) ?_
        simp only [List.set_cons_zero]
        refine g_perm (.trans (.cons _ (.cons _ (.cons _ (.cons _ (.swap _ _ _))))) (.trans (.cons _ (.cons _ (.cons _ (.swap _ _ _)))) (.trans (.cons _ (.cons _ (.swap _ _ _))) (.cons _ (.swap _ _ _))))) ?_
        refine g_node 4 s0 ((f a.toNat).mi % 21) (((f a.toNat).mi % 21) + (Int.tmod (f a.toNat).ma (21 - ((f a.toNat).mi % 21)))) 0 rfl ?_
        refine n_ ?_
        exact g_fall (hj ⟨(.mk 4 s0 ((f a.toNat).mi % 21) (((f a.toNat).mi % 21) + (Int.tmod (f a.toNat).ma (21 - ((f a.toNat).mi % 21)))) 0 (.slice (some ⟨b17, 0, none⟩) 1 1) [(.mk k1 s1 m1 x1 u1 (.slice p1 q1.length c1) q1)]), PK_rep hpk ⟨by omega, by omega⟩ ⟨by omega, by omega⟩⟩) [0, 1, 2, 3, 11, 14] rfl (fun w h => h.pick [1,1,2,0] rfl)
       refine g_cond_f rfl (g_skip (t_ (o_ ?_)))
       refine xg 2 [] rfl rfl ?_
       refine g_val rfl rfl rfl (y_ldN (vs := nC (.mk k1 s1 m1 x1 u1 (.slice p1 q1.length c1) q1)) 3 rfl Try.isAgg30 Try.sizeOf30 rfl rfl rfl) ?_
       refine g_buildSlice (offs := [0]) rfl rfl Try.underlying28 rfl Try.zeroValue30 (by kernel_rfl) (fun b18 => ?_)
       refine g_val (v := .agg (nC (.mk 4 s0 ((f a.toNat).mi % 21) (-1) 0 (.slice (some ⟨b18, 0, none⟩) 1 1) [(.mk k1 s1 m1 x1 u1 (.slice p1 q1.length c1) q1)])).toArray) rfl rfl rfl (y_builtE (z := nC (.mk 4 s0 ((f a.toNat).mi % 21) (-1) 0 (.slice (some ⟨b18, 0, none⟩) 1 1) [(.mk k1 s1 m1 x1 u1 (.slice p1 q1.length c1) q1)])) rfl (by kernel_rfl)) ?_
       refine g_stN 4 rfl rfl rfl (by kernel_rfl) rfl rfl rfl (nC_len _) ?_
       simp only [List.set_cons_zero, List.set_cons_succ]
       refine g_rowOf (n := 1) nC [(.mk k1 s1 m1 x1 u1 (.slice p1 q1.length c1) q1)] 0 rfl rfl nC_len rfl (by decide) ?_
       simp only [List.set_cons_zero]
       refine g_perm (.trans (.cons _ (.cons _ (.cons _ (.cons _ (.swap _ _ _))))) (.trans (.cons _ (.cons _ (.cons _ (.swap _ _ _)))) (.trans (.cons _ (.cons _ (.swap _ _ _))) (.cons _ (.swap _ _ _))))) ?_
       refine g_node 4 s0 ((f a.toNat).mi % 21) (-1) 0 rfl ?_
       refine n_ ?_
       exact g_fall (hj ⟨(.mk 4 s0 ((f a.toNat).mi % 21) (-1) 0 (.slice (some ⟨b18, 0, none⟩) 1 1) [(.mk k1 s1 m1 x1 u1 (.slice p1 q1.length c1) q1)]), PK_rep hpk ⟨by omega, by omega⟩ ⟨by omega, by omega⟩⟩) [0, 1, 2, 3, 11, 14] rfl (fun w h => h.pick [1,1,2,0] rfl)
      refine g_cond_f rfl (g_skip ?_)
      exact g_fall (hj ⟨(.mk k1 s1 m1 x1 u1 (.slice p1 q1.length c1) q1), PK_less hpk⟩) [0, 1, 2, 3, 11, 14] rfl (fun w h => h.pick [0,0,1,1] rfl)
     intro hj
     refine g_cond_f rfl (g_skip ?_)
     refine g_leaf 1 (withS s0 (97 + (f a.toNat).c.toNat % 26) ((97 + (f a.toNat).c.toNat % 26) + 1 - (97 + (f a.toNat).c.toNat % 26))) 0 0 0 ?_
     exact g_fall (hj ⟨((.mk 1 (withS s0 (97 + (f a.toNat).c.toNat % 26) ((97 + (f a.toNat).c.toNat % 26) + 1 - (97 + (f a.toNat).c.toNat % 26))) 0 0 0 nilS []), a + 1, g), PK_leaf (by omega) (by omega) (by omega)⟩) [0, 1, 2, 3, 11, 12, 14] rfl (fun w h => h.pick [3,3,2,1,0] rfl)
    refine xg 7 [] rfl rfl ?_
    refine n_ (t_ ?_)
    refine g_cutc (α := {x : MT × Int × Int // PK 1 True x.1 a g x.2.1 x.2.2}) (fun x => [(0, .slice p n cap), (1, .int .i64 x.1.2.1), (2, .int .i64 x.1.2.2), (3, .int .i64 (D : Int)), (11, (.slice pr3 (ts.length) cr3)), (12, .pointer (some ⟨b1, 0, none⟩)), (14, .pointer (some ⟨b2, 0, none⟩))]) (fun x => [.row 30 9 (.slice pr3 (ts.length) cr3) ts.length (ts.flatMap nC), .forest ts, .cells b1 57 (shC (f a.toNat)), .cells b2 30 (nC x.1.1), .forest [x.1.1]]) ?_ ?_
    ·rintro ⟨⟨⟨k1, s1, m1, x1, u1, v1, q1⟩, a1, g1⟩, hpk⟩
     try dsimp only
     dsimp only at hpk
     refine g_kids 4 rfl (fun p1 c1 hv => ?_)
     cases hv
     obtain ⟨hk1, hk2, hk3, hk4, _⟩ := id hpk
     refine t_ (s_ (s_ (o_ ?_)))
     refine xg 2 [2] rfl (by omega) ?_
     refine n_ (t_ ?_)
     refine g_cutc (α := {x : MT // PK 0 False x a g a1 g1}) (fun x => [(0, .slice p n cap), (1, .int .i64 a1), (2, .int .i64 g1), (3, .int .i64 (D : Int)), (11, (.slice pr3 (ts.length) cr3)), (14, .pointer (some ⟨b2, 0, none⟩))]) (fun x => [.row 30 9 (.slice pr3 (ts.length) cr3) ts.length (ts.flatMap nC), .forest ts, .cells b2 30 (nC x.1), .forest [x.1]]) ?_ ?_
     ·rintro ⟨⟨k3, s3, m3, x3, u3, v3, q3⟩, hpk3⟩
      try dsimp only
      refine g_kids 3 rfl (fun p3 c3 hv => ?_)
      cases hv
      refine t_ (o_ ?_)
      refine xg 1 [] rfl rfl ?_
      refine g_val rfl rfl rfl (y_ldN (vs := nC (.mk k3 s3 m3 x3 u3 (.slice p3 q3.length c3) q3)) 2 rfl Try.isAgg30 Try.sizeOf30 rfl rfl rfl) ?_
      refine g_buildSlice (offs := [0]) rfl rfl Try.underlying28 rfl Try.zeroValue30 (by kernel_rfl) (fun b19 => ?_)
      refine g_appS (bytes := 88) nC ((.mk k3 s3 m3 x3 u3 (.slice p3 q3.length c3) q3)) 1 (j := 0) rfl rfl rfl rfl Try.underlying28 (by kernel_rfl) rfl rfl nC_len rfl (by omega) (by have : maxLen = 9223372036854775807 := rfl; omega) (fun v20 => ?_)
      simp only [List.set_cons_zero, List.set_cons_succ]
      refine xg 1 [] rfl rfl ?_
      refine n_ (g_in_normal ?_)
      refine g_perm (.trans (.cons _ (.swap _ _ _)) (.trans (.swap _ _ _) (.trans (.cons _ (.cons _ (.cons _ (.swap _ _ _)))) (.trans (.cons _ (.cons _ (.swap _ _ _))) (.cons _ (.swap _ _ _)))))) ?_
      refine g_grow ?_
      exact g_again ⟨(_, ts ++ [(.mk k3 s3 m3 x3 u3 (.slice p3 q3.length c3) q3)], a1, g1), BT_more hbt (by omega) hpk3⟩ [0, 1, 2, 3, 11] (by dsimp only; omega) rfl (fun w h => h.pick [2,0] rfl)
     intro hj
     refine g_caseb 90 rfl (fun h20 => ?_) fun h20 => ?_
     ·refine g_cond_t rfl (s_ (o_ ?_))
      refine xg 3 [2] rfl (by omega) ?_
      refine n_ (t_ (s_ (s_ (o_ ?_))))
      refine xg 2 [0] rfl rfl ?_
      refine n_ (t_ ?_)
      refine g_casep 94 rfl (fun h21 => ?_) fun h21 => ?_
      ·refine g_cond_t rfl (o_ ?_)
       refine xg 4 [] rfl (by omega) ?_
       refine ntso_ ?_
       refine xg 3 [] rfl (by omega) ?_
       refine ntso_ ?_
       refine xg 1 [] rfl rfl ?_
       refine n_ (t_ (s_ (s_ (o_ ?_))))
       refine xg 3 [2,0] rfl (by omega) ?_
       refine n_ (t_ ?_)
       refine g_casep 102 rfl (fun h22 => ?_) fun h22 => ?_
       ·refine g_cond_t rfl (o_ ?_)
        refine xg 5 [2] rfl (by omega) ?_
        refine g_val rfl rfl rfl (y_irem rfl rfl (by omega)) ?_
        have hr1 : 0 ≤ (Int.tmod (f a.toNat).ma (21 - ((0 - ((f a.toNat).mi + 1)) % 21))) := Int.tmod_nonneg _ (by omega)
        have hr2 : (Int.tmod (f a.toNat).ma (21 - ((0 - ((f a.toNat).mi + 1)) % 21))) < (21 - ((0 - ((f a.toNat).mi + 1)) % 21)) := Int.tmod_lt_of_pos _ (by omega)
        refine xg 2 [] rfl (by omega) ?_
        refine nto_ ?_
        refine xg 2 [] rfl rfl ?_
        refine g_val rfl rfl rfl (y_ldN (vs := nC (.mk k1 s1 m1 x1 u1 (.slice p1 q1.length c1) q1)) 3 rfl Try.isAgg30 Try.sizeOf30 rfl rfl rfl) ?_
        refine g_buildSlice (offs := [0]) rfl rfl Try.underlying28 rfl Try.zeroValue30 (by kernel_rfl) (fun b21 => ?_)
        refine g_val (v := .agg (nC (.mk 4 s0 ((0 - ((f a.toNat).mi + 1)) % 21) (((0 - ((f a.toNat).mi + 1)) % 21) + (Int.tmod (f a.toNat).ma (21 - ((0 - ((f a.toNat).mi + 1)) % 21)))) 0 (.slice (some ⟨b21, 0, none⟩) 1 1) [(.mk k1 s1 m1 x1 u1 (.slice p1 q1.length c1) q1)])).toArray) rfl rfl rfl (y_builtE (z := nC (.mk 4 s0 ((0 - ((f a.toNat).mi + 1)) % 21) (((0 - ((f a.toNat).mi + 1)) % 21) + (Int.tmod (f a.toNat).ma (21 - ((0 - ((f a.toNat).mi + 1)) % 21)))) 0 (.slice (some ⟨b21, 0, none⟩) 1 1) [(.mk k1 s1 m1 x1 u1 (.slice p1 q1.length c1) q1)])) rfl (by kernel_rfl)) ?_
        refine g_stN 4 rfl rfl rfl (by kernel_rfl) rfl rfl rfl (nC_len _) ?_
        simp only [List.set_cons_zero, List.set_cons_succ]
        refine g_rowOf (n := 1) nC [(.mk k1 s1 m1 x1 u1 (.slice p1 q1.length c1) q1)] 0 rfl rfl nC_len rfl (by decide) ?_
        simp only [List.set_cons_zero]
        refine g_perm (.trans (.cons _ (.cons _ (.cons _ (.cons _ (.swap _ _ _))))) (.trans (.cons _ (.cons _ (.cons _ (.swap _ _ _)))) (.trans (.cons _ (.cons _ (.swap _ _ _))) (.cons _ (.swap _ _ _))))) ?_
        refine g_node 4 s0 ((0 - ((f a.toNat).mi + 1)) % 21) (((0 - ((f a.toNat).mi + 1)) % 21) + (Int.tmod (f a.toNat).ma (21 - ((0 - ((f a.toNat).mi + 1)) % 21)))) 0 rfl ?_
        refine n_ ?_
        exact g_fall (hj ⟨(.mk 4 s0 ((0 - ((f a.toNat).mi + 1)) % 21) (((0 - ((f a.toNat).mi + 1)) % 21) + (Int.tmod (f a.toNat).ma (21 - ((0 - ((f a.toNat).mi + 1)) % 21)))) 0 (.slice (some ⟨b21, 0, none⟩) 1 1) [(.mk k1 s1 m1 x1 u1 (.slice p1 q1.length c1) q1)]), PK_rep hpk ⟨by omega, by omega⟩ ⟨by omega, by omega⟩⟩) [0, 1, 2, 3, 11, 14] rfl (fun w h => h.pick [1,1,2,0] rfl)
       refine g_cond_f rfl (g_skip (t_ (o_ ?_)))
       refine xg 2 [] rfl rfl ?_
       refine g_val rfl rfl rfl (y_ldN (vs := nC (.mk k1 s1 m1 x1 u1 (.slice p1 q1.length c1) q1)) 3 rfl Try.isAgg30 Try.sizeOf30 rfl rfl rfl) ?_
       refine g_buildSlice (offs := [0]) rfl rfl Try.underlying28 rfl Try.zeroValue30 (by kernel_rfl) (fun b22 => ?_)
       refine g_val (v := .agg (nC (.mk 4 s0 ((0 - ((f a.toNat).mi + 1)) % 21) (-1) 0 (.slice (some ⟨b22, 0, none⟩) 1 1) [(.mk k1 s1 m1 x1 u1 (.slice p1 q1.length c1) q1)])).toArray) rfl rfl rfl (y_builtE (z := nC (.mk 4 s0 ((0 - ((f a.toNat).mi + 1)) % 21) (-1) 0 (.slice (some ⟨b22, 0, none⟩) 1 1) [(.mk k1 s1 m1 x1 u1 (.slice p1 q1.length c1) q1)])) rfl (by kernel_rfl)) ?_
       refine g_stN 4 rfl rfl rfl (by kernel_rfl) rfl rfl rfl (nC_len _) ?_
       simp only [List.set_cons_zero, List.set_cons_succ]
       refine g_rowOf (n := 1) nC [(.mk k1 s1 m1 x1 u1 (.slice p1 q1.length c1) q1)] 0 rfl rfl nC_len rfl (by decide) ?_
       simp only [List.set_cons_zero]
       refine g_perm (.trans (.cons _ (.cons _ (.cons _ (.cons _ (.swap _ _ _))))) (.trans (.cons _ (.cons _ (.cons _ (.swap _ _ _)))) (.trans (.cons _ (.cons _ (.swap _ _ _))) (.cons _ (.swap _ _ _))))) ?_
       refine g_node 4 s0 ((0 - ((f a.toNat).mi + 1)) % 21) (-1) 0 rfl ?_
       refine n_ ?_
       exact g_fall (hj ⟨(.mk 4 s0 ((0 - ((f a.toNat).mi + 1)) % 21) (-1) 0 (.slice (some ⟨b22, 0, none⟩) 1 1) [(.mk k1 s1 m1 x1 u1 (.slice p1 q1.length c1) q1)]), PK_rep hpk ⟨by omega, by omega⟩ ⟨by omega, by omega⟩⟩) [0, 1, 2, 3, 11, 14] rfl (fun w h => h.pick [1,1,2,0] rfl)
      refine g_cond_f rfl (g_skip (t_ (s_ (o_ ?_))))
      refine xg 3 [] rfl (by omega) ?_
      refine ntso_ ?_
      refine xg 1 [] rfl rfl ?_
      refine n_ (t_ (s_ (s_ (o_ ?_))))
      refine xg 3 [2,0] rfl (by omega) ?_
      refine n_ (t_ ?_)
      refine g_casep 102 rfl (fun h23 => ?_) fun h23 => ?_
      ·refine g_cond_t rfl (o_ ?_)
       refine xg 5 [2] rfl (by omega) ?_
       refine g_val rfl rfl rfl (y_irem rfl rfl (by omega)) ?_
       have hr1 : 0 ≤ (Int.tmod (f a.toNat).ma (21 - ((f a.toNat).mi % 21))) := Int.tmod_nonneg _ (by omega)
       have hr2 : (Int.tmod (f a.toNat).ma (21 - ((f a.toNat).mi % 21))) < (21 - ((f a.toNat).mi % 21)) := Int.tmod_lt_of_pos _ (by omega)
       refine xg 2 [] rfl (by omega) ?_
       refine nto_ ?_
       refine xg 2 [] rfl rfl ?_
       refine g_val rfl rfl rfl (y_ldN (vs := nC (.mk k1 s1 m1 x1 u1 (.slice p1 q1.length c1) q1)) 3 rfl Try.isAgg30 Try.sizeOf30 rfl rfl rfl) ?_
       refine g_buildSlice (offs := [0]) rfl rfl Try.underlying28 rfl Try.zeroValue30 (by kernel_rfl) (fun b23 => ?_)
       refine g_val (v := .agg (nC (.mk 4 s0 ((f a.toNat).mi % 21) (((f a.toNat).mi % 21) + (Int.tmod (f a.toNat).ma (21 - ((f a.toNat).mi % 21)))) 0 (.slice (some ⟨b23, 0, none⟩) 1 1) [(.mk k1 s1 m1 x1 u1 (.slice p1 q1.length c1) q1)])).toArray) rfl rfl rfl (y_builtE (z := nC (.mk 4 s0 ((f a.toNat).mi % 21) (((f a.toNat).mi % 21) + (Int.tmod (f a.toNat).ma (21 - ((f a.toNat).mi % 21)))) 0 (.slice (some ⟨b23, 0, none⟩) 1 1) [(.mk k1 s1 m1 x1 u1 (.slice p1 q1.length c1) q1)])) rfl (by kernel_rfl)) ?_
       refine g_stN 4 rfl rfl rfl (by kernel_rfl) rfl rfl rfl (nC_len _) ?_
       simp only [List.set_cons_zero, List.set_cons_succ]
       refine g_rowOf (n := 1) nC [(.mk k1 s1 m1 x1 u1 (.slice p1 q1.length c1) q1)] 0 rfl rfl nC_len rfl (by decide) ?_
       simp only [List.set_cons_zero]
       refine g_perm (.trans (.cons _ (.cons _ (.cons _ (.cons _ (.swap _ _ _))))) (.trans (.cons _ (.cons _ (.cons _ (.swap _ _ _)))) (.trans (.cons _ (.cons _ (.swap _ _ _))) (.cons _ (.swap _ _ _))))) ?_
       refine g_node 4 s0 ((f a.toNat).mi % 21) (((f a.toNat).mi % 21) + (Int.tmod (f a.toNat).ma (21 - ((f a.toNat).mi % 21)))) 0 rfl ?_
       refine n_ ?_
       exact g_fall (hj ⟨(.mk 4 s0 ((f a.toNat).mi % 21) (((f a.toNat).mi % 21) + (Int.tmod (f a.toNat).ma (21 - ((f a.toNat).mi % 21)))) 0 (.slice (some ⟨b23, 0, none⟩) 1 1) [(.mk k1 s1 m1 x1 u1 (.slice p1 q1.length c1) q1)]), PK_rep hpk ⟨by omega, by omega⟩ ⟨by omega, by omega⟩⟩) [0, 1, 2, 3, 11, 14] rfl (fun w h => h.pick [1,1,2,0] rfl)
      refine g_cond_f rfl (g_skip (t_ (o_ ?_)))
      refine xg 2 [] rfl rfl ?_
      refine g_val rfl rfl rfl (y_ldN (vs := nC (.mk k1 s1 m1 x1 u1 (.slice p1 q1.length c1) q1)) 3 rfl Try.isAgg30 Try.sizeOf30 rfl rfl rfl) ?_
      refine g_buildSlice (offs := [0]) rfl rfl Try.underlying28 rfl Try.zeroValue30 (by kernel_rfl) (fun b24 => ?_)
      refine g_val (v := .agg (nC (.mk 4 s0 ((f a.toNat).mi % 21) (-1) 0 (.slice (some ⟨b24, 0, none⟩) 1 1) [(.mk k1 s1 m1 x1 u1 (.slice p1 q1.length c1) q1)])).toArray) rfl rfl rfl (y_builtE (z := nC (.mk 4 s0 ((f a.toNat).mi % 21) (-1) 0 (.slice (some ⟨b24, 0, none⟩) 1 1) [(.mk k1 s1 m1 x1 u1 (.slice p1 q1.length c1) q1)])) rfl (by kernel_rfl)) ?_
      refine g_stN 4 rfl rfl rfl (by kernel_rfl) rfl rfl rfl (nC_len _) ?_
      simp only [List.set_cons_zero, List.set_cons_succ]
      refine g_rowOf (n := 1) nC [(.mk k1 s1 m1 x1 u1 (.slice p1 q1.length c1) q1)] 0 rfl rfl nC_len rfl (by decide) ?_
      simp only [List.set_cons_zero]
      refine g_perm (.trans (.cons _ (.cons _ (.cons _ (.cons _ (.swap _ _ _))))) (.trans (.cons _ (.cons _ (.cons _ (.swap _ _ _)))) (.trans (.cons _ (.cons _ (.swap _ _ _))) (.cons _ (.swap _ _ _))))) ?_
      refine g_node 4 s0 ((f a.toNat).mi % 21) (-1) 0 rfl ?_
      refine n_ ?_
      exact g_fall (hj ⟨(.mk 4 s0 ((f a.toNat).mi % 21) (-1) 0 (.slice (some ⟨b24, 0, none⟩) 1 1) [(.mk k1 s1 m1 x1 u1 (.slice p1 q1.length c1) q1)]), PK_rep hpk ⟨by omega, by omega⟩ ⟨by omega, by omega⟩⟩) [0, 1, 2, 3, 11, 14] rfl (fun w h => h.pick [1,1,2,0] rfl)
     refine g_cond_f rfl (g_skip ?_)
     exact g_fall (hj ⟨(.mk k1 s1 m1 x1 u1 (.slice p1 q1.length c1) q1), PK_less hpk⟩) [0, 1, 2, 3, 11, 14] rfl (fun w h => h.pick [0,0,1,1] rfl)
    intro hj
    refine g_cond_f rfl (g_skip ?_)
    refine g_leaf 1 (withS s0 (97 + (f a.toNat).c.toNat % 26) ((97 + (f a.toNat).c.toNat % 26) + 1 - (97 + (f a.toNat).c.toNat % 26))) 0 0 0 ?_
    exact g_fall (hj ⟨((.mk 1 (withS s0 (97 + (f a.toNat).c.toNat % 26) ((97 + (f a.toNat).c.toNat % 26) + 1 - (97 + (f a.toNat).c.toNat % 26))) 0 0 0 nilS []), a + 1, g), PK_leaf (by omega) (by omega) (by omega)⟩) [0, 1, 2, 3, 11, 12, 14] rfl (fun w h => h.pick [3,3,2,1,0] rfl)
   refine g_cond_f rfl (g_exit (g_then_exit (g_then_exit (g_in_exit (t_ (s_ (o_ ?_)))))))
   refine xg 6 [] rfl rfl ?_
   refine n_ (t_ (g_ret ?_))
   refine g_end3 Try.results11 rfl rfl rfl ?_
   exact fun w hS => ⟨⟨((.slice pr3 (ts.length) cr3), ts, a, g), hbt⟩, rfl, hS.pick [0,0] rfl⟩
  refine xg 4 [] rfl rfl ?_
  refine n_ (t_ (g_cond_f rfl (g_exit (g_then_exit (g_then_exit (g_in_exit (t_ (s_ (o_ ?_)))))))))
  refine xg 6 [] rfl rfl ?_
  refine n_ (t_ (g_ret ?_))
  refine g_end3 Try.results11 rfl rfl rfl ?_
  exact fun w hS => ⟨⟨(v, ts, a, g), hbt⟩, rfl, hS.pick [0,0] rfl⟩
 refine xg 8 [] rfl rfl ?_
 refine n_ (t_ (g_cond_f rfl (g_exit (g_then_exit (g_then_exit (g_in_exit (t_ (s_ (o_ ?_)))))))))
 refine xg 6 [] rfl rfl ?_
 refine n_ (t_ (g_ret ?_))
 refine g_end3 Try.results11 rfl rfl rfl ?_
 exact fun w hS => ⟨⟨(v, ts, a, g), hbt⟩, rfl, hS.pick [0,0] rfl⟩

end Go.Proofs.Ytpoelkfncpjmfaa
