/- The texts that the proof leans on, one behind the other (5 of 7). -/
import Derived.Lib.ItoaNum
import Derived.Test.YtfcamlkbkehlnaaK4
/- all: a state that is not yet stored. -/
namespace Go.Proofs.Ytfcamlkbkehlnaa
open Go Go.RowKit

set_option maxHeartbeats 8000000 in
set_option maxRecDepth 100000 in
theorem all_miss (C : Cx) (k : Int) (s : Nat → Int) (nmi nma nnu : Int) (v1 u1 : Option Addr) (v2 v3 u3 : Nat) (a p i : Nat) (mi ma : Int) (q : List MT) (ks : List Nat) (ha : C.ns[a]? = some (.mk k s nmi nma nnu (.slice v1 v2 v3) q, .slice u1 ks.length u3, ks)) (hgk : 0 < ks.length → ∃ gk, u1 = some ⟨gk, 0, none⟩) (hi : i ≤ C.x.n) (hr : okS ⟨a, p, mi, ma, i⟩) (hrow : k = 2 → p ≤ ks.length) (hlq : k ≠ 5 → k ≠ 4 → laidL C.ns q ks) (hkid : k = 5 ∨ k = 4 → KidOk C [.int .i64 k, .int .u64 (s 0), .int .u64 (s 1), .int .u64 (s 2), .int .u64 (s 3), .int .i64 nmi, .int .i64 nma, .int .i64 nnu, .slice v1 v2 v3, .slice u1 ks.length u3] q i) (hbeg : ∀ t kk, t ∈ q → laidT C.ns t kk → AllOk C (beg C.x C.ns kk i)) (hnext : k = 2 → p < ks.length → ∀ j, i ≤ j → j ≤ C.x.n → AllOk C ⟨a, p + 1, 0, 0, j⟩) (hrnd : k = 4 → ma ≠ 0 → ∀ j, i < j → j ≤ C.x.n → AllOk C (round ⟨a, p, mi, ma, i⟩ j)) (M : Value → Option Nat) (E : List (Value × Nat)) (F : List Nat) (w : World) (hM : M (kv ⟨a, p, mi, ma, i⟩) = none) (hS0 : St w F [C.mt, C.nd, .kids C.ns, C.mo M E] w) :
    Calls Try.prog 25 #[.pointer (some ⟨C.b, 0, none⟩), .agg ([.int .i64 (a : Int), .int .i64 (p : Int), .int .i64 mi, .int .i64 ma, .int .i64 (i : Int)]).toArray] w fun e w' => ∃ y : {y : (Value → Option Nat) × List (Value × Nat) × Nat // (∀ p, p ∈ E → p ∈ y.2.1) ∧ (kv ⟨a, p, mi, ma, i⟩, y.2.2) ∈ y.2.1}, e = .returned (slW C.W y.1.2.2) ∧ St w F [C.mt, C.nd, .kids C.ns, C.mo y.1.1 y.1.2.1] w' := by
 have hx := C.hx
 have hW := C.hW
 obtain ⟨r1, r2, r3, r4, r5, r6, r7⟩ := id hr
 dsimp only at r1 r2 r3 r4 r5 r6 r7
 have hal := (List.getElem?_eq_some_iff.1 ha).1
 have hle : ks.length ≤ maxLen := (kid_sl (hS0.get (i := 2) rfl) ha).1
 have hmx : maxLen = 9223372036854775807 := rfl
 have hnl := C.hl
 refine fn_intro_own Try.func25 rfl Try.ntmps25 rfl rfl hS0 ?_
 refine s_ (o_ ?_)
 refine g_box rfl rfl rfl rfl (fun b1 => ?_)
 refine g_box rfl rfl rfl rfl (fun b2 => ?_)
 refine xg 1 [] rfl rfl ?_
 refine n_ (t_ (s_ (s_ ?_)))
 refine g_quiet (by kernel_rfl) (by kernel_rfl) ?_
 refine xq 5 [1,2,0] rfl (by omega) ?_
 refine q_val (v := .tuple #[.slice none 0 0, .bool false]) rfl rfl rfl (y_memo0 5 rfl rfl Try.underlying88 st_law Try.zeroValue65 rfl (fun _ h => h) (kv_key hr) hM) ?_
 refine q_val rfl rfl rfl (y_move rfl) ?_
 refine q_val rfl rfl rfl (y_extract rfl rfl) ?_
 refine q_val rfl rfl rfl (y_extract rfl rfl) ?_
 refine xq 2 [] rfl rfl ?_
 refine q_nil (t_ (s_ (o_ ?_)))
 refine xg 1 [] rfl rfl ?_
 refine n_ (t_ (g_cond_f rfl (g_skip (t_ (s_ (o_ ?_))))))
 refine xg 4 [1,2] rfl (by omega) ?_
 refine g_val (v := .int .i64 (C.x.n : Int)) rfl rfl rfl (y_val (y_slen rfl Try.underlying9) (by rw [size_mk]; rfl)) ?_
 refine g_val (v := .int .i64 ((C.x.n / 64 : Nat) : Int)) rfl rfl rfl (y_val (y_iquo rfl rfl (by decide)) (by rw [quo64, wrap_in (by omega)])) ?_
 refine g_val (v := .int .i64 (C.W : Int)) rfl rfl rfl (y_val (y_iadd rfl rfl) (by rw [wrap_in (by omega)]; rfl)) ?_
 refine g_makeWords rfl rfl rfl rfl Try.underlying65 rfl rfl rfl rfl C.hW (fun gp => ?_)
 refine g_alloc rfl rfl Try.zeroValue65 rfl (fun b3 => ?_)
 refine xg 1 [0] rfl (by omega) ?_
 refine n_ (t_ (s_ (s_ ?_)))
 refine k_go [3,2,0,1,1,1,1,0] rfl (by kernel_rfl) (fun _ _ _ _ _ h => h) fun hQ => ?_
 refine k_xc 0 [3,2,0,1,1,1,1,0] [0] hQ (by kernel_rfl) rfl rfl rfl rfl rfl rfl (by omega) ?_
 refine k_x 1 [3,2,0,1,1,1,1,0] [] hQ (by kernel_rfl) rfl rfl rfl rfl rfl rfl ?_
 refine k_x 2 [3,2,0,1,1,1,1,0] [] hQ (by kernel_rfl) rfl rfl rfl rfl rfl rfl ?_
 refine k_xc 3 [3,2,0,1,1,1,1,0] [3] hQ (by kernel_rfl) rfl rfl rfl rfl rfl rfl (by omega) ?_
 refine k_x 4 [3,2,0,1,1,1,1,0] [] hQ (by kernel_rfl) rfl rfl rfl rfl rfl rfl ?_
 refine k_xc 5 [3,2,0,1,1,1,1,0] [1] hQ (by kernel_rfl) rfl rfl rfl rfl rfl rfl (by omega) ?_
 refine k_take 6 rfl (by kernel_rfl) hQ rfl rfl rfl (fun _ h => h.pick [3,2,0,1,1,1,1,0] rfl) (y_idxAddr (m := a * 10) rfl rfl Try.underlying89 Try.sizeOf94 (by omega) (by omega) (by omega)) ?_
 refine k_take (v := .agg ([.int .i64 k, .int .u64 (s 0), .int .u64 (s 1), .int .u64 (s 2), .int .u64 (s 3), .int .i64 nmi, .int .i64 nma, .int .i64 nnu, .slice v1 v2 v3, .slice u1 ks.length u3]).toArray) 7 rfl (by kernel_rfl) hQ rfl rfl rfl (fun _ h => h.pick [3,2,0,1,1,1,1,0] rfl) (y_val (y_ldRN (k := 10) (off := a * 10) (vs := fC (.mk k s nmi nma nnu (.slice v1 v2 v3) q, .slice u1 ks.length u3, ks)) 4 rfl Try.isAgg94 Try.sizeOf94 rfl (fm_elem fC 10 fC_len C.ns a _ ha) (fC_len _)) rfl) ?_
 refine k_one 8 (by kernel_rfl) ?_
 refine k_op 8 rfl ?_
 refine g_alloc rfl rfl Try.zeroValue94 rfl (fun b4 => ?_)
 refine n_ ?_
 refine k_end (fun _ h => h.pick [4,3,1,2,2,2,2,1] rfl) ?_
 refine k_one 9 (by kernel_rfl) ?_
 refine k_op 9 rfl ?_
 refine xg 1 [0] rfl (by omega) ?_
 refine n_ ?_
 refine k_end (fun _ h => h.pick [4,3,1,2,2,2,2,1] rfl) ?_
 refine k_done (by kernel_rfl) ?_
 refine t_ (s_ (o_ ?_))
 refine xg 3 [0] rfl (by omega) ?_
 refine n_ (t_ (g_block (s_ (o_ ?_))))
 refine xg 2 [0] rfl rfl ?_
 refine n_ (t_ ?_)
 refine g_casep 46 rfl (fun h1 => ?_) fun h1 => ?_
 ·refine g_cond_t rfl (s_ ?_)
  obtain rfl : k = 1 := by assumption
  have hxn : C.x.n = C.x.l.length := rfl
  have hsz := size_mk C.x.l
  by_cases hin : i < C.x.n
  ·obtain ⟨ch, hch, hch8⟩ := st8_get (l := C.x.l) (i := i) (by omega)
   have hch9 := ch.toNat_lt
   refine g_quiet (by kernel_rfl) (by kernel_rfl) ?_
   refine xq 6 [3,4,5] rfl (by omega) ?_
   refine q_val (v := .int .i64 (C.x.n : Int)) rfl rfl rfl (y_val (y_slen rfl Try.underlying9) (by rw [size_mk]; rfl)) ?_
   refine xq 11 [1,0,4,5,3] rfl (by omega) ?_
   refine q_val rfl rfl rfl (y_sidx (i := i) rfl rfl Try.underlying9 hch8) ?_
   refine q_c1 (m_chas s ch.toNat (by omega)) any_I rfl rfl rfl ?_
   refine xq 1 [] rfl rfl ?_
   refine q_nil (t_ ?_)
   first | refine g_casep 68 rfl (fun h2 => ?_) fun h2 => ?_ | refine g_caseb 68 rfl (fun h2 => ?_) fun h2 => ?_
   ·refine g_cond_t rfl (o_ ?_)
    refine xg 4 [1,3] rfl (by omega) ?_
    refine g_ahead [2] rfl ?_
    simp only [List.cons_append, List.nil_append]
    refine g_add (k := (i + 1)) (by unfold Cx.W; omega) rfl rfl rfl ?_
    refine n_ (g_in_normal (t_ (s_ ?_)))
    refine g_ahead [8,0] rfl ?_
    simp only [List.cons_append, List.nil_append]
    refine g_memoAdd (q := kv ⟨a, p, mi, ma, i⟩) (c_one ha hch _ (by first | exact (if_pos (show hasB s ch.toNat = true from decide_eq_true (by assumption))).symm | exact (if_neg (show ¬ hasB s ch.toNat = true from fun h8 => absurd (of_decide_eq_true h8) (by assumption))).symm)) ?_
    refine k_go [4,3,2,2,2,2] rfl (by kernel_rfl) (fun _ _ _ _ _ h => h) fun hQ => ?_
    refine k_xc 0 [4,3,2,2,2,2] [0] hQ (by kernel_rfl) rfl rfl rfl rfl rfl rfl (by omega) ?_
    refine k_x 1 [4,3,2,2,2,2] [] hQ (by kernel_rfl) rfl rfl rfl rfl rfl rfl ?_
    refine k_x 2 [4,3,2,2,2,2] [] hQ (by kernel_rfl) rfl rfl rfl rfl rfl rfl ?_
    refine k_xc 3 [4,3,2,2,2,2] [3] hQ (by kernel_rfl) rfl rfl rfl rfl rfl rfl (by omega) ?_
    refine k_xc 4 [4,3,2,2,2,2] [1] hQ (by kernel_rfl) rfl rfl rfl rfl rfl rfl (by omega) ?_
    refine k_xc 5 [4,3,2,2,2,2] [2] hQ (by kernel_rfl) rfl rfl rfl rfl rfl rfl (by omega) ?_
    refine k_one 6 (by kernel_rfl) ?_
    refine k_op 6 rfl ?_
    refine g_memoPut 0 rfl rfl rfl rfl Try.underlying88 st_law (fun _ h => h) (kv_key hr) (List.mem_cons_self ..) rfl ?_
    simp only [List.set_cons_zero, List.set_cons_succ]
    refine n_ ?_
    refine k_end (fun _ h => h.pick [4,3,2,2,2,2] rfl) ?_
    refine k_done (by kernel_rfl) ?_
    refine t_ (s_ (o_ ?_))
    refine xg 2 [2] rfl (by omega) ?_
    refine n_ (t_ (g_ret ?_))
    refine g_end1 Try.results25 rfl ?_
    exact fun w hS => ⟨⟨(mput M _ gp, (kv ⟨a, p, mi, ma, i⟩, gp) :: E, gp), fun p0 hp0 => List.mem_cons_of_mem _ (hp0), List.mem_cons_self ..⟩, rfl, hS.pick [5,5,5,0] rfl⟩
   refine g_cond_f rfl (g_skip (g_in_normal (t_ (s_ ?_))))
   refine g_ahead [8,2] rfl ?_
   simp only [List.cons_append, List.nil_append]
   refine g_memoAdd (q := kv ⟨a, p, mi, ma, i⟩) (c_one ha hch _ (by first | exact (if_pos (show hasB s ch.toNat = true from decide_eq_true (by assumption))).symm | exact (if_neg (show ¬ hasB s ch.toNat = true from fun h8 => absurd (of_decide_eq_true h8) (by assumption))).symm)) ?_
   refine k_go [4,3,2,2,2,2] rfl (by kernel_rfl) (fun _ _ _ _ _ h => h) fun hQ => ?_
   refine k_xc 0 [4,3,2,2,2,2] [0] hQ (by kernel_rfl) rfl rfl rfl rfl rfl rfl (by omega) ?_
   refine k_x 1 [4,3,2,2,2,2] [] hQ (by kernel_rfl) rfl rfl rfl rfl rfl rfl ?_
   refine k_x 2 [4,3,2,2,2,2] [] hQ (by kernel_rfl) rfl rfl rfl rfl rfl rfl ?_
   refine k_xc 3 [4,3,2,2,2,2] [3] hQ (by kernel_rfl) rfl rfl rfl rfl rfl rfl (by omega) ?_
   refine k_xc 4 [4,3,2,2,2,2] [1] hQ (by kernel_rfl) rfl rfl rfl rfl rfl rfl (by omega) ?_
   refine k_xc 5 [4,3,2,2,2,2] [2] hQ (by kernel_rfl) rfl rfl rfl rfl rfl rfl (by omega) ?_
   refine k_one 6 (by kernel_rfl) ?_
   refine k_op 6 rfl ?_
   refine g_memoPut 0 rfl rfl rfl rfl Try.underlying88 st_law (fun _ h => h) (kv_key hr) (List.mem_cons_self ..) rfl ?_
   simp only [List.set_cons_zero, List.set_cons_succ]
   refine n_ ?_
   refine k_end (fun _ h => h.pick [4,3,2,2,2,2] rfl) ?_
   refine k_done (by kernel_rfl) ?_
   refine t_ (s_ (o_ ?_))
   refine xg 2 [2] rfl (by omega) ?_
   refine n_ (t_ (g_ret ?_))
   refine g_end1 Try.results25 rfl ?_
   exact fun w hS => ⟨⟨(mput M _ gp, (kv ⟨a, p, mi, ma, i⟩, gp) :: E, gp), fun p0 hp0 => List.mem_cons_of_mem _ (hp0), List.mem_cons_self ..⟩, rfl, hS.pick [5,5,5,0] rfl⟩
  refine g_quiet (by kernel_rfl) (by kernel_rfl) ?_
  refine xq 6 [3,4,5] rfl (by omega) ?_
  refine q_val (v := .int .i64 (C.x.n : Int)) rfl rfl rfl (y_val (y_slen rfl Try.underlying9) (by rw [size_mk]; rfl)) ?_
  refine xq 14 [2] rfl (by omega) ?_
  refine q_nil (t_ (g_cond_f rfl (g_skip (g_in_normal (t_ (s_ ?_))))))
  refine g_ahead [8,2] rfl ?_
  simp only [List.cons_append, List.nil_append]
  refine g_memoAdd (q := kv ⟨a, p, mi, ma, i⟩) (c_one0 ha hin) ?_
  refine k_go [4,3,2,2,2,2] rfl (by kernel_rfl) (fun _ _ _ _ _ h => h) fun hQ => ?_
  refine k_xc 0 [4,3,2,2,2,2] [0] hQ (by kernel_rfl) rfl rfl rfl rfl rfl rfl (by omega) ?_
  refine k_x 1 [4,3,2,2,2,2] [] hQ (by kernel_rfl) rfl rfl rfl rfl rfl rfl ?_
  refine k_x 2 [4,3,2,2,2,2] [] hQ (by kernel_rfl) rfl rfl rfl rfl rfl rfl ?_
  refine k_xc 3 [4,3,2,2,2,2] [3] hQ (by kernel_rfl) rfl rfl rfl rfl rfl rfl (by omega) ?_
  refine k_xc 4 [4,3,2,2,2,2] [1] hQ (by kernel_rfl) rfl rfl rfl rfl rfl rfl (by omega) ?_
  refine k_xc 5 [4,3,2,2,2,2] [2] hQ (by kernel_rfl) rfl rfl rfl rfl rfl rfl (by omega) ?_
  refine k_one 6 (by kernel_rfl) ?_
  refine k_op 6 rfl ?_
  refine g_memoPut 0 rfl rfl rfl rfl Try.underlying88 st_law (fun _ h => h) (kv_key hr) (List.mem_cons_self ..) rfl ?_
  simp only [List.set_cons_zero, List.set_cons_succ]
  refine n_ ?_
  refine k_end (fun _ h => h.pick [4,3,2,2,2,2] rfl) ?_
  refine k_done (by kernel_rfl) ?_
  refine t_ (s_ (o_ ?_))
  refine xg 2 [2] rfl (by omega) ?_
  refine n_ (t_ (g_ret ?_))
  refine g_end1 Try.results25 rfl ?_
  exact fun w hS => ⟨⟨(mput M _ gp, (kv ⟨a, p, mi, ma, i⟩, gp) :: E, gp), fun p0 hp0 => List.mem_cons_of_mem _ (hp0), List.mem_cons_self ..⟩, rfl, hS.pick [5,5,5,0] rfl⟩
 refine g_cond_f rfl (s_ (o_ ?_))
 refine xg 2 [0] rfl rfl ?_
 refine n_ (t_ ?_)
 refine g_casep 74 rfl (fun h3 => ?_) fun h3 => ?_
 ·refine g_cond_t rfl (s_ ?_)
  obtain rfl : k = 6 := by assumption
  refine o_ ?_
  refine xg 4 [3,0] rfl (by omega) ?_
  refine g_casep 79 rfl (fun h4 => ?_) fun h4 => ?_
  ·refine xg 5 [4,5] rfl (by omega) ?_
   refine n_ (t_ ?_)
   first | refine g_casep 84 rfl (fun h5 => ?_) fun h5 => ?_ | refine g_caseb 84 rfl (fun h5 => ?_) fun h5 => ?_
   ·refine g_cond_t rfl (o_ ?_)
    refine xg 1 [1] rfl (by omega) ?_
    refine g_ahead [2] rfl ?_
    simp only [List.cons_append, List.nil_append]
    refine g_add (k := 0) (by unfold Cx.W; omega) rfl rfl rfl ?_
    refine n_ (g_in_normal (t_ (s_ ?_)))
    refine g_ahead [8,0] rfl ?_
    simp only [List.cons_append, List.nil_append]
    refine g_memoAdd (q := kv ⟨a, p, mi, ma, i⟩) (c_beg ha _ (by first | exact (if_pos ⟨by omega, by assumption⟩).symm | exact (if_neg (fun h8 => by first | (have := h8.1; omega) | (have h9 := h8.2; rw [show C.x.bg = false by assumption] at h9; cases h9))).symm)) ?_
    refine k_go [4,3,2,2,2,2] rfl (by kernel_rfl) (fun _ _ _ _ _ h => h) fun hQ => ?_
    refine k_xc 0 [4,3,2,2,2,2] [0] hQ (by kernel_rfl) rfl rfl rfl rfl rfl rfl (by omega) ?_
    refine k_x 1 [4,3,2,2,2,2] [] hQ (by kernel_rfl) rfl rfl rfl rfl rfl rfl ?_
    refine k_x 2 [4,3,2,2,2,2] [] hQ (by kernel_rfl) rfl rfl rfl rfl rfl rfl ?_
    refine k_xc 3 [4,3,2,2,2,2] [3] hQ (by kernel_rfl) rfl rfl rfl rfl rfl rfl (by omega) ?_
    refine k_xc 4 [4,3,2,2,2,2] [1] hQ (by kernel_rfl) rfl rfl rfl rfl rfl rfl (by omega) ?_
    refine k_xc 5 [4,3,2,2,2,2] [2] hQ (by kernel_rfl) rfl rfl rfl rfl rfl rfl (by omega) ?_
    refine k_one 6 (by kernel_rfl) ?_
    refine k_op 6 rfl ?_
    refine g_memoPut 0 rfl rfl rfl rfl Try.underlying88 st_law (fun _ h => h) (kv_key hr) (List.mem_cons_self ..) rfl ?_
    simp only [List.set_cons_zero, List.set_cons_succ]
    refine n_ ?_
    refine k_end (fun _ h => h.pick [4,3,2,2,2,2] rfl) ?_
    refine k_done (by kernel_rfl) ?_
    refine t_ (s_ (o_ ?_))
    refine xg 2 [2] rfl (by omega) ?_
    refine n_ (t_ (g_ret ?_))
    refine g_end1 Try.results25 rfl ?_
    exact fun w hS => ⟨⟨(mput M _ gp, (kv ⟨a, p, mi, ma, i⟩, gp) :: E, gp), fun p0 hp0 => List.mem_cons_of_mem _ (hp0), List.mem_cons_self ..⟩, rfl, hS.pick [5,5,5,0] rfl⟩
   refine g_cond_f rfl (g_skip (g_in_normal (t_ (s_ ?_))))
   refine g_ahead [8,2] rfl ?_
   simp only [List.cons_append, List.nil_append]
   refine g_memoAdd (q := kv ⟨a, p, mi, ma, i⟩) (c_beg ha _ (by first | exact (if_pos ⟨by omega, by assumption⟩).symm | exact (if_neg (fun h8 => by first | (have := h8.1; omega) | (have h9 := h8.2; rw [show C.x.bg = false by assumption] at h9; cases h9))).symm)) ?_
   refine k_go [4,3,2,2,2,2] rfl (by kernel_rfl) (fun _ _ _ _ _ h => h) fun hQ => ?_
   refine k_xc 0 [4,3,2,2,2,2] [0] hQ (by kernel_rfl) rfl rfl rfl rfl rfl rfl (by omega) ?_
   refine k_x 1 [4,3,2,2,2,2] [] hQ (by kernel_rfl) rfl rfl rfl rfl rfl rfl ?_
   refine k_x 2 [4,3,2,2,2,2] [] hQ (by kernel_rfl) rfl rfl rfl rfl rfl rfl ?_
   refine k_xc 3 [4,3,2,2,2,2] [3] hQ (by kernel_rfl) rfl rfl rfl rfl rfl rfl (by omega) ?_
   refine k_xc 4 [4,3,2,2,2,2] [1] hQ (by kernel_rfl) rfl rfl rfl rfl rfl rfl (by omega) ?_
   refine k_xc 5 [4,3,2,2,2,2] [2] hQ (by kernel_rfl) rfl rfl rfl rfl rfl rfl (by omega) ?_
   refine k_one 6 (by kernel_rfl) ?_
   refine k_op 6 rfl ?_
   refine g_memoPut 0 rfl rfl rfl rfl Try.underlying88 st_law (fun _ h => h) (kv_key hr) (List.mem_cons_self ..) rfl ?_
   simp only [List.set_cons_zero, List.set_cons_succ]
   refine n_ ?_
   refine k_end (fun _ h => h.pick [4,3,2,2,2,2] rfl) ?_
   refine k_done (by kernel_rfl) ?_
   refine t_ (s_ (o_ ?_))
   refine xg 2 [2] rfl (by omega) ?_
   refine n_ (t_ (g_ret ?_))
   refine g_end1 Try.results25 rfl ?_
   exact fun w hS => ⟨⟨(mput M _ gp, (kv ⟨a, p, mi, ma, i⟩, gp) :: E, gp), fun p0 hp0 => List.mem_cons_of_mem _ (hp0), List.mem_cons_self ..⟩, rfl, hS.pick [5,5,5,0] rfl⟩
  refine xg 5 [] rfl rfl ?_
  refine n_ (t_ (g_cond_f rfl (g_skip (g_in_normal (t_ (s_ ?_))))))
  refine g_ahead [8,2] rfl ?_
  simp only [List.cons_append, List.nil_append]
  refine g_memoAdd (q := kv ⟨a, p, mi, ma, i⟩) (c_beg ha _ (by first | exact (if_pos ⟨by omega, by assumption⟩).symm | exact (if_neg (fun h8 => by first | (have := h8.1; omega) | (have h9 := h8.2; rw [show C.x.bg = false by assumption] at h9; cases h9))).symm)) ?_
  refine k_go [4,3,2,2,2,2] rfl (by kernel_rfl) (fun _ _ _ _ _ h => h) fun hQ => ?_
  refine k_xc 0 [4,3,2,2,2,2] [0] hQ (by kernel_rfl) rfl rfl rfl rfl rfl rfl (by omega) ?_
  refine k_x 1 [4,3,2,2,2,2] [] hQ (by kernel_rfl) rfl rfl rfl rfl rfl rfl ?_
  refine k_x 2 [4,3,2,2,2,2] [] hQ (by kernel_rfl) rfl rfl rfl rfl rfl rfl ?_
  refine k_xc 3 [4,3,2,2,2,2] [3] hQ (by kernel_rfl) rfl rfl rfl rfl rfl rfl (by omega) ?_
  refine k_xc 4 [4,3,2,2,2,2] [1] hQ (by kernel_rfl) rfl rfl rfl rfl rfl rfl (by omega) ?_
  refine k_xc 5 [4,3,2,2,2,2] [2] hQ (by kernel_rfl) rfl rfl rfl rfl rfl rfl (by omega) ?_
  refine k_one 6 (by kernel_rfl) ?_
  refine k_op 6 rfl ?_
  refine g_memoPut 0 rfl rfl rfl rfl Try.underlying88 st_law (fun _ h => h) (kv_key hr) (List.mem_cons_self ..) rfl ?_
  simp only [List.set_cons_zero, List.set_cons_succ]
  refine n_ ?_
  refine k_end (fun _ h => h.pick [4,3,2,2,2,2] rfl) ?_
  refine k_done (by kernel_rfl) ?_
  refine t_ (s_ (o_ ?_))
  refine xg 2 [2] rfl (by omega) ?_
  refine n_ (t_ (g_ret ?_))
  refine g_end1 Try.results25 rfl ?_
  exact fun w hS => ⟨⟨(mput M _ gp, (kv ⟨a, p, mi, ma, i⟩, gp) :: E, gp), fun p0 hp0 => List.mem_cons_of_mem _ (hp0), List.mem_cons_self ..⟩, rfl, hS.pick [5,5,5,0] rfl⟩
 refine g_cond_f rfl (s_ (o_ ?_))
 refine xg 2 [0] rfl rfl ?_
 refine n_ (t_ ?_)
 refine g_casep 87 rfl (fun h6 => ?_) fun h6 => ?_
 ·refine g_cond_t rfl (s_ ?_)
  obtain rfl : k = 7 := by assumption
  refine g_quiet (by kernel_rfl) (by kernel_rfl) ?_
  refine xq 6 [3,4,5] rfl (by omega) ?_
  refine q_val (v := .int .i64 (C.x.n : Int)) rfl rfl rfl (y_val (y_slen rfl Try.underlying9) (by rw [size_mk]; rfl)) ?_
  refine xq 1 [0] rfl rfl ?_
  refine q_nil (t_ ?_)
  refine g_casep 96 rfl (fun h7 => ?_) fun h7 => ?_
  ·refine g_cond_t rfl (o_ ?_)
   refine xg 3 [1,3] rfl (by omega) ?_
   refine g_ahead [2] rfl ?_
   simp only [List.cons_append, List.nil_append]
   refine g_add (k := i) (by unfold Cx.W; omega) rfl rfl rfl ?_
   refine n_ (g_in_normal (t_ (s_ ?_)))
   refine g_ahead [8,0] rfl ?_
   simp only [List.cons_append, List.nil_append]
   refine g_memoAdd (q := kv ⟨a, p, mi, ma, i⟩) (c_end ha _ (by first | exact (if_pos (by omega)).symm | exact (if_neg (by omega)).symm)) ?_
   refine k_go [4,3,2,2,2,2] rfl (by kernel_rfl) (fun _ _ _ _ _ h => h) fun hQ => ?_
   refine k_xc 0 [4,3,2,2,2,2] [0] hQ (by kernel_rfl) rfl rfl rfl rfl rfl rfl (by omega) ?_
   refine k_x 1 [4,3,2,2,2,2] [] hQ (by kernel_rfl) rfl rfl rfl rfl rfl rfl ?_
   refine k_x 2 [4,3,2,2,2,2] [] hQ (by kernel_rfl) rfl rfl rfl rfl rfl rfl ?_
   refine k_xc 3 [4,3,2,2,2,2] [3] hQ (by kernel_rfl) rfl rfl rfl rfl rfl rfl (by omega) ?_
   refine k_xc 4 [4,3,2,2,2,2] [1] hQ (by kernel_rfl) rfl rfl rfl rfl rfl rfl (by omega) ?_
   refine k_xc 5 [4,3,2,2,2,2] [2] hQ (by kernel_rfl) rfl rfl rfl rfl rfl rfl (by omega) ?_
   refine k_one 6 (by kernel_rfl) ?_
   refine k_op 6 rfl ?_
   refine g_memoPut 0 rfl rfl rfl rfl Try.underlying88 st_law (fun _ h => h) (kv_key hr) (List.mem_cons_self ..) rfl ?_
   simp only [List.set_cons_zero, List.set_cons_succ]
   refine n_ ?_
   refine k_end (fun _ h => h.pick [4,3,2,2,2,2] rfl) ?_
   refine k_done (by kernel_rfl) ?_
   refine t_ (s_ (o_ ?_))
   refine xg 2 [2] rfl (by omega) ?_
   refine n_ (t_ (g_ret ?_))
   refine g_end1 Try.results25 rfl ?_
   exact fun w hS => ⟨⟨(mput M _ gp, (kv ⟨a, p, mi, ma, i⟩, gp) :: E, gp), fun p0 hp0 => List.mem_cons_of_mem _ (hp0), List.mem_cons_self ..⟩, rfl, hS.pick [5,5,5,0] rfl⟩
  refine g_cond_f rfl (g_skip (g_in_normal (t_ (s_ ?_))))
  refine g_ahead [8,2] rfl ?_
  simp only [List.cons_append, List.nil_append]
  refine g_memoAdd (q := kv ⟨a, p, mi, ma, i⟩) (c_end ha _ (by first | exact (if_pos (by omega)).symm | exact (if_neg (by omega)).symm)) ?_
  refine k_go [4,3,2,2,2,2] rfl (by kernel_rfl) (fun _ _ _ _ _ h => h) fun hQ => ?_
  refine k_xc 0 [4,3,2,2,2,2] [0] hQ (by kernel_rfl) rfl rfl rfl rfl rfl rfl (by omega) ?_
  refine k_x 1 [4,3,2,2,2,2] [] hQ (by kernel_rfl) rfl rfl rfl rfl rfl rfl ?_
  refine k_x 2 [4,3,2,2,2,2] [] hQ (by kernel_rfl) rfl rfl rfl rfl rfl rfl ?_
  refine k_xc 3 [4,3,2,2,2,2] [3] hQ (by kernel_rfl) rfl rfl rfl rfl rfl rfl (by omega) ?_
  refine k_xc 4 [4,3,2,2,2,2] [1] hQ (by kernel_rfl) rfl rfl rfl rfl rfl rfl (by omega) ?_
  refine k_xc 5 [4,3,2,2,2,2] [2] hQ (by kernel_rfl) rfl rfl rfl rfl rfl rfl (by omega) ?_
  refine k_one 6 (by kernel_rfl) ?_
  refine k_op 6 rfl ?_
  refine g_memoPut 0 rfl rfl rfl rfl Try.underlying88 st_law (fun _ h => h) (kv_key hr) (List.mem_cons_self ..) rfl ?_
  simp only [List.set_cons_zero, List.set_cons_succ]
  refine n_ ?_
  refine k_end (fun _ h => h.pick [4,3,2,2,2,2] rfl) ?_
  refine k_done (by kernel_rfl) ?_
  refine t_ (s_ (o_ ?_))
  refine xg 2 [2] rfl (by omega) ?_
  refine n_ (t_ (g_ret ?_))
  refine g_end1 Try.results25 rfl ?_
  exact fun w hS => ⟨⟨(mput M _ gp, (kv ⟨a, p, mi, ma, i⟩, gp) :: E, gp), fun p0 hp0 => List.mem_cons_of_mem _ (hp0), List.mem_cons_self ..⟩, rfl, hS.pick [5,5,5,0] rfl⟩
 refine g_cond_f rfl (s_ (o_ ?_))
 refine xg 2 [0] rfl rfl ?_
 refine n_ (t_ ?_)
 refine g_casep 101 rfl (fun h8 => ?_) fun h8 => ?_
 ·refine g_cond_t rfl (s_ (s_ ?_))
  obtain rfl : k = 2 := by assumption
  replace hlq := hlq (by decide) (by decide)
  have hpk := hrow rfl
  refine o_ ?_
  refine xg 4 [3,0] rfl (by omega) ?_
  refine g_val (v := .int .i64 ((ks.length : Nat) : Int)) rfl rfl rfl (y_llen rfl Try.underlying92) ?_
  refine xg 1 [0] rfl rfl ?_
  refine n_ (t_ ?_)
  refine g_casep 108 rfl (fun h9 => ?_) fun h9 => ?_
  ·refine g_cond_t rfl (s_ (o_ ?_))
   refine xg 3 [1,3] rfl (by omega) ?_
   refine g_ahead [2] rfl ?_
   simp only [List.cons_append, List.nil_append]
   refine g_add (k := i) (by unfold Cx.W; omega) rfl rfl rfl ?_
   refine n_ (t_ (g_exit (g_then_exit (g_in_exit (t_ (s_ ?_))))))
   refine g_ahead [8,0] rfl ?_
   simp only [List.cons_append, List.nil_append]
   refine g_memoAdd (q := kv ⟨a, p, mi, ma, i⟩) (c_row0 ha (by have := laidL_len hlq; omega)) ?_
   refine k_go [4,3,2,2,2,2] rfl (by kernel_rfl) (fun _ _ _ _ _ h => h) fun hQ => ?_
   refine k_xc 0 [4,3,2,2,2,2] [0] hQ (by kernel_rfl) rfl rfl rfl rfl rfl rfl (by omega) ?_
   refine k_x 1 [4,3,2,2,2,2] [] hQ (by kernel_rfl) rfl rfl rfl rfl rfl rfl ?_
   refine k_x 2 [4,3,2,2,2,2] [] hQ (by kernel_rfl) rfl rfl rfl rfl rfl rfl ?_
   refine k_xc 3 [4,3,2,2,2,2] [3] hQ (by kernel_rfl) rfl rfl rfl rfl rfl rfl (by omega) ?_
   refine k_xc 4 [4,3,2,2,2,2] [1] hQ (by kernel_rfl) rfl rfl rfl rfl rfl rfl (by omega) ?_
   refine k_xc 5 [4,3,2,2,2,2] [2] hQ (by kernel_rfl) rfl rfl rfl rfl rfl rfl (by omega) ?_
   refine k_one 6 (by kernel_rfl) ?_
   refine k_op 6 rfl ?_
   refine g_memoPut 0 rfl rfl rfl rfl Try.underlying88 st_law (fun _ h => h) (kv_key hr) (List.mem_cons_self ..) rfl ?_
   simp only [List.set_cons_zero, List.set_cons_succ]
   refine n_ ?_
   refine k_end (fun _ h => h.pick [4,3,2,2,2,2] rfl) ?_
   refine k_done (by kernel_rfl) ?_
   refine t_ (s_ (o_ ?_))
   refine xg 2 [2] rfl (by omega) ?_
   refine n_ (t_ (g_ret ?_))
   refine g_end1 Try.results25 rfl ?_
   exact fun w hS => ⟨⟨(mput M _ gp, (kv ⟨a, p, mi, ma, i⟩, gp) :: E, gp), fun p0 hp0 => List.mem_cons_of_mem _ (hp0), List.mem_cons_self ..⟩, rfl, hS.pick [5,5,5,0] rfl⟩
  refine g_cond_f rfl (g_skip (t_ ?_))
  obtain ⟨gk, rfl⟩ := hgk (by omega)
  obtain ⟨t2, kk, hqp, hkk, hl2⟩ := laidL_get hlq (p := p) (by omega)
  obtain ⟨k2, s2, mi2, ma2, nu2, v12, u12, v22, v32, u22, u32, q2, ks2, rfl, hb, _, _⟩ := Cx.node hl2
  refine k_go [4,3,1,0,1,1,1] rfl (by kernel_rfl) (fun _ _ _ _ _ h => h) fun hQ => ?_
  refine k_xc 0 [4,3,1,0,1,1,1] [0] hQ (by kernel_rfl) rfl rfl rfl rfl rfl rfl (by omega) ?_
  refine k_xc 1 [4,3,1,0,1,1,1] [0] hQ (by kernel_rfl) rfl rfl rfl rfl rfl rfl (by omega) ?_
  refine k_x 2 [4,3,1,0,1,1,1] [] hQ (by kernel_rfl) rfl rfl rfl rfl rfl rfl ?_
  refine k_xc 3 [4,3,1,0,1,1,1] [3] hQ (by kernel_rfl) rfl rfl rfl rfl rfl rfl (by omega) ?_
  refine k_x 4 [4,3,1,0,1,1,1] [] hQ (by kernel_rfl) rfl rfl rfl rfl rfl rfl ?_
  refine k_xc 5 [4,3,1,0,1,1,1] [1] hQ (by kernel_rfl) rfl rfl rfl rfl rfl rfl (by omega) ?_
  refine k_take 6 rfl (by kernel_rfl) hQ rfl rfl rfl (fun _ h => h.pick [4,3,1,0,1,1,1] rfl) (y_idxAddr (m := p) rfl rfl Try.underlying92 Try.sizeOf3 (by omega) (by omega) (by omega)) ?_
  refine k_take (v := .int .i64 (kk : Int)) 7 rfl (by kernel_rfl) hQ rfl rfl rfl (fun _ h => h.pick [4,3,1,0,1,1,1] rfl) (y_ldK (p := p) 6 rfl ha hkk rfl Try.isAgg3) ?_
  refine k_x 8 [4,3,1,0,1,1,1] [] hQ (by kernel_rfl) rfl rfl rfl rfl rfl rfl ?_
  refine k_xc 9 [4,3,1,0,1,1,1] [1] hQ (by kernel_rfl) rfl rfl rfl rfl rfl rfl (by omega) ?_
  refine k_call 10 (m_begin C.b C.mp kk i _ C.x C.ns k2 s2 mi2 ma2 nu2 v12 u12 v22 v32 u22 u32 q2 ks2 hb C.hx) (fun w hS => Cx.mi hS (i := 4) (j := 5) rfl rfl) rfl (by kernel_rfl) hQ rfl rfl rfl (fun _ h => h.pick [4,3,1,0,1,1,1] rfl) ?_
  refine k_x 12 [4,3,1,0,1,1,1] [] hQ (by kernel_rfl) rfl rfl rfl rfl rfl rfl ?_
  refine k_xc 13 [4,3,1,0,1,1,1] [1] hQ (by kernel_rfl) rfl rfl rfl rfl rfl rfl (by omega) ?_
  refine k_take 14 rfl (by kernel_rfl) hQ rfl rfl rfl (fun _ h => h.pick [4,3,1,0,1,1,1] rfl) (y_makeFunc rfl) ?_
  refine k_one 11 (by kernel_rfl) ?_
  refine k_op 11 rfl ?_
  refine g_ahead [5,5,5,5] rfl ?_
  simp only [List.cons_append, List.nil_append]
  refine g_all (hbeg _ kk (List.mem_of_getElem? hqp) hl2) rfl rfl rfl (fun M1 E1 g1 hs1 hm1 => ?_)
  refine n_ ?_
  refine k_end (fun _ h => h.pick [8,7,5,4,0,0,0] rfl) ?_
  refine k_one 15 (by kernel_rfl) ?_
  refine k_op 15 rfl ?_
  refine g_ahead [5,7,6,0,0,0,0,1] rfl ?_
  simp only [List.cons_append, List.nil_append]
  refine g_each (fr := i) (fun k => Sp C.x C.ns (kv ⟨a, p + 1, 0, 0, k⟩)) hm1 (fun k h1 h2 h3 c M E F w hS => clo1_any C _ _ _ _ k a p i mi ma c hr (hnext rfl (by omega) k h1 (mM_in _ hi (by rw [Sp_kv, spec_beg hl2] at h3; exact h3)).2) M E F w hS) Try.call40 (by unfold Cx.W; omega) rfl rfl rfl (fun M2 E2 hs2 => ?_)
  refine n_ ?_
  refine k_end (fun _ h => h.pick [1,1,0,5,0,0,0] rfl) ?_
  refine k_done (by kernel_rfl) ?_
  refine g_in_normal (t_ (s_ ?_))
  refine g_ahead [6,6] rfl ?_
  simp only [List.cons_append, List.nil_append]
  refine g_memoAdd (q := kv ⟨a, p, mi, ma, i⟩) (c_row ha hqp hi (by rw [Sp_kv, spec_beg hl2]) (by unfold Cx.W; omega)) ?_
  refine k_go [2,2,1,1,1,1] rfl (by kernel_rfl) (fun _ _ _ _ _ h => h) fun hQ => ?_
  refine k_xc 0 [2,2,1,1,1,1] [0] hQ (by kernel_rfl) rfl rfl rfl rfl rfl rfl (by omega) ?_
  refine k_x 1 [2,2,1,1,1,1] [] hQ (by kernel_rfl) rfl rfl rfl rfl rfl rfl ?_
  refine k_x 2 [2,2,1,1,1,1] [] hQ (by kernel_rfl) rfl rfl rfl rfl rfl rfl ?_
  refine k_xc 3 [2,2,1,1,1,1] [3] hQ (by kernel_rfl) rfl rfl rfl rfl rfl rfl (by omega) ?_
  refine k_xc 4 [2,2,1,1,1,1] [1] hQ (by kernel_rfl) rfl rfl rfl rfl rfl rfl (by omega) ?_
  refine k_xc 5 [2,2,1,1,1,1] [2] hQ (by kernel_rfl) rfl rfl rfl rfl rfl rfl (by omega) ?_
  refine k_one 6 (by kernel_rfl) ?_
  refine k_op 6 rfl ?_
  refine g_memoPut 0 rfl rfl rfl rfl Try.underlying88 st_law (fun _ h => h) (kv_key hr) (List.mem_cons_self ..) rfl ?_
  simp only [List.set_cons_zero, List.set_cons_succ]
  refine n_ ?_
  refine k_end (fun _ h => h.pick [2,2,1,1,1,1] rfl) ?_
  refine k_done (by kernel_rfl) ?_
  refine t_ (s_ (o_ ?_))
  refine xg 2 [1] rfl (by omega) ?_
  refine n_ (t_ (g_ret ?_))
  refine g_end1 Try.results25 rfl ?_
  exact fun w hS => ⟨⟨(mput M2 _ gp, (kv ⟨a, p, mi, ma, i⟩, gp) :: E2, gp), fun p0 hp0 => List.mem_cons_of_mem _ (hs2 _ (hs1 _ (hp0))), List.mem_cons_self ..⟩, rfl, hS.pick [4,4,4,0] rfl⟩
 refine g_cond_f rfl (s_ (o_ ?_))
 refine xg 2 [0] rfl rfl ?_
 refine n_ (t_ ?_)
 refine g_casep 129 rfl (fun h10 => ?_) fun h10 => ?_
 ·refine g_cond_t rfl (s_ ?_)
  obtain rfl : k = 3 := by assumption
  replace hlq := hlq (by decide) (by decide)
  rw [eiP_zero (x := C.x) (q := q) (i := i)]
  refine o_ ?_
  refine xg 2 [0] rfl (by omega) ?_
  refine g_val (v := .int .i64 ((ks.length : Nat) : Int)) rfl rfl rfl (y_llen rfl Try.underlying92) ?_
  refine xg 1 [] rfl rfl ?_
  refine n_ (t_ (g_block ?_))
  refine g_loop (α := {x : Nat × (Value → Option Nat) × List (Value × Nat) // x.1 ≤ ks.length ∧ ∀ p, p ∈ E → p ∈ x.2.2}) (fun x => [(2, .pointer (some ⟨b1, 0, none⟩)), (3, .pointer (some ⟨b2, 0, none⟩)), (7, .pointer (some ⟨b3, 0, none⟩)), (132, .slice u1 ks.length u3), (133, .int .i64 ((ks.length : Nat) : Int)), (134, .int .i64 (x.1.1 : Int))]) (fun x => St w F [.cells b3 65 [slW C.W gp], .cells b1 58 [.pointer (some ⟨C.b, 0, none⟩)], .cells b2 62 [.int .i64 (a : Int), .int .i64 (p : Int), .int .i64 mi, .int .i64 ma, .int .i64 (i : Int)], C.mt, C.nd, .kids C.ns, C.mo x.1.2.1 x.1.2.2, .row 23 1 (slW C.W gp) C.W (wcs C.W (eiP C.x q i x.1.1))]) (fun x => ks.length - x.1.1) ⟨(0, M, E), Nat.zero_le _, fun _ h => h⟩ [2, 3, 7, 132, 133, 134] rfl (fun w h => h.pick [1,3,2,2,2,2,2,1] rfl) ?_
  rintro ⟨⟨m, M3, E3⟩, hm, hs3⟩
  dsimp only
  dsimp only at hm hs3
  refine s_ (o_ ?_)
  refine xg 1 [0] rfl rfl ?_
  refine n_ (t_ (s_ ?_))
  refine g_casep 135 rfl (fun h11 => ?_) fun h11 => ?_
  ·refine g_cond_t rfl (g_skip (t_ (s_ (g_block (s_ ?_)))))
   obtain ⟨gk, rfl⟩ := hgk (by omega)
   obtain ⟨t2, kk, hqm, hkk, hl2⟩ := laidL_get hlq (p := m) (by omega)
   obtain ⟨k2, s2, mi2, ma2, nu2, v12, u12, v22, v32, u22, u32, q2, ks2, rfl, hb, _, _⟩ := Cx.node hl2
   refine o_ ?_
   refine g_val rfl rfl rfl (y_idxAddr (m := m) rfl rfl Try.underlying92 Try.sizeOf3 (by omega) (by omega) (by omega)) ?_
   refine g_val (v := .int .i64 (kk : Int)) rfl rfl rfl (y_ldK (p := m) 5 rfl ha hkk rfl Try.isAgg3) ?_
   refine xg 1 [] rfl rfl ?_
   refine n_ (t_ ?_)
   refine k_go [1,1,0,0,0,0] rfl (by kernel_rfl) (fun _ _ _ _ _ h => h) fun hQ => ?_
   refine k_xc 0 [1,1,0,0,0,0] [2] hQ (by kernel_rfl) rfl rfl rfl rfl rfl rfl (by omega) ?_
   refine k_xc 1 [1,1,0,0,0,0] [0] hQ (by kernel_rfl) rfl rfl rfl rfl rfl rfl (by omega) ?_
   refine k_xc 2 [1,1,0,0,0,0] [0] hQ (by kernel_rfl) rfl rfl rfl rfl rfl rfl (by omega) ?_
   refine k_x 3 [1,1,0,0,0,0] [] hQ (by kernel_rfl) rfl rfl rfl rfl rfl rfl ?_
   refine k_x 4 [1,1,0,0,0,0] [] hQ (by kernel_rfl) rfl rfl rfl rfl rfl rfl ?_
   refine k_xc 5 [1,1,0,0,0,0] [1] hQ (by kernel_rfl) rfl rfl rfl rfl rfl rfl (by omega) ?_
   refine k_call 6 (m_begin C.b C.mp kk i _ C.x C.ns k2 s2 mi2 ma2 nu2 v12 u12 v22 v32 u22 u32 q2 ks2 hb C.hx) (fun w hS => Cx.mi hS (i := 3) (j := 4) rfl rfl) rfl (by kernel_rfl) hQ rfl rfl rfl (fun _ h => h.pick [1,1,0,0,0,0] rfl) ?_
   refine k_one 7 (by kernel_rfl) ?_
   refine k_op 7 rfl ?_
   refine g_ahead [3,3,3,3] rfl ?_
   simp only [List.cons_append, List.nil_append]
   refine g_all (hbeg _ kk (List.mem_of_getElem? hqm) hl2) rfl rfl rfl (fun M1 E1 g1 hs1 hm1 => ?_)
   refine n_ ?_
   refine k_end (fun _ h => h.pick [5,5,4,0,0,0] rfl) ?_
   refine k_one 8 (by kernel_rfl) ?_
   refine k_op 8 rfl ?_
   refine g_ahead [7] rfl ?_
   simp only [List.cons_append, List.nil_append]
   refine g_joinM 3 rfl rfl rfl rfl hm1 ?_
   rw [show Sp C.x C.ns (kv (beg C.x C.ns kk i)) = mM C.x _ i from (Sp_kv _ _ _).trans (spec_beg hl2), eiP_next hqm]
   refine n_ ?_
   refine k_end (fun _ h => h.pick [6,6,5,1,1,1] rfl) ?_
   refine k_done (by kernel_rfl) ?_
   refine g_in_normal (t_ (o_ ?_))
   refine xg 2 [] rfl (by omega) ?_
   refine n_ ?_
   exact g_again ⟨(m + 1, M1, E1), by dsimp only; omega, fun p hp => hs1 p (hs3 p hp)⟩ [2, 3, 7, 132, 133, 134] (by dsimp only; omega) rfl (fun w h => h.pick [5,5,5,1,1,1,1,0] rfl)
  refine g_cond_f rfl (g_exit (g_then_exit (g_then_exit (g_in_exit (g_in_normal (t_ (s_ ?_)))))))
  refine g_ahead [6,6] rfl ?_
  simp only [List.cons_append, List.nil_append]
  refine g_memoAdd (q := kv ⟨a, p, mi, ma, i⟩) (c_ei ha (by have := laidL_len hlq; omega)) ?_
  refine k_go [2,2,1,1,1,1] rfl (by kernel_rfl) (fun _ _ _ _ _ h => h) fun hQ => ?_
  refine k_xc 0 [2,2,1,1,1,1] [0] hQ (by kernel_rfl) rfl rfl rfl rfl rfl rfl (by omega) ?_
  refine k_x 1 [2,2,1,1,1,1] [] hQ (by kernel_rfl) rfl rfl rfl rfl rfl rfl ?_
  refine k_x 2 [2,2,1,1,1,1] [] hQ (by kernel_rfl) rfl rfl rfl rfl rfl rfl ?_
  refine k_xc 3 [2,2,1,1,1,1] [3] hQ (by kernel_rfl) rfl rfl rfl rfl rfl rfl (by omega) ?_
  refine k_xc 4 [2,2,1,1,1,1] [1] hQ (by kernel_rfl) rfl rfl rfl rfl rfl rfl (by omega) ?_
  refine k_xc 5 [2,2,1,1,1,1] [2] hQ (by kernel_rfl) rfl rfl rfl rfl rfl rfl (by omega) ?_
  refine k_one 6 (by kernel_rfl) ?_
  refine k_op 6 rfl ?_
  refine g_memoPut 0 rfl rfl rfl rfl Try.underlying88 st_law (fun _ h => h) (kv_key hr) (List.mem_cons_self ..) rfl ?_
  simp only [List.set_cons_zero, List.set_cons_succ]
  refine n_ ?_
  refine k_end (fun _ h => h.pick [2,2,1,1,1,1] rfl) ?_
  refine k_done (by kernel_rfl) ?_
  refine t_ (s_ (o_ ?_))
  refine xg 2 [1] rfl (by omega) ?_
  refine n_ (t_ (g_ret ?_))
  refine g_end1 Try.results25 rfl ?_
  exact fun w hS => ⟨⟨(mput M3 _ gp, (kv ⟨a, p, mi, ma, i⟩, gp) :: E3, gp), fun p0 hp0 => List.mem_cons_of_mem _ (hs3 _ (hp0)), List.mem_cons_self ..⟩, rfl, hS.pick [4,4,4,0] rfl⟩
 refine g_cond_f rfl (s_ (o_ ?_))
 refine xg 2 [0] rfl rfl ?_
 refine n_ (t_ ?_)
 refine g_casep 148 rfl (fun h12 => ?_) fun h12 => ?_
 ·refine g_cond_t rfl ?_
  obtain rfl : k = 5 := by assumption
  refine k_go [4,3,1,0,1,1,1] rfl (by kernel_rfl) (fun _ _ _ _ _ h => h) fun hQ => ?_
  refine k_xc 0 [4,3,1,0,1,1,1] [2] hQ (by kernel_rfl) rfl rfl rfl rfl rfl rfl (by omega) ?_
  refine k_xc 1 [4,3,1,0,1,1,1] [0] hQ (by kernel_rfl) rfl rfl rfl rfl rfl rfl (by omega) ?_
  refine k_xc 2 [4,3,1,0,1,1,1] [3] hQ (by kernel_rfl) rfl rfl rfl rfl rfl rfl (by omega) ?_
  refine k_x 3 [4,3,1,0,1,1,1] [] hQ (by kernel_rfl) rfl rfl rfl rfl rfl rfl ?_
  refine k_xc 4 [4,3,1,0,1,1,1] [1] hQ (by kernel_rfl) rfl rfl rfl rfl rfl rfl (by omega) ?_
  refine k_one 5 (by kernel_rfl) ?_
  refine k_op 5 rfl ?_
  refine g_ahead [5,5,5,5] rfl ?_
  simp only [List.cons_append, List.nil_append]
  refine g_kid (hkid (by omega)) rfl rfl rfl (fun M1 E1 q1 g1 hs1 hm1 hq1 => ?_)
  refine n_ ?_
  refine k_end (fun _ h => h.pick [8,7,5,4,0,0,0] rfl) ?_
  refine k_one 6 (by kernel_rfl) ?_
  refine k_op 6 rfl ?_
  refine g_ahead [6] rfl ?_
  simp only [List.cons_append, List.nil_append]
  refine g_joinM 3 rfl rfl rfl rfl hm1 ?_
  refine n_ ?_
  refine k_end (fun _ h => h.pick [8,7,6,5,1,1,1] rfl) ?_
  refine k_done (by kernel_rfl) ?_
  refine g_in_normal (t_ (s_ ?_))
  refine g_ahead [4,0] rfl ?_
  simp only [List.cons_append, List.nil_append]
  refine g_memoAdd (q := kv ⟨a, p, mi, ma, i⟩) (c_grp ha hq1) ?_
  refine k_go [7,6,5,1,1,1] rfl (by kernel_rfl) (fun _ _ _ _ _ h => h) fun hQ => ?_
  refine k_xc 0 [7,6,5,1,1,1] [0] hQ (by kernel_rfl) rfl rfl rfl rfl rfl rfl (by omega) ?_
  refine k_x 1 [7,6,5,1,1,1] [] hQ (by kernel_rfl) rfl rfl rfl rfl rfl rfl ?_
  refine k_x 2 [7,6,5,1,1,1] [] hQ (by kernel_rfl) rfl rfl rfl rfl rfl rfl ?_
  refine k_xc 3 [7,6,5,1,1,1] [3] hQ (by kernel_rfl) rfl rfl rfl rfl rfl rfl (by omega) ?_
  refine k_xc 4 [7,6,5,1,1,1] [1] hQ (by kernel_rfl) rfl rfl rfl rfl rfl rfl (by omega) ?_
  refine k_xc 5 [7,6,5,1,1,1] [2] hQ (by kernel_rfl) rfl rfl rfl rfl rfl rfl (by omega) ?_
  refine k_one 6 (by kernel_rfl) ?_
  refine k_op 6 rfl ?_
  refine g_memoPut 0 rfl rfl rfl rfl Try.underlying88 st_law (fun _ h => h) (kv_key hr) (List.mem_cons_self ..) rfl ?_
  simp only [List.set_cons_zero, List.set_cons_succ]
  refine n_ ?_
  refine k_end (fun _ h => h.pick [7,6,5,1,1,1] rfl) ?_
  refine k_done (by kernel_rfl) ?_
  refine t_ (s_ (o_ ?_))
  refine xg 2 [5] rfl (by omega) ?_
  refine n_ (t_ (g_ret ?_))
  refine g_end1 Try.results25 rfl ?_
  exact fun w hS => ⟨⟨(mput M1 _ gp, (kv ⟨a, p, mi, ma, i⟩, gp) :: E1, gp), fun p0 hp0 => List.mem_cons_of_mem _ (hs1 _ (hp0)), List.mem_cons_self ..⟩, rfl, hS.pick [1,1,1,0] rfl⟩
 refine g_cond_f rfl (s_ (o_ ?_))
 refine xg 2 [0] rfl rfl ?_
 refine n_ (t_ ?_)
 refine g_casep 157 rfl (fun h13 => ?_) fun h13 => ?_
 ·refine g_cond_t rfl (s_ ?_)
  obtain rfl : k = 4 := by assumption
  refine o_ ?_
  refine xg 4 [4,0,3] rfl (by omega) ?_
  refine g_ahead [5,5,5,5] rfl ?_
  simp only [List.cons_append, List.nil_append]
  refine g_kid (hkid (by omega)) rfl rfl rfl (fun M1 E1 q1 g1 hs1 hm1 hq1 => ?_)
  refine xg 1 [] rfl rfl ?_
  refine n_ (t_ (s_ (s_ (o_ ?_))))
  refine xg 4 [7,0] rfl (by omega) ?_
  refine g_casep 167 rfl (fun h14 => ?_) fun h14 => ?_
  ·refine xg 5 [] rfl rfl ?_
   refine n_ (t_ (g_cond_t rfl (o_ ?_)))
   refine xg 3 [5,7] rfl (by omega) ?_
   refine g_ahead [6] rfl ?_
   simp only [List.cons_append, List.nil_append]
   refine g_add (k := i) (by unfold Cx.W; omega) rfl rfl rfl ?_
   refine ntso_ ?_
   refine xg 3 [7,0] rfl (by omega) ?_
   refine n_ (t_ ?_)
   refine g_casep 179 rfl (fun h15 => ?_) fun h15 => ?_
   ·refine g_cond_t rfl (o_ ?_)
    refine xg 4 [7] rfl (by omega) ?_
    refine g_val rfl rfl rfl (y_makeFunc rfl) ?_
    refine g_ahead [6,7,6,1,1,1,1,0] rfl ?_
    simp only [List.cons_append, List.nil_append]
    refine g_each (fr := i + 1) (fun k => Sp C.x C.ns (kv (round ⟨a, p, mi, ma, i⟩ k))) hm1 (fun k h1 h2 h3 c M E F w hS => clo2_any C _ _ _ _ k a p i mi ma c hr (hrnd rfl (by assumption) k (by omega) (mKid_in _ hi (by rw [hq1] at h3; exact h3)).2) M E F w hS) Try.call43 (by unfold Cx.W; omega) rfl rfl rfl (fun M2 E2 hs2 => ?_)
    refine n_ (g_in_normal (t_ (s_ ?_)))
    refine g_ahead [6,6] rfl ?_
    simp only [List.cons_append, List.nil_append]
    refine g_memoAdd (q := kv ⟨a, p, mi, ma, i⟩) (c_rep ha hi hq1 (by omega) _ (by first | exact (if_pos (.inl (by omega))).symm | exact (if_pos (.inr (by assumption))).symm | exact (if_neg (fun h8 => h8.elim (fun h9 => by omega) (fun h9 => by rw [show Sp C.x C.ns q1 i = false by assumption] at h9; cases h9))).symm) (by unfold Cx.W; omega)) ?_
    refine k_go [2,2,1,1,1,1] rfl (by kernel_rfl) (fun _ _ _ _ _ h => h) fun hQ => ?_
    refine k_xc 0 [2,2,1,1,1,1] [0] hQ (by kernel_rfl) rfl rfl rfl rfl rfl rfl (by omega) ?_
    refine k_x 1 [2,2,1,1,1,1] [] hQ (by kernel_rfl) rfl rfl rfl rfl rfl rfl ?_
    refine k_x 2 [2,2,1,1,1,1] [] hQ (by kernel_rfl) rfl rfl rfl rfl rfl rfl ?_
    refine k_xc 3 [2,2,1,1,1,1] [3] hQ (by kernel_rfl) rfl rfl rfl rfl rfl rfl (by omega) ?_
    refine k_xc 4 [2,2,1,1,1,1] [1] hQ (by kernel_rfl) rfl rfl rfl rfl rfl rfl (by omega) ?_
    refine k_xc 5 [2,2,1,1,1,1] [2] hQ (by kernel_rfl) rfl rfl rfl rfl rfl rfl (by omega) ?_
    refine k_one 6 (by kernel_rfl) ?_
    refine k_op 6 rfl ?_
    refine g_memoPut 0 rfl rfl rfl rfl Try.underlying88 st_law (fun _ h => h) (kv_key hr) (List.mem_cons_self ..) rfl ?_
    simp only [List.set_cons_zero, List.set_cons_succ]
    refine n_ ?_
    refine k_end (fun _ h => h.pick [2,2,1,1,1,1] rfl) ?_
    refine k_done (by kernel_rfl) ?_
    refine t_ (s_ (o_ ?_))
    refine xg 2 [1] rfl (by omega) ?_
    refine n_ (t_ (g_ret ?_))
    refine g_end1 Try.results25 rfl ?_
    exact fun w hS => ⟨⟨(mput M2 _ gp, (kv ⟨a, p, mi, ma, i⟩, gp) :: E2, gp), fun p0 hp0 => List.mem_cons_of_mem _ (hs2 _ (hs1 _ (hp0))), List.mem_cons_self ..⟩, rfl, hS.pick [4,4,4,0] rfl⟩
   refine g_cond_f rfl (g_skip (g_in_normal (t_ (s_ ?_))))
   refine g_ahead [4,0] rfl ?_
   simp only [List.cons_append, List.nil_append]
   refine g_memoAdd (q := kv ⟨a, p, mi, ma, i⟩) (c_rep0 ha hi hq1 (by omega) _ (by first | exact (if_pos (.inl (by omega))).symm | exact (if_pos (.inr (by assumption))).symm | exact (if_neg (fun h8 => h8.elim (fun h9 => by omega) (fun h9 => by rw [show Sp C.x C.ns q1 i = false by assumption] at h9; cases h9))).symm)) ?_
   refine k_go [7,6,5,1,1,1] rfl (by kernel_rfl) (fun _ _ _ _ _ h => h) fun hQ => ?_
   refine k_xc 0 [7,6,5,1,1,1] [0] hQ (by kernel_rfl) rfl rfl rfl rfl rfl rfl (by omega) ?_
   refine k_x 1 [7,6,5,1,1,1] [] hQ (by kernel_rfl) rfl rfl rfl rfl rfl rfl ?_
   refine k_x 2 [7,6,5,1,1,1] [] hQ (by kernel_rfl) rfl rfl rfl rfl rfl rfl ?_
   refine k_xc 3 [7,6,5,1,1,1] [3] hQ (by kernel_rfl) rfl rfl rfl rfl rfl rfl (by omega) ?_
   refine k_xc 4 [7,6,5,1,1,1] [1] hQ (by kernel_rfl) rfl rfl rfl rfl rfl rfl (by omega) ?_
   refine k_xc 5 [7,6,5,1,1,1] [2] hQ (by kernel_rfl) rfl rfl rfl rfl rfl rfl (by omega) ?_
   refine k_one 6 (by kernel_rfl) ?_
   refine k_op 6 rfl ?_
   refine g_memoPut 0 rfl rfl rfl rfl Try.underlying88 st_law (fun _ h => h) (kv_key hr) (List.mem_cons_self ..) rfl ?_
   simp only [List.set_cons_zero, List.set_cons_succ]
   refine n_ ?_
   refine k_end (fun _ h => h.pick [7,6,5,1,1,1] rfl) ?_
   refine k_done (by kernel_rfl) ?_
   refine t_ (s_ (o_ ?_))
   refine xg 2 [5] rfl (by omega) ?_
   refine n_ (t_ (g_ret ?_))
   refine g_end1 Try.results25 rfl ?_
   exact fun w hS => ⟨⟨(mput M1 _ gp, (kv ⟨a, p, mi, ma, i⟩, gp) :: E1, gp), fun p0 hp0 => List.mem_cons_of_mem _ (hs1 _ (hp0)), List.mem_cons_self ..⟩, rfl, hS.pick [1,1,1,0] rfl⟩
  refine xg 3 [7] rfl (by omega) ?_
  refine g_call1 (v := .bool (Sp C.x C.ns q1 i)) rfl rfl rfl Try.call33 (fun w hS => has_any (Sp C.x C.ns q1) g1 C.W i (by unfold Cx.W; omega) C.hW w (memo_rd (hS.get (i := 3) rfl) hm1)) ?_
  refine xg 1 [] rfl rfl ?_
  refine n_ (t_ ?_)
  first | refine g_casep 172 rfl (fun h16 => ?_) fun h16 => ?_ | refine g_caseb 172 rfl (fun h16 => ?_) fun h16 => ?_
  ·refine g_cond_t rfl (o_ ?_)
   refine xg 3 [5,7] rfl (by omega) ?_
   refine g_ahead [6] rfl ?_
   simp only [List.cons_append, List.nil_append]
   refine g_add (k := i) (by unfold Cx.W; omega) rfl rfl rfl ?_
   refine ntso_ ?_
   refine xg 3 [7,0] rfl (by omega) ?_
   refine n_ (t_ ?_)
   refine g_casep 179 rfl (fun h17 => ?_) fun h17 => ?_
   ·refine g_cond_t rfl (o_ ?_)
    refine xg 4 [7] rfl (by omega) ?_
    refine g_val rfl rfl rfl (y_makeFunc rfl) ?_
    refine g_ahead [6,7,6,1,1,1,1,0] rfl ?_
    simp only [List.cons_append, List.nil_append]
    refine g_each (fr := i + 1) (fun k => Sp C.x C.ns (kv (round ⟨a, p, mi, ma, i⟩ k))) hm1 (fun k h1 h2 h3 c M E F w hS => clo2_any C _ _ _ _ k a p i mi ma c hr (hrnd rfl (by assumption) k (by omega) (mKid_in _ hi (by rw [hq1] at h3; exact h3)).2) M E F w hS) Try.call43 (by unfold Cx.W; omega) rfl rfl rfl (fun M2 E2 hs2 => ?_)
    refine n_ (g_in_normal (t_ (s_ ?_)))
    refine g_ahead [6,6] rfl ?_
    simp only [List.cons_append, List.nil_append]
    refine g_memoAdd (q := kv ⟨a, p, mi, ma, i⟩) (c_rep ha hi hq1 (by omega) _ (by first | exact (if_pos (.inl (by omega))).symm | exact (if_pos (.inr (by assumption))).symm | exact (if_neg (fun h8 => h8.elim (fun h9 => by omega) (fun h9 => by rw [show Sp C.x C.ns q1 i = false by assumption] at h9; cases h9))).symm) (by unfold Cx.W; omega)) ?_
    refine k_go [2,2,1,1,1,1] rfl (by kernel_rfl) (fun _ _ _ _ _ h => h) fun hQ => ?_
    refine k_xc 0 [2,2,1,1,1,1] [0] hQ (by kernel_rfl) rfl rfl rfl rfl rfl rfl (by omega) ?_
    refine k_x 1 [2,2,1,1,1,1] [] hQ (by kernel_rfl) rfl rfl rfl rfl rfl rfl ?_
    refine k_x 2 [2,2,1,1,1,1] [] hQ (by kernel_rfl) rfl rfl rfl rfl rfl rfl ?_
    refine k_xc 3 [2,2,1,1,1,1] [3] hQ (by kernel_rfl) rfl rfl rfl rfl rfl rfl (by omega) ?_
    refine k_xc 4 [2,2,1,1,1,1] [1] hQ (by kernel_rfl) rfl rfl rfl rfl rfl rfl (by omega) ?_
    refine k_xc 5 [2,2,1,1,1,1] [2] hQ (by kernel_rfl) rfl rfl rfl rfl rfl rfl (by omega) ?_
    refine k_one 6 (by kernel_rfl) ?_
    refine k_op 6 rfl ?_
    refine g_memoPut 0 rfl rfl rfl rfl Try.underlying88 st_law (fun _ h => h) (kv_key hr) (List.mem_cons_self ..) rfl ?_
    simp only [List.set_cons_zero, List.set_cons_succ]
    refine n_ ?_
    refine k_end (fun _ h => h.pick [2,2,1,1,1,1] rfl) ?_
    refine k_done (by kernel_rfl) ?_
    refine t_ (s_ (o_ ?_))
    refine xg 2 [1] rfl (by omega) ?_
    refine n_ (t_ (g_ret ?_))
    refine g_end1 Try.results25 rfl ?_
    exact fun w hS => ⟨⟨(mput M2 _ gp, (kv ⟨a, p, mi, ma, i⟩, gp) :: E2, gp), fun p0 hp0 => List.mem_cons_of_mem _ (hs2 _ (hs1 _ (hp0))), List.mem_cons_self ..⟩, rfl, hS.pick [4,4,4,0] rfl⟩
   refine g_cond_f rfl (g_skip (g_in_normal (t_ (s_ ?_))))
   refine g_ahead [4,0] rfl ?_
   simp only [List.cons_append, List.nil_append]
   refine g_memoAdd (q := kv ⟨a, p, mi, ma, i⟩) (c_rep0 ha hi hq1 (by omega) _ (by first | exact (if_pos (.inl (by omega))).symm | exact (if_pos (.inr (by assumption))).symm | exact (if_neg (fun h8 => h8.elim (fun h9 => by omega) (fun h9 => by rw [show Sp C.x C.ns q1 i = false by assumption] at h9; cases h9))).symm)) ?_
   refine k_go [7,6,5,1,1,1] rfl (by kernel_rfl) (fun _ _ _ _ _ h => h) fun hQ => ?_
   refine k_xc 0 [7,6,5,1,1,1] [0] hQ (by kernel_rfl) rfl rfl rfl rfl rfl rfl (by omega) ?_
   refine k_x 1 [7,6,5,1,1,1] [] hQ (by kernel_rfl) rfl rfl rfl rfl rfl rfl ?_
   refine k_x 2 [7,6,5,1,1,1] [] hQ (by kernel_rfl) rfl rfl rfl rfl rfl rfl ?_
   refine k_xc 3 [7,6,5,1,1,1] [3] hQ (by kernel_rfl) rfl rfl rfl rfl rfl rfl (by omega) ?_
   refine k_xc 4 [7,6,5,1,1,1] [1] hQ (by kernel_rfl) rfl rfl rfl rfl rfl rfl (by omega) ?_
   refine k_xc 5 [7,6,5,1,1,1] [2] hQ (by kernel_rfl) rfl rfl rfl rfl rfl rfl (by omega) ?_
   refine k_one 6 (by kernel_rfl) ?_
   refine k_op 6 rfl ?_
   refine g_memoPut 0 rfl rfl rfl rfl Try.underlying88 st_law (fun _ h => h) (kv_key hr) (List.mem_cons_self ..) rfl ?_
   simp only [List.set_cons_zero, List.set_cons_succ]
   refine n_ ?_
   refine k_end (fun _ h => h.pick [7,6,5,1,1,1] rfl) ?_
   refine k_done (by kernel_rfl) ?_
   refine t_ (s_ (o_ ?_))
   refine xg 2 [5] rfl (by omega) ?_
   refine n_ (t_ (g_ret ?_))
   refine g_end1 Try.results25 rfl ?_
   exact fun w hS => ⟨⟨(mput M1 _ gp, (kv ⟨a, p, mi, ma, i⟩, gp) :: E1, gp), fun p0 hp0 => List.mem_cons_of_mem _ (hs1 _ (hp0)), List.mem_cons_self ..⟩, rfl, hS.pick [1,1,1,0] rfl⟩
  refine g_cond_f rfl (g_skip (t_ (s_ (o_ ?_))))
  refine xg 3 [7,0] rfl (by omega) ?_
  refine n_ (t_ ?_)
  refine g_casep 179 rfl (fun h18 => ?_) fun h18 => ?_
  ·refine g_cond_t rfl (o_ ?_)
   refine xg 4 [7] rfl (by omega) ?_
   refine g_val rfl rfl rfl (y_makeFunc rfl) ?_
   refine g_ahead [5,7,6,0,0,0,0,1] rfl ?_
   simp only [List.cons_append, List.nil_append]
   refine g_each (fr := i + 1) (fun k => Sp C.x C.ns (kv (round ⟨a, p, mi, ma, i⟩ k))) hm1 (fun k h1 h2 h3 c M E F w hS => clo2_any C _ _ _ _ k a p i mi ma c hr (hrnd rfl (by assumption) k (by omega) (mKid_in _ hi (by rw [hq1] at h3; exact h3)).2) M E F w hS) Try.call43 (by unfold Cx.W; omega) rfl rfl rfl (fun M2 E2 hs2 => ?_)
   refine n_ (g_in_normal (t_ (s_ ?_)))
   refine g_ahead [6,6] rfl ?_
   simp only [List.cons_append, List.nil_append]
   refine g_memoAdd (q := kv ⟨a, p, mi, ma, i⟩) (c_rep ha hi hq1 (by omega) _ (by first | exact (if_pos (.inl (by omega))).symm | exact (if_pos (.inr (by assumption))).symm | exact (if_neg (fun h8 => h8.elim (fun h9 => by omega) (fun h9 => by rw [show Sp C.x C.ns q1 i = false by assumption] at h9; cases h9))).symm) (by unfold Cx.W; omega)) ?_
   refine k_go [2,2,1,1,1,1] rfl (by kernel_rfl) (fun _ _ _ _ _ h => h) fun hQ => ?_
   refine k_xc 0 [2,2,1,1,1,1] [0] hQ (by kernel_rfl) rfl rfl rfl rfl rfl rfl (by omega) ?_
   refine k_x 1 [2,2,1,1,1,1] [] hQ (by kernel_rfl) rfl rfl rfl rfl rfl rfl ?_
   refine k_x 2 [2,2,1,1,1,1] [] hQ (by kernel_rfl) rfl rfl rfl rfl rfl rfl ?_
   refine k_xc 3 [2,2,1,1,1,1] [3] hQ (by kernel_rfl) rfl rfl rfl rfl rfl rfl (by omega) ?_
   refine k_xc 4 [2,2,1,1,1,1] [1] hQ (by kernel_rfl) rfl rfl rfl rfl rfl rfl (by omega) ?_
   refine k_xc 5 [2,2,1,1,1,1] [2] hQ (by kernel_rfl) rfl rfl rfl rfl rfl rfl (by omega) ?_
   refine k_one 6 (by kernel_rfl) ?_
   refine k_op 6 rfl ?_
   refine g_memoPut 0 rfl rfl rfl rfl Try.underlying88 st_law (fun _ h => h) (kv_key hr) (List.mem_cons_self ..) rfl ?_
   simp only [List.set_cons_zero, List.set_cons_succ]
   refine n_ ?_
   refine k_end (fun _ h => h.pick [2,2,1,1,1,1] rfl) ?_
   refine k_done (by kernel_rfl) ?_
   refine t_ (s_ (o_ ?_))
   refine xg 2 [1] rfl (by omega) ?_
   refine n_ (t_ (g_ret ?_))
   refine g_end1 Try.results25 rfl ?_
   exact fun w hS => ⟨⟨(mput M2 _ gp, (kv ⟨a, p, mi, ma, i⟩, gp) :: E2, gp), fun p0 hp0 => List.mem_cons_of_mem _ (hs2 _ (hs1 _ (hp0))), List.mem_cons_self ..⟩, rfl, hS.pick [4,4,4,0] rfl⟩
  refine g_cond_f rfl (g_skip (g_in_normal (t_ (s_ ?_))))
  refine g_ahead [3,5] rfl ?_
  simp only [List.cons_append, List.nil_append]
  refine g_memoAdd (q := kv ⟨a, p, mi, ma, i⟩) (c_rep0 ha hi hq1 (by omega) _ (by first | exact (if_pos (.inl (by omega))).symm | exact (if_pos (.inr (by assumption))).symm | exact (if_neg (fun h8 => h8.elim (fun h9 => by omega) (fun h9 => by rw [show Sp C.x C.ns q1 i = false by assumption] at h9; cases h9))).symm)) ?_
  refine k_go [7,6,5,1,1,1] rfl (by kernel_rfl) (fun _ _ _ _ _ h => h) fun hQ => ?_
  refine k_xc 0 [7,6,5,1,1,1] [0] hQ (by kernel_rfl) rfl rfl rfl rfl rfl rfl (by omega) ?_
  refine k_x 1 [7,6,5,1,1,1] [] hQ (by kernel_rfl) rfl rfl rfl rfl rfl rfl ?_
  refine k_x 2 [7,6,5,1,1,1] [] hQ (by kernel_rfl) rfl rfl rfl rfl rfl rfl ?_
  refine k_xc 3 [7,6,5,1,1,1] [3] hQ (by kernel_rfl) rfl rfl rfl rfl rfl rfl (by omega) ?_
  refine k_xc 4 [7,6,5,1,1,1] [1] hQ (by kernel_rfl) rfl rfl rfl rfl rfl rfl (by omega) ?_
  refine k_xc 5 [7,6,5,1,1,1] [2] hQ (by kernel_rfl) rfl rfl rfl rfl rfl rfl (by omega) ?_
  refine k_one 6 (by kernel_rfl) ?_
  refine k_op 6 rfl ?_
  refine g_memoPut 0 rfl rfl rfl rfl Try.underlying88 st_law (fun _ h => h) (kv_key hr) (List.mem_cons_self ..) rfl ?_
  simp only [List.set_cons_zero, List.set_cons_succ]
  refine n_ ?_
  refine k_end (fun _ h => h.pick [7,6,5,1,1,1] rfl) ?_
  refine k_done (by kernel_rfl) ?_
  refine t_ (s_ (o_ ?_))
  refine xg 2 [5] rfl (by omega) ?_
  refine n_ (t_ (g_ret ?_))
  refine g_end1 Try.results25 rfl ?_
  exact fun w hS => ⟨⟨(mput M1 _ gp, (kv ⟨a, p, mi, ma, i⟩, gp) :: E1, gp), fun p0 hp0 => List.mem_cons_of_mem _ (hs1 _ (hp0)), List.mem_cons_self ..⟩, rfl, hS.pick [1,1,1,0] rfl⟩
 refine g_cond_f rfl (o_ ?_)
 refine xg 3 [1,3] rfl (by omega) ?_
 refine g_ahead [2] rfl ?_
 simp only [List.cons_append, List.nil_append]
 refine g_add (k := i) (by unfold Cx.W; omega) rfl rfl rfl ?_
 refine n_ (g_in_normal (t_ (s_ ?_)))
 refine g_ahead [8,0] rfl ?_
 simp only [List.cons_append, List.nil_append]
 refine g_memoAdd (q := kv ⟨a, p, mi, ma, i⟩) (c_other ha (by omega)) ?_
 refine k_go [4,3,2,2,2,2] rfl (by kernel_rfl) (fun _ _ _ _ _ h => h) fun hQ => ?_
 refine k_xc 0 [4,3,2,2,2,2] [0] hQ (by kernel_rfl) rfl rfl rfl rfl rfl rfl (by omega) ?_
 refine k_x 1 [4,3,2,2,2,2] [] hQ (by kernel_rfl) rfl rfl rfl rfl rfl rfl ?_
 refine k_x 2 [4,3,2,2,2,2] [] hQ (by kernel_rfl) rfl rfl rfl rfl rfl rfl ?_
 refine k_xc 3 [4,3,2,2,2,2] [3] hQ (by kernel_rfl) rfl rfl rfl rfl rfl rfl (by omega) ?_
 refine k_xc 4 [4,3,2,2,2,2] [1] hQ (by kernel_rfl) rfl rfl rfl rfl rfl rfl (by omega) ?_
 refine k_xc 5 [4,3,2,2,2,2] [2] hQ (by kernel_rfl) rfl rfl rfl rfl rfl rfl (by omega) ?_
 refine k_one 6 (by kernel_rfl) ?_
 refine k_op 6 rfl ?_
 refine g_memoPut 0 rfl rfl rfl rfl Try.underlying88 st_law (fun _ h => h) (kv_key hr) (List.mem_cons_self ..) rfl ?_
 simp only [List.set_cons_zero, List.set_cons_succ]
 refine n_ ?_
 refine k_end (fun _ h => h.pick [4,3,2,2,2,2] rfl) ?_
 refine k_done (by kernel_rfl) ?_
 refine t_ (s_ (o_ ?_))
 refine xg 2 [2] rfl (by omega) ?_
 refine n_ (t_ (g_ret ?_))
 refine g_end1 Try.results25 rfl ?_
 exact fun w hS => ⟨⟨(mput M _ gp, (kv ⟨a, p, mi, ma, i⟩, gp) :: E, gp), fun p0 hp0 => List.mem_cons_of_mem _ (hp0), List.mem_cons_self ..⟩, rfl, hS.pick [5,5,5,0] rfl⟩

end Go.Proofs.Ytfcamlkbkehlnaa

/- all: any state. -/
namespace Go.Proofs.Ytfcamlkbkehlnaa
open Go Go.RowKit

set_option maxRecDepth 100000 in
theorem all_hit (C : Cx) (a p i : Nat) (mi ma : Int) (hr : okS ⟨a, p, mi, ma, i⟩) (M : Value → Option Nat) (E : List (Value × Nat)) (g0 : Nat) (F : List Nat) (w : World) (hM : M (kv ⟨a, p, mi, ma, i⟩) = some g0) (hS0 : St w F [C.mt, C.nd, .kids C.ns, C.mo M E] w) :
    Calls Try.prog 25 #[.pointer (some ⟨C.b, 0, none⟩), .agg ([.int .i64 (a : Int), .int .i64 (p : Int), .int .i64 mi, .int .i64 ma, .int .i64 (i : Int)]).toArray] w fun e w' => ∃ y : {y : (Value → Option Nat) × List (Value × Nat) × Nat // (∀ p, p ∈ E → p ∈ y.2.1) ∧ (kv ⟨a, p, mi, ma, i⟩, y.2.2) ∈ y.2.1}, e = .returned (slW C.W y.1.2.2) ∧ St w F [C.mt, C.nd, .kids C.ns, C.mo y.1.1 y.1.2.1] w' := by
 obtain ⟨r1, r2, r3, r4, r5, r6, r7⟩ := id hr
 dsimp only at r1 r2 r3 r4 r5 r6 r7
 have hmem : (kv ⟨a, p, mi, ma, i⟩, g0) ∈ E := by
   obtain ⟨⟨es, clock, _, _, _, h2⟩, _⟩ : memoOk _ _ _ _ _ _ _ w := hS0.get (i := 3) rfl
   exact (h2 _ g0 hM).1
 refine fn_intro_own Try.func25 rfl Try.ntmps25 rfl rfl hS0 ?_
 refine s_ (o_ ?_)
 refine g_box rfl rfl rfl rfl (fun b1 => ?_)
 refine g_box rfl rfl rfl rfl (fun b2 => ?_)
 refine xg 1 [] rfl rfl ?_
 refine n_ (t_ (s_ (s_ ?_)))
 refine g_quiet (by kernel_rfl) (by kernel_rfl) ?_
 refine xq 5 [1,2,0] rfl (by omega) ?_
 refine q_val (v := .tuple #[slW C.W g0, .bool true]) rfl rfl rfl (y_memo1 5 rfl rfl Try.underlying88 st_law rfl (fun _ h => h) (kv_key hr) hM) ?_
 refine q_val rfl rfl rfl (y_move rfl) ?_
 refine q_val rfl rfl rfl (y_extract rfl rfl) ?_
 refine q_val rfl rfl rfl (y_extract rfl rfl) ?_
 refine xq 2 [] rfl rfl ?_
 refine q_nil (t_ (s_ (o_ ?_)))
 refine xg 1 [] rfl rfl ?_
 refine n_ (t_ (g_cond_t rfl (s_ (o_ ?_))))
 refine xg 2 [] rfl rfl ?_
 refine n_ (t_ (g_ret (g_then_ret ?_)))
 refine g_end1 Try.results25 rfl ?_
 exact fun w hS => ⟨⟨(M, E, g0), fun p hp => hp, hmem⟩, rfl, hS.pick [2,2,2,2] rfl⟩

theorem kid_sl2 {C : Cx} {w : World} {W0 : World} {F : List Nat} {L : List Ent} {i a : Nat} {t : MT} {u1 : Option Addr} {u2 u3 : Nat} {ks : List Nat} (hS : St W0 F L w) (hi : L[i]? = some (.kids C.ns)) (ha : C.ns[a]? = some (t, .slice u1 u2 u3, ks)) : u2 = ks.length ∧ (0 < ks.length → ∃ gk, u1 = some ⟨gk, 0, none⟩) := by
  obtain ⟨_, ⟨h1, h2⟩ | ⟨g, c, h2⟩⟩ := kid_sl (hS.get hi) ha
  · cases h2; subst h1; exact ⟨rfl, fun h => absurd h (by decide)⟩
  · cases h2; exact ⟨rfl, fun _ => ⟨g, rfl⟩⟩
theorem kid_ok2 {C : Cx} {k : Int} {s : Nat → Int} {nmi nma nnu : Int} {v1 u1 : Option Addr} {v2 v3 u2 u3 i a : Nat} {q : List MT} {ks : List Nat} (hi : i ≤ C.x.n) {t : MT} (ha : C.ns[a]? = some (t, .slice u1 u2 u3, ks)) (hl : laidH C.ns q ks) (hall : ∀ u r c, q = u :: r → laidT C.ns u c → AllOk C (beg C.x C.ns c i)) : KidOk C [.int .i64 k, .int .u64 (s 0), .int .u64 (s 1), .int .u64 (s 2), .int .u64 (s 3), .int .i64 nmi, .int .i64 nma, .int .i64 nnu, .slice v1 v2 v3, .slice u1 u2 u3] q i := kid_ok hi ha hl hall
/-- What a state of a node may be. -/
def VS (C : Cx) (t : MT) (a : Nat) (s : Sta) : Prop := s.a = a ∧ s.i ≤ C.x.n ∧ 0 ≤ s.mi ∧ s.mi ≤ C.x.n + 1 ∧ -1 ≤ s.ma ∧ s.ma ≤ C.x.n + 1 ∧ s.p ≤ t.kids.length ∧ (t.k ≠ 2 → s.p = 0)
theorem VS_beg {C : Cx} {t : MT} {a i : Nat} (h : laidT C.ns t a) (hi : i ≤ C.x.n) : VS C t a (beg C.x C.ns a i) := by
  cases t with | mk k s mi ma nu v q =>
  obtain ⟨kv, ks, h1, _⟩ := laidT_mk.1 h
  unfold beg VS
  rw [h1]
  dsimp only
  split
  · dsimp only; exact ⟨rfl, hi, by unfold cLo; omega, by unfold cLo; omega, by unfold cHi; omega, by unfold cHi; omega, Nat.zero_le _, fun _ => rfl⟩
  · dsimp only; exact ⟨rfl, hi, by omega, by omega, by omega, by omega, Nat.zero_le _, fun _ => rfl⟩
theorem allok (C : Cx) : ∀ (D : Nat) (t : MT) (a : Nat), wT t ≤ D → laidT C.ns t a → ∀ (m : Nat) (s : Sta), VS C t a s → (t.kids.length - s.p) + (C.x.n - s.i) ≤ m → AllOk C s := by
  intro D
  induction D with
  | zero => intro t a h; cases t; rw [wT_mk] at h; omega
  | succ D ihD =>
    intro t a hD hl m
    obtain ⟨k, cs, nmi, nma, nnu, v1, u1, v2, v3, u2, u3, q, ks, rfl, ha, hlt, hlk⟩ := Cx.node hl
    have hkid : ∀ u c j, u ∈ q → laidT C.ns u c → j ≤ C.x.n → AllOk C (beg C.x C.ns c j) := fun u c j hu hc hj => by
      have := wT_mem hu
      rw [wT_mk] at hD
      exact ihD u c (by omega) hc _ _ (VS_beg hc hj) (Nat.le_refl _)
    induction m using Nat.strongRecOn with
    | _ m ihm =>
    rintro ⟨a', p, mi, ma, i⟩ ⟨haa, hi, h1, h2, h3, h4, h5, h6⟩ hm M E F w hS0
    dsimp only at haa hi h1 h2 h3 h4 h5 h6 hm
    subst haa
    have hx := C.hx
    have hal := (List.getElem?_eq_some_iff.1 ha).1
    have hnl := C.hl
    obtain ⟨rfl, hgk⟩ := kid_sl2 hS0 (i := 2) rfl ha
    have h5' : p ≤ q.length := h5
    have hmax : maxLen = 9223372036854775807 := rfl
    have hkl := (kid_sl (hS0.get (i := 2) rfl) ha).1
    have hpb : p < 4611686018427387904 := by
      by_cases h2k : k = 2
      · rw [if_neg (by omega)] at hlk
        have := laidL_len hlk
        have : ks.length ≤ 1000000 := C.hn _ (List.mem_of_getElem? ha)
        omega
      · have := h6 h2k; omega
    have hr : okS ⟨a', p, mi, ma, i⟩ := by unfold okS; dsimp only; omega
    cases hM : M (kv ⟨a', p, mi, ma, i⟩) with
    | some g => exact all_hit C a' p i mi ma hr M E g F w hM hS0
    | none =>
      refine all_miss C k cs nmi nma nnu v1 u1 v2 v3 u3 a' p i mi ma q ks ha hgk hi hr ?_ ?_ ?_ ?_ ?_ ?_ M E F w hM hS0
      · intro hk
        rw [if_neg (by omega)] at hlk
        rw [laidL_len hlk]; exact h5'
      · intro k5 k4
        rw [if_neg (by omega)] at hlk
        exact hlk
      · intro hk
        rw [if_pos hk] at hlk
        exact kid_ok2 hi ha hlk fun u r c hq hc => hkid u c i (by rw [hq]; exact List.mem_cons_self ..) hc hi
      · exact fun t kk ht hc => hkid t kk i ht hc hi
      · intro hk hp j hj1 hj2
        rw [if_neg (by omega)] at hlk
        have hlen := laidL_len hlk
        refine ihm ((q.length - (p + 1)) + (C.x.n - j)) (by show _ < m; have : q.length - p + (C.x.n - i) ≤ m := hm; omega) _ ⟨rfl, hj2, by show (0 : Int) ≤ 0; omega, by show (0 : Int) ≤ _; omega, by show (-1 : Int) ≤ 0; omega, by show (0 : Int) ≤ _; omega, by show p + 1 ≤ q.length; omega, fun h => absurd hk h⟩ (Nat.le_refl _)
      · intro hk hma j hj1 hj2
        refine ihm ((q.length - p) + (C.x.n - j)) (by have : q.length - p + (C.x.n - i) ≤ m := hm; omega) _ ⟨rfl, hj2, by show (0 : Int) ≤ max (mi - 1) 0; omega, by show max (mi - 1) 0 ≤ _; omega, ?_, ?_, h5, h6⟩ (Nat.le_refl _)
        · show -1 ≤ (if 0 < ma then ma - 1 else ma); split <;> omega
        · show (if 0 < ma then ma - 1 else ma) ≤ _; split <;> omega

end Go.Proofs.Ytfcamlkbkehlnaa

/- The greatest place: last. -/
namespace Go.Proofs.Ytfcamlkbkehlnaa
open Go Go.RowKit

/-- v is the greatest place of c below 64 W; -1: there is none. -/
def lastP (c : Nat → Bool) (W : Nat) (v : Int) : Prop := (v = -1 ∧ ∀ j, j < 64 * W → c j = false) ∨ ∃ i : Nat, v = i ∧ i < 64 * W ∧ c i = true ∧ ∀ j, i < j → j < 64 * W → c j = false
theorem top_bit {x : Nat} (h0 : x ≠ 0) (h : x < 18446744073709551616) : 1 ≤ Lib.bitLen x ∧ Lib.bitLen x ≤ 64 ∧ x.testBit (Lib.bitLen x - 1) = true ∧ ∀ j, Lib.bitLen x ≤ j → x.testBit j = false := by
  obtain ⟨h1, h2, h3⟩ := Lib.bitLenAux_bounds 64 x (by omega) h0
  have h4 : Lib.bitLen x ≤ 64 := Lib.bitLen_le x 64 (Nat.le_refl _) (by omega)
  have e : Lib.bitLenAux 64 x = Lib.bitLen x := rfl
  rw [e] at h1 h2 h3
  refine ⟨h1, h4, ?_, fun j hj => ?_⟩
  · rw [Nat.testBit_eq_decide_div_mod_eq]
    have e2 : x / 2 ^ (Lib.bitLen x - 1) = 1 := by
      have hp : 2 ^ Lib.bitLen x = 2 * 2 ^ (Lib.bitLen x - 1) := by
        rw [show Lib.bitLen x = (Lib.bitLen x - 1) + 1 by omega, Nat.pow_succ]
        simp; omega
      rw [Nat.div_eq_iff (Nat.two_pow_pos _)]
      omega
    rw [e2]; rfl
  · exact Nat.testBit_lt_two_pow (Nat.lt_of_lt_of_le h3 (Nat.pow_le_pow_right (by decide) hj))
theorem last_word {c : Nat → Bool} {W m : Nat} (hm : m < W) (hz : ∀ j, 64 * (m + 1) ≤ j → j < 64 * W → c j = false) (h : wd c m ≠ 0) : lastP c W (64 * (m : Int) + (Lib.bitLen (wd c m) : Int) - 1) := by
  obtain ⟨h1, h2, h3, h4⟩ := top_bit h (wd_lt c m)
  refine .inr ⟨64 * m + (Lib.bitLen (wd c m) - 1), by omega, by omega, ?_, fun j hj hj2 => ?_⟩
  · have := wd_bit c m (Lib.bitLen (wd c m) - 1)
    rw [h3, decide_eq_true (by omega), Bool.true_and] at this
    exact this.symm
  · by_cases hb : 64 * (m + 1) ≤ j
    · exact hz j hb hj2
    · have := wd_bit c m (j - 64 * m)
      rw [h4 _ (by omega), decide_eq_true (by omega), Bool.true_and, show 64 * m + (j - 64 * m) = j by omega] at this
      exact this.symm

set_option maxRecDepth 100000 in
theorem last_any (c : Nat → Bool) (g W : Nat) (hW : W ≤ 1000000) (w : World) (hr : RdSl w (some ⟨g, 0, none⟩) W 1 (fun k _ => .int .u64 (wd c k : Int))) :
    Calls Try.prog 26 #[slW W g] w fun e w' => ∃ x : {v : Int // lastP c W v}, e = .returned (.int .i64 x.1) ∧ Below w.heap.size w w' := by
 refine fn_intro Try.func26 rfl Try.ntmps26 rfl rfl ?_
 refine s_ (o_ ?_)
 refine xg 1 [] rfl rfl ?_
 refine n_ (t_ (s_ (s_ (o_ ?_))))
 refine xg 1 [] rfl rfl ?_
 refine g_val (v := .int .i64 (W : Int)) rfl rfl rfl (y_llen rfl Try.underlying65) ?_
 refine xg 2 [] rfl (by omega) ?_
 refine n_ (t_ (g_block ?_))
 refine g_loop (α := {x : Nat // x ≤ W ∧ ∀ j, 64 * x ≤ j → j < 64 * W → c j = false}) (fun x => [(0, slW W g), (3, .int .i64 ((x.1 : Int) - 1))]) (fun x => St w [] []) (fun x => x.1) ⟨W, Nat.le_refl _, fun j h1 h2 => by omega⟩ [0, 3] rfl (fun w h => h.pick [] rfl) ?_
 rintro ⟨k, hk, hz⟩
 dsimp only
 refine s_ (s_ (o_ ?_))
 refine xg 2 [0] rfl rfl ?_
 refine n_ (t_ ?_)
 refine g_casep 8 rfl (fun h1 => ?_) fun h1 => ?_
 ·refine g_cond_t rfl (g_skip (t_ (s_ (g_block (s_ ?_)))))
  obtain ⟨m, hmk⟩ : ∃ m : Nat, k = m + 1 := ⟨k - 1, by omega⟩
  refine o_ ?_
  refine xg 2 [] rfl rfl ?_
  refine g_val (v := .pointer (some (((some ⟨g, 0, none⟩ : Option Addr).getD default).add m))) rfl rfl rfl (y_val (y_rdAddr hr rfl rfl Try.underlying65 Try.sizeOf23 (by omega) (by omega)) (by rw [show ((k : Int) - 1).toNat = m by omega, Nat.mul_one])) ?_
  refine g_val (v := .int .u64 (wd c m : Int)) rfl rfl rfl (y_val (y_rdFieldF (i := (m : Int)) (j := 0) hr List.not_mem_nil rfl (by rw [Int.toNat_natCast]; omega) Try.isAgg23 (by omega) (by omega) (by decide)) rfl) ?_
  refine xg 1 [0] rfl rfl ?_
  refine n_ (t_ ?_)
  refine g_casep 15 rfl (fun h2 => ?_) fun h2 => ?_
  ·refine g_cond_t rfl (s_ ?_)
   have hb64 : Lib.bitLen (wd c m) ≤ 64 := Lib.bitLen_le _ 64 (Nat.le_refl _) (by have := wd_lt c m; omega)
   refine o_ ?_
   refine xg 1 [] rfl rfl ?_
   refine g_val (v := .int .i64 (64 * (m : Int))) rfl rfl rfl (y_val (y_shl rfl rfl (by decide)) (by rw [show ((k : Int) - 1) = m by omega, show min (6 : Int).toNat IntKind.i64.bits = 6 from rfl, wrap_in (by omega)]; congr 1; omega)) ?_
   refine xg 2 [] rfl rfl ?_
   refine g_val (v := .pointer (some (((some ⟨g, 0, none⟩ : Option Addr).getD default).add m))) rfl rfl rfl (y_val (y_rdAddr hr rfl rfl Try.underlying65 Try.sizeOf23 (by omega) (by omega)) (by rw [show ((k : Int) - 1).toNat = m by omega, Nat.mul_one])) ?_
   refine g_val (v := .int .u64 (wd c m : Int)) rfl rfl rfl (y_val (y_rdFieldF (i := (m : Int)) (j := 0) hr List.not_mem_nil rfl (by rw [Int.toNat_natCast]; omega) Try.isAgg23 (by omega) (by omega) (by decide)) rfl) ?_
   refine g_call1 (v := .int .i64 (Lib.bitLen (wd c m) : Int)) rfl rfl rfl Try.call45 (fun w hS => ((Try.bits_Len64 _ w (by omega) (by have := wd_lt c m; omega)).mono fun e w1 ⟨h8, h9⟩ => ⟨by rw [h8, Int.toNat_natCast], by rw [h9]; exact (St.refl w).below⟩)) ?_
   refine xg 3 [] rfl (by omega) ?_
   refine n_ (t_ (g_ret (g_in_ret (g_then_ret (g_then_ret (g_in_ret (g_then_ret ?_)))))))
   refine g_end1 Try.results26 rfl ?_
   exact fun w hS => ⟨⟨_, last_word (m := m) (by omega) (fun j h1 h2 => hz j (by omega) h2) (by omega)⟩, by rfl, hS.below⟩
  refine g_cond_f rfl (g_skip (g_in_normal (t_ (o_ ?_))))
  refine xg 3 [] rfl (by omega) ?_
  refine n_ ?_
  exact g_again ⟨m, by omega, fun j h1 h2 => by
    by_cases h3 : 64 * k ≤ j
    · exact hz j h3 h2
    · have h4 := wd_zero' (c := c) (k := m) (by omega) (j - 64 * m) (by omega)
      rwa [show 64 * m + (j - 64 * m) = j by omega] at h4⟩ [0, 3] (by dsimp only; omega) (by rw [show ((k : Int) - 1 - 1) = (m : Int) - 1 by omega]; rfl) (fun w h => h.pick [] rfl)
 refine g_cond_f rfl (g_exit (g_then_exit (g_then_exit (g_in_exit (t_ (s_ (o_ ?_)))))))
 refine xg 1 [] rfl rfl ?_
 refine n_ (t_ (g_ret ?_))
 refine g_end1 Try.results26 rfl ?_
 exact fun w hS => ⟨⟨-1, .inl ⟨rfl, fun j hj => hz j (by omega) hj⟩⟩, rfl, hS.below⟩

end Go.Proofs.Ytfcamlkbkehlnaa

/- laid: a matcher of a tree. -/
namespace Go.Proofs.Ytfcamlkbkehlnaa
open Go Go.RowKit

theorem g_memoSp {N : Nat} {R : Regs} {W0 : World} {F : List Nat} {Lr : List Ent} {X : Act → World → Prop} {e : TypeId} {b W W' : Nat} {Sp Sp' : Value → Nat → Bool} {Ks : Value → Prop} (h : G N R (St W0 F (.memo e b W' Sp' Ks (fun _ => none) [] :: Lr)) X) : G N R (St W0 F (.memo e b W Sp Ks (fun _ => none) [] :: Lr)) X := by
  refine g_nilRow 3 1 (g_perm (.swap _ _ _) (g_merge (.memo e b W' Sp' Ks (fun _ => none) []) (fun w h1 _ => ?_) (fun k hk => .inl hk) h))
  obtain ⟨⟨es, clock, a1, a2, a3, a4⟩, _⟩ := h1
  refine ⟨⟨es, clock, a1, a2, fun x hx => ?_, fun q g hq => by cases hq⟩, fun p hp => by cases hp⟩
  obtain ⟨_, g, _, hg⟩ := a3 x hx
  cases hg

theorem g_kids0 {N : Nat} {R : Regs} {W0 : World} {F : List Nat} {Lr : List Ent} {X : Act → World → Prop} (h : G N R (St W0 F (.kids [] :: Lr)) X) : G N R (St W0 F Lr) X := h.weaken fun w hS =>
  ⟨hS.os, hS.tape, hS.output, hS.size, hS.keep, fun x hx => (List.mem_cons.1 hx).elim (fun q => by subst q; exact (show kidsOk [] w from fun d hd => by cases hd)) (hS.ok x), fun x hx k hk => (List.mem_cons.1 hx).elim (fun q => by subst q; cases (show k ∈ ([] : List Nat) from hk)) (fun q => hS.own x q k hk),
    List.pairwise_cons.2 ⟨fun y _ k hk => (by cases (show k ∈ ([] : List Nat) from hk)), hS.apart⟩⟩
theorem laid_pos {ns : List Nd} {t : MT} (h : laidT ns t 0) : 0 < ns.length := by
  cases t with | mk k s mi ma nu v q =>
  obtain ⟨kv, ks, h1, _⟩ := laidT_mk.1 h
  exact (List.getElem?_eq_some_iff.1 h1).1

set_option maxRecDepth 100000 in
theorem laid_any (tx : Tx) (k : Int) (s : Nat → Int) (nmi nma nnu : Int) (pq : Option Addr) (cq : Nat) (q : List MT) (hx : tx.n ≤ 1000000) (hle : wT (MT.mk k s nmi nma nnu (Value.slice pq q.length cq) q) ≤ 1000000) (w : World) (hok : MT.rd w (MT.mk k s nmi nma nnu (Value.slice pq q.length cq) q)) :
    Calls Try.prog 23 #[.agg (nC (MT.mk k s nmi nma nnu (Value.slice pq q.length cq) q)).toArray, st8 tx.l, .bool tx.bg] w fun e w' => ∃ y : {C : Cx // C.x = tx ∧ laidT C.ns (MT.mk k s nmi nma nnu (Value.slice pq q.length cq) q) 0}, e = .returned (.tuple #[.pointer (some ⟨y.1.b, 0, none⟩), .int .i64 0]) ∧ St w [] [y.1.mt, y.1.nd, .kids y.1.ns, y.1.mo (fun _ => none) []] w' := by
 refine fn_intro Try.func23 rfl Try.ntmps23 rfl rfl ?_
 refine s_ (o_ ?_)
 refine g_box rfl rfl rfl rfl (fun b1 => ?_)
 refine g_val rfl rfl rfl (y_assign rfl) ?_
 refine xg 1 [] rfl rfl ?_
 refine ntso_ ?_
 refine xg 2 [] rfl rfl ?_
 refine g_makeMemo rfl rfl 23 0 (fun _ _ => false) Kp (fun mp => ?_)
 refine g_val (v := .agg ([.slice none 0 0, st8 tx.l, .bool tx.bg, .map (some mp)] : List Value).toArray) rfl rfl rfl (y_builtE (z := [.slice none 0 0, st8 tx.l, .bool tx.bg, .map (some mp)]) rfl (by kernel_rfl)) ?_
 refine g_box rfl rfl rfl rfl (fun b2 => ?_)
 refine xg 1 [] rfl rfl ?_
 refine ntso_ ?_
 refine xg 3 [2] rfl (by omega) ?_
 refine g_nilRow 94 10 ?_
 refine g_kids0 ?_
 refine g_ahead [2,1,0] rfl ?_
 simp only [List.cons_append, List.nil_append]
 refine g_callOwn (L0 := [.cells b2 91 [.slice none 0 0, st8 tx.l, .bool tx.bg, .map (some mp)], .row 94 10 (.slice none 0 0) ([] : List Nd).length (([] : List Nd).flatMap fC), .kids []]) (fun _ : {y : Value × List Nd // laidT (([] : List Nd) ++ y.2) (MT.mk k s nmi nma nnu (Value.slice pq q.length cq) q) ([] : List Nd).length ∧ y.2.length ≤ wT (MT.mk k s nmi nma nnu (Value.slice pq q.length cq) q) ∧ ∀ d ∈ y.2, Nice d} => .int .i64 ((([] : List Nd).length : Nat) : Int)) (fun y => [.cells b2 91 [y.1.1, st8 tx.l, .bool tx.bg, .map (some mp)], .row 94 10 y.1.1 (([] : List Nd) ++ y.1.2).length ((([] : List Nd) ++ y.1.2).flatMap fC), .kids (([] : List Nd) ++ y.1.2)]) rfl rfl rfl Try.call36 (fun w' hS => lay_ok b2 mp tx _ _ (Nat.le_refl _) [] _ _ w' (hS.okOf hok (fun _ _ => List.not_mem_nil)) (hS.outOf hok (fun _ _ => List.not_mem_nil)) (by rw [List.length_nil]; omega) hS.part) ?_
 rintro ⟨⟨vn, ns⟩, hl, hm, hn⟩
 dsimp only at hl hm hn
 simp only [List.cons_append, List.nil_append, List.length_nil] at hl ⊢
 have hpos : 0 < ns.length := laid_pos hl
 refine g_rowCase 1 rfl hpos (fun gn cn hvn => ?_)
 subst hvn
 refine g_ahead [3] rfl ?_
 simp only [List.cons_append, List.nil_append]
 refine g_memoSp (W' := tx.n / 64 + 1) (Sp' := Sp tx ns) ?_
 refine xg 2 [] rfl rfl ?_
 refine n_ (t_ (g_ret ?_))
 refine g_end2 Try.results23 rfl rfl ?_
 exact fun w hS => ⟨⟨⟨b2, mp, gn, cn, tx, ns, hx, fun d hd => (hn d hd).1, fun d hd => (hn d hd).2.1, by omega, fun d hd => (hn d hd).2.2⟩, rfl, hl⟩, rfl, hS.pick [1,1,1,0] rfl⟩

end Go.Proofs.Ytfcamlkbkehlnaa

/- Where the groups of a tree lie: the plain law. -/
namespace Go.Proofs.Ytfcamlkbkehlnaa
open Go Go.RowKit

/-- The greatest k below c, from lo on, that p tells. -/
def topK (p : Nat → Bool) (lo : Nat) : Nat → Option Nat
  | 0 => none
  | c + 1 => if decide (lo ≤ c) && p c then some c else topK p lo c
theorem topK_some {p : Nat → Bool} {lo k : Nat} : ∀ {c : Nat}, lo ≤ k → k < c → p k = true → (∀ j, k < j → j < c → p j = false) → topK p lo c = some k
  | 0, _, h, _, _ => by omega
  | c + 1, h1, h2, h3, h4 => by
    rw [topK]
    by_cases e : k = c
    · subst e; rw [if_pos (by simp [h1, h3])]
    · rw [if_neg (by simp [h4 c (by omega) (by omega)])]
      exact topK_some h1 (by omega) h3 fun j a b => h4 j a (by omega)
theorem topK_none {p : Nat → Bool} {lo : Nat} : ∀ {c : Nat}, (∀ j, lo ≤ j → j < c → p j = false) → topK p lo c = none
  | 0, _ => rfl
  | c + 1, h => by
    rw [topK, if_neg, topK_none fun j a b => h j a (by omega)]
    by_cases hc : lo ≤ c
    · simp [h c hc (by omega)]
    · simp [hc]
theorem topK_is {p : Nat → Bool} {lo k : Nat} : ∀ {c : Nat}, topK p lo c = some k → lo ≤ k ∧ k < c ∧ p k = true
  | 0, h => by cases h
  | c + 1, h => by
    rw [topK] at h
    split at h
    · rename_i hh
      simp only [Bool.and_eq_true, decide_eq_true_eq] at hh
      cases h; exact ⟨hh.1, by omega, hh.2⟩
    · have := topK_is h; exact ⟨this.1, by omega, this.2.2⟩
/-- Spans: of ten groups, from where to where. -/
abbrev Spn := Nat → Int × Int
def spC (m : Spn) : List Value := [.int .i64 (m 0).1, .int .i64 (m 0).2, .int .i64 (m 1).1, .int .i64 (m 1).2, .int .i64 (m 2).1, .int .i64 (m 2).2, .int .i64 (m 3).1, .int .i64 (m 3).2, .int .i64 (m 4).1, .int .i64 (m 4).2, .int .i64 (m 5).1, .int .i64 (m 5).2, .int .i64 (m 6).1, .int .i64 (m 6).2, .int .i64 (m 7).1, .int .i64 (m 7).2, .int .i64 (m 8).1, .int .i64 (m 8).2, .int .i64 (m 9).1, .int .i64 (m 9).2]
def setS (m : Spn) (k : Nat) (p : Int × Int) : Spn := fun j => if j = k then p else m j
theorem spC_put (m : Spn) (a b : Int) : ∀ k, k < 10 → putE (k * 2) (spC m) [.int .i64 a, .int .i64 b] = some (spC (setS m k (a, b)))
  | 0, _ => rfl
  | 1, _ => rfl
  | 2, _ => rfl
  | 3, _ => rfl
  | 4, _ => rfl
  | 5, _ => rfl
  | 6, _ => rfl
  | 7, _ => rfl
  | 8, _ => rfl
  | 9, _ => rfl
  | k + 10, h => by omega
/-- Rounds: each as long as may be. -/
def gRep (n : Nat) (K : Nat → Nat → Bool) (g : Nat → Nat → Spn → Spn) : Nat → Int → Int → Nat → Nat → Spn → Spn
  | 0, _, _, _, _, m => m
  | f + 1, lo, hi, i, j, m => if i = j then (if 0 < lo then g j j m else m) else match topK (fun k => K i k && rep n K (n + 1) (max (lo - 1) 0) (if 0 < hi then hi - 1 else hi) k j) (i + 1) (j + 1) with
    | some k => gRep n K g f (max (lo - 1) 0) (if 0 < hi then hi - 1 else hi) k j (g i k m)
    | none => m
mutual
/-- The groups of a tree that matches from i to j. -/
def gM (x : Tx) : MT → Nat → Nat → Spn → Spn
  | .mk k _ mi ma nu _ q, i, j, m =>
    if k = 2 then gRow x q i j m
    else if k = 3 then gAny x q i j m
    else if k = 5 then gKid x q i j (if 1 ≤ nu ∧ nu < 10 then setS m nu.toNat (i, j) else m)
    else if k = 4 then gRep x.n (fun a b => mKid x q a b) (fun a b m => gKid x q a b m) (x.n + 1) (cLo x.n mi) (cHi x.n ma) i j m
    else m
def gRow (x : Tx) : List MT → Nat → Nat → Spn → Spn
  | [], _, _, m => m
  | t :: q, i, j, m => match topK (fun k => mM x t i k && mRow x q k j) i (j + 1) with
    | some k => gRow x q k j (gM x t i k m)
    | none => m
def gAny (x : Tx) : List MT → Nat → Nat → Spn → Spn
  | [], _, _, m => m
  | t :: q, i, j, m => if mM x t i j then gM x t i j m else gAny x q i j m
def gKid (x : Tx) : List MT → Nat → Nat → Spn → Spn
  | [], _, _, m => m
  | t :: _, i, j, m => gM x t i j m
end
theorem gM_mk {x : Tx} {k : Int} {s : Nat → Int} {mi ma nu : Int} {v : Value} {q : List MT} {i j : Nat} {m : Spn} : gM x (.mk k s mi ma nu v q) i j m = (if k = 2 then gRow x q i j m
    else if k = 3 then gAny x q i j m
    else if k = 5 then gKid x q i j (if 1 ≤ nu ∧ nu < 10 then setS m nu.toNat (i, j) else m)
    else if k = 4 then gRep x.n (fun a b => mKid x q a b) (fun a b m => gKid x q a b m) (x.n + 1) (cLo x.n mi) (cHi x.n ma) i j m
    else m) := by rw [gM]
theorem gRow_nil {x : Tx} {i j : Nat} {m : Spn} : gRow x [] i j m = m := by rw [gRow]
theorem gRow_cons {x : Tx} {t : MT} {q : List MT} {i j : Nat} {m : Spn} : gRow x (t :: q) i j m = (match topK (fun k => mM x t i k && mRow x q k j) i (j + 1) with
    | some k => gRow x q k j (gM x t i k m)
    | none => m) := by rw [gRow]
theorem gAny_nil {x : Tx} {i j : Nat} {m : Spn} : gAny x [] i j m = m := by rw [gAny]
theorem gAny_cons {x : Tx} {t : MT} {q : List MT} {i j : Nat} {m : Spn} : gAny x (t :: q) i j m = if mM x t i j then gM x t i j m else gAny x q i j m := by rw [gAny]
theorem gKid_nil {x : Tx} {i j : Nat} {m : Spn} : gKid x [] i j m = m := by rw [gKid]
theorem gKid_cons {x : Tx} {t : MT} {q : List MT} {i j : Nat} {m : Spn} : gKid x (t :: q) i j m = gM x t i j m := by rw [gKid]
theorem gRep_fuel {n : Nat} {K : Nat → Nat → Bool} {g : Nat → Nat → Spn → Spn} : ∀ (f f' : Nat) (lo hi : Int) (i j : Nat) (m : Spn), j + 1 ≤ f + i → j + 1 ≤ f' + i → i ≤ j → gRep n K g f lo hi i j m = gRep n K g f' lo hi i j m := by
  intro f
  induction f with
  | zero => intro f' lo hi i j m h _ h3; omega
  | succ f ih =>
    intro f' lo hi i j m h h2 h3
    cases f' with
    | zero => omega
    | succ f' =>
      rw [gRep, gRep]
      split
      · rfl
      · split
        · rename_i k hk
          obtain ⟨h4, h5, _⟩ := topK_is hk
          exact ih f' _ _ k j _ (by omega) (by omega) (by omega)
        · rfl
/-- The groups of a state up to a place. -/
def gS (x : Tx) (ns : List Nd) (s : Sta) (j : Nat) (m : Spn) : Spn := match ns[s.a]? with
  | some (.mk k c mi ma nu v q, _, _) => if k = 2 then gRow x (q.drop s.p) s.i j m else if k = 4 then gRep x.n (fun a b => mKid x q a b) (fun a b m => gKid x q a b m) (x.n + 1) s.mi s.ma s.i j m else gM x (.mk k c mi ma nu v q) s.i j m
  | none => m
theorem gS_beg {x : Tx} {ns : List Nd} {t : MT} {a i j : Nat} {m : Spn} (h : laidT ns t a) : gS x ns (beg x ns a i) j m = gM x t i j m := by
  cases t with | mk k s mi ma nu v q =>
  obtain ⟨kv, ks, h1, _⟩ := laidT_mk.1 h
  unfold beg gS
  rw [h1]
  dsimp only
  by_cases h4 : k = 4
  · rw [if_pos h4]; dsimp only; rw [h1]; dsimp only
    rw [if_neg (by omega), if_pos h4, gM_mk, if_neg (by omega), if_neg (by omega), if_neg (by omega), if_pos h4]
  · rw [if_neg h4]; dsimp only; rw [h1]; dsimp only
    by_cases h2 : k = 2
    · rw [if_pos h2, gM_mk, if_pos h2]; rfl
    · rw [if_neg h2, if_neg h4]
section
variable {x : Tx} {ns : List Nd} {a p i j : Nat} {mi ma : Int} {k : Int} {s : Nat → Int} {nmi nma nnu : Int} {v kvv : Value} {q : List MT} {ks : List Nat} {m : Spn}
theorem gs_at (ha : ns[a]? = some (.mk k s nmi nma nnu v q, kvv, ks)) : gS x ns ⟨a, p, mi, ma, i⟩ j m = (if k = 2 then gRow x (q.drop p) i j m else if k = 4 then gRep x.n (fun a b => mKid x q a b) (fun a b m => gKid x q a b m) (x.n + 1) mi ma i j m else gM x (.mk k s nmi nma nnu v q) i j m) := by
  unfold gS; dsimp only; rw [ha]
theorem gs_row0 (ha : ns[a]? = some (.mk 2 s nmi nma nnu v q, kvv, ks)) (hp : q.length ≤ p) : gS x ns ⟨a, p, mi, ma, i⟩ j m = m := by
  rw [gs_at ha, if_pos rfl, List.drop_eq_nil_of_le hp, gRow_nil]
theorem gs_rowS {t : MT} {c k0 : Nat} (ha : ns[a]? = some (.mk 2 s nmi nma nnu v q, kvv, ks)) (ht : q[p]? = some t) (hl : laidT ns t c) (h1 : i ≤ k0) (h2 : k0 ≤ j) (h3 : Sp x ns (kv (beg x ns c i)) k0 = true) (h4 : Sp x ns (kv ⟨a, p + 1, 0, 0, k0⟩) j = true)
    (h5 : ∀ b, k0 < b → b ≤ j → (Sp x ns (kv (beg x ns c i)) b && Sp x ns (kv ⟨a, p + 1, 0, 0, b⟩) j) = false) : gS x ns ⟨a, p, mi, ma, i⟩ j m = gS x ns ⟨a, p + 1, 0, 0, k0⟩ j (gS x ns (beg x ns c i) k0 m) := by
  have hp := (List.getElem?_eq_some_iff.1 ht)
  have e : ∀ b, Sp x ns (kv ⟨a, p + 1, 0, 0, b⟩) j = mRow x (q.drop (p + 1)) b j := fun b => by rw [spec_at ha, if_pos rfl]
  rw [gs_at ha, if_pos rfl, List.drop_eq_getElem_cons hp.1, hp.2, gRow_cons, topK_some h1 (by omega) (by rw [← e, h4, ← spec_beg hl, ← Sp_kv, h3]; rfl) (fun b b1 b2 => by have := h5 b b1 (by omega); rw [e, Sp_kv, spec_beg hl] at this; exact this)]
  dsimp only
  rw [gs_at ha, if_pos rfl, gS_beg hl]
theorem gs_rowN {t : MT} {c : Nat} (ha : ns[a]? = some (.mk 2 s nmi nma nnu v q, kvv, ks)) (ht : q[p]? = some t) (hl : laidT ns t c) (h5 : ∀ b, i ≤ b → b ≤ j → (Sp x ns (kv (beg x ns c i)) b && Sp x ns (kv ⟨a, p + 1, 0, 0, b⟩) j) = false) : gS x ns ⟨a, p, mi, ma, i⟩ j m = m := by
  have hp := (List.getElem?_eq_some_iff.1 ht)
  have e : ∀ b, Sp x ns (kv ⟨a, p + 1, 0, 0, b⟩) j = mRow x (q.drop (p + 1)) b j := fun b => by rw [spec_at ha, if_pos rfl]
  rw [gs_at ha, if_pos rfl, List.drop_eq_getElem_cons hp.1, hp.2, gRow_cons, topK_none (fun b b1 b2 => by have := h5 b b1 (by omega); rw [e, Sp_kv, spec_beg hl] at this; exact this)]
theorem gAny_drop : ∀ {q : List MT} {n : Nat}, (∀ t, t ∈ q.take n → mM x t i j = false) → gAny x q i j m = gAny x (q.drop n) i j m
  | [], n, _ => by rw [List.drop_nil]
  | t :: q, 0, _ => rfl
  | t :: q, n + 1, h => by
    rw [gAny_cons, if_neg (by rw [h t (by simp)]; decide), List.drop_succ_cons]
    exact gAny_drop fun u hu => h u (by simp [hu])
theorem gs_eiS {t : MT} {c n : Nat} (ha : ns[a]? = some (.mk 3 s nmi nma nnu v q, kvv, ks)) (ht : q[n]? = some t) (hl : laidT ns t c) (h3 : Sp x ns (kv (beg x ns c i)) j = true) (h5 : ∀ u, u ∈ q.take n → mM x u i j = false) : gS x ns ⟨a, p, mi, ma, i⟩ j m = gS x ns (beg x ns c i) j m := by
  have hp := (List.getElem?_eq_some_iff.1 ht)
  rw [gs_at ha, if_neg (by decide), if_neg (by decide), gM_mk, if_neg (by decide), if_pos rfl, gAny_drop h5, List.drop_eq_getElem_cons hp.1, hp.2, gAny_cons, if_pos (by rw [← spec_beg hl, ← Sp_kv]; exact h3), gS_beg hl]
theorem gs_eiN (ha : ns[a]? = some (.mk 3 s nmi nma nnu v q, kvv, ks)) {n : Nat} (hn : q.length ≤ n) (h5 : ∀ u, u ∈ q.take n → mM x u i j = false) : gS x ns ⟨a, p, mi, ma, i⟩ j m = m := by
  rw [gs_at ha, if_neg (by decide), if_neg (by decide), gM_mk, if_neg (by decide), if_pos rfl, gAny_drop h5, List.drop_eq_nil_of_le hn, gAny_nil]
theorem ei_more {n : Nat} {t : MT} (ht : q[n]? = some t) (h5 : ∀ u, u ∈ q.take n → mM x u i j = false) (h : mM x t i j = false) : ∀ u, u ∈ q.take (n + 1) → mM x u i j = false := fun u hu => by
  rw [List.take_add_one, ht] at hu
  rcases List.mem_append.1 hu with h1 | h1
  · exact h5 u h1
  · have : u = t := by simpa using h1
    rw [this]; exact h
theorem gs_grp (ha : ns[a]? = some (.mk 5 s nmi nma nnu v q, kvv, ks)) : gS x ns ⟨a, p, mi, ma, i⟩ j m = gKid x q i j (if 1 ≤ nnu ∧ nnu < 10 then setS m nnu.toNat (i, j) else m) := by
  rw [gs_at ha, if_neg (by decide), if_neg (by decide), gM_mk, if_neg (by decide), if_neg (by decide), if_pos rfl]
theorem gs_other (ha : ns[a]? = some (.mk k s nmi nma nnu v q, kvv, ks)) (h : k ≠ 2 ∧ k ≠ 3 ∧ k ≠ 5 ∧ k ≠ 4) : gS x ns ⟨a, p, mi, ma, i⟩ j m = m := by
  rw [gs_at ha, if_neg h.1, if_neg h.2.2.2, gM_mk, if_neg h.1, if_neg h.2.1, if_neg h.2.2.1, if_neg h.2.2.2]
theorem gs_rep0 (ha : ns[a]? = some (.mk 4 s nmi nma nnu v q, kvv, ks)) : gS x ns ⟨a, p, mi, ma, i⟩ i m = if 0 < mi then gKid x q i i m else m := by
  rw [gs_at ha, if_neg (by decide), if_pos rfl, gRep, if_pos rfl]
theorem gs_repS {k0 : Nat} (ha : ns[a]? = some (.mk 4 s nmi nma nnu v q, kvv, ks)) (hij : i ≠ j) (hj : j ≤ x.n) (h1 : i < k0) (h2 : k0 ≤ j) (h3 : mKid x q i k0 = true) (h4 : Sp x ns (kv (round ⟨a, p, mi, ma, i⟩ k0)) j = true)
    (h5 : ∀ b, k0 < b → b ≤ j → (mKid x q i b && Sp x ns (kv (round ⟨a, p, mi, ma, i⟩ b)) j) = false) : gS x ns ⟨a, p, mi, ma, i⟩ j m = gS x ns (round ⟨a, p, mi, ma, i⟩ k0) j (gKid x q i k0 m) := by
  have e : ∀ b, Sp x ns (kv (round ⟨a, p, mi, ma, i⟩ b)) j = rep x.n (fun a b => mKid x q a b) (x.n + 1) (max (mi - 1) 0) (if 0 < ma then ma - 1 else ma) b j := fun b => by unfold round; rw [spec_at ha, if_neg (by decide), if_pos rfl]
  rw [gs_at ha, if_neg (by decide), if_pos rfl, gRep, if_neg hij, topK_some (show i + 1 ≤ k0 by omega) (by omega) (by rw [← e, h4, h3]; rfl) (fun b b1 b2 => by have := h5 b b1 (by omega); rw [e] at this; exact this)]
  dsimp only
  unfold round
  rw [gs_at ha, if_neg (show ¬ (4 : Int) = 2 by decide), if_pos (show (4 : Int) = 4 from rfl)]
  exact gRep_fuel _ _ _ _ _ _ _ (by omega) (by omega) (by omega)
theorem gs_repN (ha : ns[a]? = some (.mk 4 s nmi nma nnu v q, kvv, ks)) (hij : i ≠ j) (h5 : ∀ b, i < b → b ≤ j → (mKid x q i b && Sp x ns (kv (round ⟨a, p, mi, ma, i⟩ b)) j) = false) : gS x ns ⟨a, p, mi, ma, i⟩ j m = m := by
  have e : ∀ b, Sp x ns (kv (round ⟨a, p, mi, ma, i⟩ b)) j = rep x.n (fun a b => mKid x q a b) (x.n + 1) (max (mi - 1) 0) (if 0 < ma then ma - 1 else ma) b j := fun b => by unfold round; rw [spec_at ha, if_neg (by decide), if_pos rfl]
  rw [gs_at ha, if_neg (by decide), if_pos rfl, gRep, if_neg hij, topK_none (fun b b1 b2 => by have := h5 b (by omega) (by omega); rw [e] at this; exact this)]
end

end Go.Proofs.Ytfcamlkbkehlnaa

/- Groups in memory: the promises, the inner function. -/
namespace Go.Proofs.Ytfcamlkbkehlnaa
open Go Go.RowKit

/-- The groups of a state up to a place are put into a match. -/
def GrOk (C : Cx) (s : Sta) (j : Nat) : Prop := ∀ (M : Value → Option Nat) (E : List (Value × Nat)) (bo : Nat) (m : Spn) (F : List Nat) (w : World), St w F [C.mt, C.nd, .kids C.ns, C.mo M E, .cells bo 36 (spC m)] w →
  Calls Try.prog 27 #[.pointer (some ⟨C.b, 0, none⟩), kv s, .int .i64 (j : Int), .pointer (some ⟨bo, 0, none⟩)] w fun e w' => ∃ y : {y : (Value → Option Nat) × List (Value × Nat) // ∀ p, p ∈ E → p ∈ y.2}, e = .returned (.tuple #[]) ∧ St w F [C.mt, C.nd, .kids C.ns, C.mo y.1.1 y.1.2, .cells bo 36 (spC (gS C.x C.ns s j m))] w'
def InOk (C : Cx) (cs : List Value) (q : List MT) (i j : Nat) : Prop := ∀ (M : Value → Option Nat) (E : List (Value × Nat)) (bo bn bm bq : Nat) (m : Spn) (F : List Nat) (w : World), St w F [.cells bn 94 cs, .cells bm 58 [.pointer (some ⟨C.b, 0, none⟩)], .cells bq 69 [.pointer (some ⟨bo, 0, none⟩)], C.mt, C.nd, .kids C.ns, C.mo M E, .cells bo 36 (spC m)] w →
  Calls Try.prog 46 #[.int .i64 (i : Int), .int .i64 (j : Int), .pointer (some ⟨bn, 0, none⟩), .pointer (some ⟨bm, 0, none⟩), .pointer (some ⟨bq, 0, none⟩)] w fun e w' => ∃ y : {y : (Value → Option Nat) × List (Value × Nat) // ∀ p, p ∈ E → p ∈ y.2}, e = .returned (.tuple #[]) ∧ St w F [.cells bn 94 cs, .cells bm 58 [.pointer (some ⟨C.b, 0, none⟩)], .cells bq 69 [.pointer (some ⟨bo, 0, none⟩)], C.mt, C.nd, .kids C.ns, C.mo y.1.1 y.1.2, .cells bo 36 (spC (gKid C.x q i j m))] w'
section
variable {N : Nat} {R : Regs} {S : World → Prop} {Q : Exit → Act → World → Prop} {X : Act → World → Prop} {ops : Array Oper} {rest : List Oper} {W0 : World} {F : List Nat} {L Lr : List Ent}
variable {ty t t' : TypeId} {pos : String} {af : Array Edge} {gd : Option (Nat × Bool)} {C : Cx} {M : Value → Option Nat} {E : List (Value × Nat)} {d bo bn bm bq : Nat} {x y : Operand} {xs : List Operand} {ats : Array TypeId} {m : Spn}
theorem g_grp {s : Sta} {j : Nat} (hgr : GrOk C s j) (hw : want ops R ⟨some d, .call { callee := .value (.func 27), args := xs.toArray, argTypes := ats }, ty, pos, af, gd⟩ = some true) (hN : Nat.blt d N = true) (hx : xs.mapM (ev R) = some [.pointer (some ⟨C.b, 0, none⟩), kv s, .int .i64 (j : Int), .pointer (some ⟨bo, 0, none⟩)])
    (h : ∀ M' E', (∀ p, p ∈ E → p ∈ E') → G N ((d, .tuple #[]) :: R) (St W0 F (C.mt :: C.nd :: .kids C.ns :: C.mo M' E' :: .cells bo 36 (spC (gS C.x C.ns s j m)) :: Lr)) (wpList Try.prog ops Q rest)) :
    G N R (St W0 F (C.mt :: C.nd :: .kids C.ns :: C.mo M E :: .cells bo 36 (spC m) :: Lr)) (wpList Try.prog ops Q (⟨some d, .call { callee := .value (.func 27), args := xs.toArray, argTypes := ats }, ty, pos, af, gd⟩ :: rest)) :=
  g_callOwn (L0 := [C.mt, C.nd, .kids C.ns, C.mo M E, .cells bo 36 (spC m)]) (fun _ : {y : (Value → Option Nat) × List (Value × Nat) // ∀ p, p ∈ E → p ∈ y.2} => .tuple #[]) (fun y => [C.mt, C.nd, .kids C.ns, C.mo y.1.1 y.1.2, .cells bo 36 (spC (gS C.x C.ns s j m))]) hw hN hx Try.call27 (fun w hS => hgr M E bo m _ w hS.part) fun y => h y.1.1 y.1.2 y.2
theorem g_inner {cs : List Value} {q : List MT} {i j : Nat} (hin : InOk C cs q i j) (hw : want ops R ⟨some d, .call { callee := .value x, args := xs.toArray, argTypes := ats }, ty, pos, af, gd⟩ = some true) (hN : Nat.blt d N = true) (hx : xs.mapM (ev R) = some [.int .i64 (i : Int), .int .i64 (j : Int)])
    (hxf : ev R x = some (.func (.func 46) #[] #[.pointer (some ⟨bn, 0, none⟩), .pointer (some ⟨bm, 0, none⟩), .pointer (some ⟨bq, 0, none⟩)]))
    (h : ∀ M' E', (∀ p, p ∈ E → p ∈ E') → G N ((d, .tuple #[]) :: R) (St W0 F (.cells bn 94 cs :: .cells bm 58 [.pointer (some ⟨C.b, 0, none⟩)] :: .cells bq 69 [.pointer (some ⟨bo, 0, none⟩)] :: C.mt :: C.nd :: .kids C.ns :: C.mo M' E' :: .cells bo 36 (spC (gKid C.x q i j m)) :: Lr)) (wpList Try.prog ops Q rest)) :
    G N R (St W0 F (.cells bn 94 cs :: .cells bm 58 [.pointer (some ⟨C.b, 0, none⟩)] :: .cells bq 69 [.pointer (some ⟨bo, 0, none⟩)] :: C.mt :: C.nd :: .kids C.ns :: C.mo M E :: .cells bo 36 (spC m) :: Lr)) (wpList Try.prog ops Q (⟨some d, .call { callee := .value x, args := xs.toArray, argTypes := ats }, ty, pos, af, gd⟩ :: rest)) := by
  refine g_callV (α := {y : (Value → Option Nat) × List (Value × Nat) // ∀ p, p ∈ E → p ∈ y.2}) (fun _ => .tuple #[]) (fun y => St W0 F (.cells bn 94 cs :: .cells bm 58 [.pointer (some ⟨C.b, 0, none⟩)] :: .cells bq 69 [.pointer (some ⟨bo, 0, none⟩)] :: C.mt :: C.nd :: .kids C.ns :: C.mo y.1.1 y.1.2 :: .cells bo 36 (spC (gKid C.x q i j m)) :: Lr)) hw hN hx hxf Try.call46 (fun w hS => ?_) fun y => h y.1.1 y.1.2 y.2
  refine (hin M E bo bn bm bq m _ w (St.part (L0 := [.cells bn 94 cs, .cells bm 58 [.pointer (some ⟨C.b, 0, none⟩)], .cells bq 69 [.pointer (some ⟨bo, 0, none⟩)], C.mt, C.nd, .kids C.ns, C.mo M E, .cells bo 36 (spC m)]) hS)).mono fun e w' ⟨y, he, hb⟩ => ⟨y, he, ?_⟩
  exact St.join (L0 := [.cells bn 94 cs, .cells bm 58 [.pointer (some ⟨C.b, 0, none⟩)], .cells bq 69 [.pointer (some ⟨bo, 0, none⟩)], C.mt, C.nd, .kids C.ns, C.mo M E, .cells bo 36 (spC m)]) hS (fun k hk => by obtain ⟨u, hu, hk⟩ := List.mem_flatMap.1 hk; exact ⟨u, hu, hk⟩) hb
/-- The same value, in other words. -/
theorem g_eqv (d : Nat) {v : Value} (u : Value) (hd : R.lookup d = some v) (e : v = u) (h : G N ((d, u) :: R) S X) : G N R S X := fun a w hR hS => h a w (hR.sub (lookup_over R (e ▸ hd))) hS
theorem g_stSp {k : Nat} {a b : Int} (i : Nat) (hk : k < 10) (hw : want ops R ⟨none, .store t x y, ty, pos, af, gd⟩ = some true) (hx : ev R x = some (.pointer (some ⟨bo, k * 2, none⟩))) (hy : ev R y = some (.agg #[.int .i64 a, .int .i64 b])) (hz : ∀ w, (sizeOf t).run Try.prog w = .ok 2 w)
    (hi : L[i]? = some (.cells bo 36 (spC m))) (h : G N R (St W0 F (L.set i (.cells bo 36 (spC (setS m k (a, b)))))) (wpList Try.prog ops Q rest)) : G N R (St W0 F L) (wpList Try.prog ops Q (⟨none, .store t x y, ty, pos, af, gd⟩ :: rest)) :=
  g_stAt i hw hx hy hz rfl hi rfl (spC_put m a b k hk) h
end

set_option maxRecDepth 100000 in
theorem in_nil (C : Cx) (k : Int) (s : Nat → Int) (nmi nma nnu : Int) (v1 : Option Addr) (v2 v3 i j : Nat) (u1 : Option Addr) (u3 : Nat) (M : Value → Option Nat) (E : List (Value × Nat)) (bo bn bm bq : Nat) (m : Spn) (F : List Nat) (w : World) (hS0 : St w F [.cells bn 94 [.int .i64 k, .int .u64 (s 0), .int .u64 (s 1), .int .u64 (s 2), .int .u64 (s 3), .int .i64 nmi, .int .i64 nma, .int .i64 nnu, .slice v1 v2 v3, .slice u1 0 u3], .cells bm 58 [.pointer (some ⟨C.b, 0, none⟩)], .cells bq 69 [.pointer (some ⟨bo, 0, none⟩)], C.mt, C.nd, .kids C.ns, C.mo M E, .cells bo 36 (spC m)] w) :
    Calls Try.prog 46 #[.int .i64 (i : Int), .int .i64 (j : Int), .pointer (some ⟨bn, 0, none⟩), .pointer (some ⟨bm, 0, none⟩), .pointer (some ⟨bq, 0, none⟩)] w fun e w' => ∃ y : {y : (Value → Option Nat) × List (Value × Nat) // ∀ p, p ∈ E → p ∈ y.2}, e = .returned (.tuple #[]) ∧ St w F [.cells bn 94 [.int .i64 k, .int .u64 (s 0), .int .u64 (s 1), .int .u64 (s 2), .int .u64 (s 3), .int .i64 nmi, .int .i64 nma, .int .i64 nnu, .slice v1 v2 v3, .slice u1 0 u3], .cells bm 58 [.pointer (some ⟨C.b, 0, none⟩)], .cells bq 69 [.pointer (some ⟨bo, 0, none⟩)], C.mt, C.nd, .kids C.ns, C.mo y.1.1 y.1.2, .cells bo 36 (spC (gKid C.x [] i j m))] w' := by
 simp only [gKid_nil]
 refine fn_intro_own Try.func46 rfl Try.ntmps46 rfl rfl hS0 ?_
 refine s_ (o_ ?_)
 refine xg 2 [0] rfl (by omega) ?_
 refine g_val (v := .int .i64 0) rfl rfl rfl (y_llen rfl Try.underlying92) ?_
 refine xg 1 [2] rfl (by omega) ?_
 refine n_ (t_ (g_cond_f rfl (g_skip (g_end_normal ?_))))
 refine g_end0 Try.results46 ?_
 exact fun w hS => ⟨⟨(M, E), fun p hp => hp⟩, rfl, hS.pick [0,0,0,0,0,0,0,0] rfl⟩

set_option maxRecDepth 100000 in
theorem in_some (C : Cx) (k : Int) (s : Nat → Int) (nmi nma nnu : Int) (v1 : Option Addr) (v2 v3 i j : Nat) (gk ck a kk : Nat) (ks : List Nat) (t u : MT) (r : List MT) (ha : C.ns[a]? = some (t, .slice (some ⟨gk, 0, none⟩) ks.length ck, ks)) (hkk : ks[0]? = some kk) (hlen : 0 < ks.length ∧ ks.length ≤ maxLen) (hlu : laidT C.ns u kk) (hgr : GrOk C (beg C.x C.ns kk i) j) (M : Value → Option Nat) (E : List (Value × Nat)) (bo bn bm bq : Nat) (m : Spn) (F : List Nat) (w : World) (hS0 : St w F [.cells bn 94 [.int .i64 k, .int .u64 (s 0), .int .u64 (s 1), .int .u64 (s 2), .int .u64 (s 3), .int .i64 nmi, .int .i64 nma, .int .i64 nnu, .slice v1 v2 v3, .slice (some ⟨gk, 0, none⟩) ks.length ck], .cells bm 58 [.pointer (some ⟨C.b, 0, none⟩)], .cells bq 69 [.pointer (some ⟨bo, 0, none⟩)], C.mt, C.nd, .kids C.ns, C.mo M E, .cells bo 36 (spC m)] w) :
    Calls Try.prog 46 #[.int .i64 (i : Int), .int .i64 (j : Int), .pointer (some ⟨bn, 0, none⟩), .pointer (some ⟨bm, 0, none⟩), .pointer (some ⟨bq, 0, none⟩)] w fun e w' => ∃ y : {y : (Value → Option Nat) × List (Value × Nat) // ∀ p, p ∈ E → p ∈ y.2}, e = .returned (.tuple #[]) ∧ St w F [.cells bn 94 [.int .i64 k, .int .u64 (s 0), .int .u64 (s 1), .int .u64 (s 2), .int .u64 (s 3), .int .i64 nmi, .int .i64 nma, .int .i64 nnu, .slice v1 v2 v3, .slice (some ⟨gk, 0, none⟩) ks.length ck], .cells bm 58 [.pointer (some ⟨C.b, 0, none⟩)], .cells bq 69 [.pointer (some ⟨bo, 0, none⟩)], C.mt, C.nd, .kids C.ns, C.mo y.1.1 y.1.2, .cells bo 36 (spC (gKid C.x (u :: r) i j m))] w' := by
 have hx := C.hx
 have hW := C.hW
 simp only [gKid_cons, ← gS_beg hlu]
 obtain ⟨k2, s2, mi2, ma2, nu2, v12, u12, v22, v32, u22, u32, q2, ks2, rfl, hb, _, _⟩ := Cx.node hlu
 refine fn_intro_own Try.func46 rfl Try.ntmps46 rfl rfl hS0 ?_
 refine s_ (o_ ?_)
 refine xg 2 [0] rfl (by omega) ?_
 refine g_val (v := .int .i64 ((ks.length : Nat) : Int)) rfl rfl rfl (y_llen rfl Try.underlying92) ?_
 refine xg 1 [1] rfl (by omega) ?_
 refine n_ (t_ (g_cond_t rfl ?_))
 refine k_go [0,0,0,0,0,0] rfl (by kernel_rfl) (fun _ _ _ _ _ h => h) fun hQ => ?_
 refine k_xc 0 [0,0,0,0,0,0] [1] hQ (by kernel_rfl) rfl rfl rfl rfl rfl rfl (by omega) ?_
 refine k_xc 1 [0,0,0,0,0,0] [1] hQ (by kernel_rfl) rfl rfl rfl rfl rfl rfl (by omega) ?_
 refine k_x 2 [0,0,0,0,0,0] [] hQ (by kernel_rfl) rfl rfl rfl rfl rfl rfl ?_
 refine k_xc 3 [0,0,0,0,0,0] [0] hQ (by kernel_rfl) rfl rfl rfl rfl rfl rfl (by omega) ?_
 refine k_take 4 rfl (by kernel_rfl) hQ rfl rfl rfl (fun _ h => h.pick [0,0,0,0,0,0] rfl) (y_idxAddr (m := 0) rfl rfl Try.underlying92 Try.sizeOf3 (by decide) (by omega) rfl) ?_
 refine k_take (v := .int .i64 (kk : Int)) 5 rfl (by kernel_rfl) hQ rfl rfl rfl (fun _ h => h.pick [0,0,0,0,0,0] rfl) (y_ldK (p := 0) 5 rfl ha hkk rfl Try.isAgg3) ?_
 refine k_x 6 [0,0,0,0,0,0] [] hQ (by kernel_rfl) rfl rfl rfl rfl rfl rfl ?_
 refine k_call 7 (m_begin C.b C.mp kk i _ C.x C.ns k2 s2 mi2 ma2 nu2 v12 u12 v22 v32 u22 u32 q2 ks2 hb C.hx) (fun w hS => Cx.mi hS (i := 3) (j := 4) rfl rfl) rfl (by kernel_rfl) hQ rfl rfl rfl (fun _ h => h.pick [0,0,0,0,0,0] rfl) ?_
 refine k_x 8 [0,0,0,0,0,0] [] hQ (by kernel_rfl) rfl rfl rfl rfl rfl rfl ?_
 refine k_xc 9 [0,0,0,0,0,0] [2] hQ (by kernel_rfl) rfl rfl rfl rfl rfl rfl (by omega) ?_
 refine k_one 10 (by kernel_rfl) ?_
 refine k_op 10 rfl ?_
 refine g_ahead [3,3,3,3,3] rfl ?_
 simp only [List.cons_append, List.nil_append]
 refine g_grp (hgr) rfl rfl rfl (fun M1 E1 hs1 => ?_)
 refine n_ ?_
 refine k_end (fun _ h => h.pick [5,5,5,0,0,0] rfl) ?_
 refine k_done (by kernel_rfl) ?_
 refine g_end_normal ?_
 refine g_end0 Try.results46 ?_
 exact fun w hS => ⟨⟨(M1, E1), hs1⟩, rfl, hS.pick [5,5,5,0,0,0,0,0] rfl⟩

set_option maxRecDepth 100000 in
theorem in_ok {C : Cx} {k : Int} {s : Nat → Int} {nmi nma nnu : Int} {v1 : Option Addr} {v2 v3 i j a : Nat} {q : List MT} {ks : List Nat} {u1 : Option Addr} {u2 u3 : Nat} {t : MT} (ha : C.ns[a]? = some (t, .slice u1 u2 u3, ks)) (hl : laidH C.ns q ks) (hgr : ∀ u r c, q = u :: r → laidT C.ns u c → GrOk C (beg C.x C.ns c i) j) :
    InOk C [.int .i64 k, .int .u64 (s 0), .int .u64 (s 1), .int .u64 (s 2), .int .u64 (s 3), .int .i64 nmi, .int .i64 nma, .int .i64 nnu, .slice v1 v2 v3, .slice u1 u2 u3] q i j := fun M E bo bn bm bq m F w hS0 => by
  obtain ⟨hle, ⟨h1, h2⟩ | ⟨g, c, h2⟩⟩ := kid_sl (hS0.get (i := 5) rfl) ha
  · cases h2
    subst h1
    cases q with
    | nil => exact in_nil C k s nmi nma nnu v1 v2 v3 i j none 0 M E bo bn bm bq m F w hS0
    | cons u r => obtain ⟨b, h, _⟩ := laidH_cons.1 hl; cases h
  · cases h2
    cases q with
    | nil =>
      obtain rfl := laidH_nil.1 hl
      exact in_nil C k s nmi nma nnu v1 v2 v3 i j (some ⟨g, 0, none⟩) _ M E bo bn bm bq m F w hS0
    | cons u r =>
      obtain ⟨b, rfl, h3⟩ := laidH_cons.1 hl
      exact in_some C k s nmi nma nnu v1 v2 v3 i j g _ a b [b] t u r ha rfl ⟨by simp, hle⟩ h3 (hgr u r b rfl h3) M E bo bn bm bq m F w hS0

end Go.Proofs.Ytfcamlkbkehlnaa

/- groups: a state. -/
namespace Go.Proofs.Ytfcamlkbkehlnaa
open Go Go.RowKit

theorem down_step {p : Nat → Bool} {k0 j : Nat} (hp : ∀ b, k0 + 1 ≤ b → b ≤ j → p b = false) (h0 : p k0 = false) : ∀ b, k0 ≤ b → b ≤ j → p b = false := fun b h1 h2 => by
  by_cases e : b = k0
  · rw [e]; exact h0
  · exact hp b (by omega) h2

set_option maxHeartbeats 8000000 in
set_option maxRecDepth 100000 in
theorem gr_any (C : Cx) (k : Int) (s : Nat → Int) (nmi nma nnu : Int) (v1 u1 : Option Addr) (v2 v3 u3 : Nat) (a p i j : Nat) (mi ma : Int) (q : List MT) (ks : List Nat) (ha : C.ns[a]? = some (.mk k s nmi nma nnu (.slice v1 v2 v3) q, .slice u1 ks.length u3, ks)) (hgk : 0 < ks.length → ∃ gk, u1 = some ⟨gk, 0, none⟩) (hi : i ≤ C.x.n) (hj : j ≤ C.x.n) (hr : okS ⟨a, p, mi, ma, i⟩) (hrow : k = 2 → p ≤ ks.length) (hlq : k ≠ 5 → k ≠ 4 → laidL C.ns q ks) (hkid : k = 5 ∨ k = 4 → KidOk C [.int .i64 k, .int .u64 (s 0), .int .u64 (s 1), .int .u64 (s 2), .int .u64 (s 3), .int .i64 nmi, .int .i64 nma, .int .i64 nnu, .slice v1 v2 v3, .slice u1 ks.length u3] q i) (hbeg : ∀ t kk, t ∈ q → laidT C.ns t kk → AllOk C (beg C.x C.ns kk i)) (hnext : k = 2 → p < ks.length → ∀ j, i ≤ j → j ≤ C.x.n → AllOk C ⟨a, p + 1, 0, 0, j⟩) (hrnd : k = 4 → ∀ j, i < j → j ≤ C.x.n → AllOk C (round ⟨a, p, mi, ma, i⟩ j)) (ginn : k = 5 ∨ k = 4 → ∀ i' j', i' ≤ C.x.n → j' ≤ C.x.n → InOk C [.int .i64 k, .int .u64 (s 0), .int .u64 (s 1), .int .u64 (s 2), .int .u64 (s 3), .int .i64 nmi, .int .i64 nma, .int .i64 nnu, .slice v1 v2 v3, .slice u1 ks.length u3] q i' j') (gbeg : ∀ t kk, t ∈ q → laidT C.ns t kk → ∀ j', j' ≤ C.x.n → GrOk C (beg C.x C.ns kk i) j') (gnext : k = 2 → p < ks.length → ∀ b, i ≤ b → b ≤ C.x.n → GrOk C ⟨a, p + 1, 0, 0, b⟩ j) (grnd : k = 4 → ∀ b, i < b → b ≤ C.x.n → GrOk C (round ⟨a, p, mi, ma, i⟩ b) j) (M : Value → Option Nat) (E : List (Value × Nat)) (bo : Nat) (m : Spn) (F : List Nat) (w : World) (hS0 : St w F [C.mt, C.nd, .kids C.ns, C.mo M E, .cells bo 36 (spC m)] w) :
    Calls Try.prog 27 #[.pointer (some ⟨C.b, 0, none⟩), .agg ([.int .i64 (a : Int), .int .i64 (p : Int), .int .i64 mi, .int .i64 ma, .int .i64 (i : Int)]).toArray, .int .i64 (j : Int), .pointer (some ⟨bo, 0, none⟩)] w fun e w' => ∃ y : {y : (Value → Option Nat) × List (Value × Nat) // ∀ p, p ∈ E → p ∈ y.2}, e = .returned (.tuple #[]) ∧ St w F [C.mt, C.nd, .kids C.ns, C.mo y.1.1 y.1.2, .cells bo 36 (spC (gS C.x C.ns ⟨a, p, mi, ma, i⟩ j m))] w' := by
 have hx := C.hx
 have hW := C.hW
 obtain ⟨r1, r2, r3, r4, r5, r6, r7⟩ := id hr
 dsimp only at r1 r2 r3 r4 r5 r6 r7
 have hal := (List.getElem?_eq_some_iff.1 ha).1
 have hle : ks.length ≤ maxLen := (kid_sl (hS0.get (i := 2) rfl) ha).1
 have hmx : maxLen = 9223372036854775807 := rfl
 have hnl := C.hl
 refine fn_intro_own Try.func27 rfl Try.ntmps27 rfl rfl hS0 ?_
 refine s_ (o_ ?_)
 refine g_box rfl rfl rfl rfl (fun b1 => ?_)
 refine g_box rfl rfl rfl rfl (fun b2 => ?_)
 refine g_box rfl rfl rfl rfl (fun b3 => ?_)
 refine n_ (t_ (s_ ?_))
 refine k_go [2,1,0,0,0,0,0,0] rfl (by kernel_rfl) (fun _ _ _ _ _ h => h) fun hQ => ?_
 refine k_xc 0 [2,1,0,0,0,0,0,0] [0] hQ (by kernel_rfl) rfl rfl rfl rfl rfl rfl (by omega) ?_
 refine k_x 1 [2,1,0,0,0,0,0,0] [] hQ (by kernel_rfl) rfl rfl rfl rfl rfl rfl ?_
 refine k_x 2 [2,1,0,0,0,0,0,0] [] hQ (by kernel_rfl) rfl rfl rfl rfl rfl rfl ?_
 refine k_xc 3 [2,1,0,0,0,0,0,0] [3] hQ (by kernel_rfl) rfl rfl rfl rfl rfl rfl (by omega) ?_
 refine k_x 4 [2,1,0,0,0,0,0,0] [] hQ (by kernel_rfl) rfl rfl rfl rfl rfl rfl ?_
 refine k_xc 5 [2,1,0,0,0,0,0,0] [1] hQ (by kernel_rfl) rfl rfl rfl rfl rfl rfl (by omega) ?_
 refine k_take 6 rfl (by kernel_rfl) hQ rfl rfl rfl (fun _ h => h.pick [2,1,0,0,0,0,0,0] rfl) (y_idxAddr (m := a * 10) rfl rfl Try.underlying89 Try.sizeOf94 (by omega) (by omega) (by omega)) ?_
 refine k_take (v := .agg ([.int .i64 k, .int .u64 (s 0), .int .u64 (s 1), .int .u64 (s 2), .int .u64 (s 3), .int .i64 nmi, .int .i64 nma, .int .i64 nnu, .slice v1 v2 v3, .slice u1 ks.length u3]).toArray) 7 rfl (by kernel_rfl) hQ rfl rfl rfl (fun _ h => h.pick [2,1,0,0,0,0,0,0] rfl) (y_val (y_ldRN (k := 10) (off := a * 10) (vs := fC (.mk k s nmi nma nnu (.slice v1 v2 v3) q, .slice u1 ks.length u3, ks)) 4 rfl Try.isAgg94 Try.sizeOf94 rfl (fm_elem fC 10 fC_len C.ns a _ ha) (fC_len _)) rfl) ?_
 refine k_one 8 (by kernel_rfl) ?_
 refine k_op 8 rfl ?_
 refine g_alloc rfl rfl Try.zeroValue94 rfl (fun b4 => ?_)
 refine n_ ?_
 refine k_end (fun _ h => h.pick [3,2,1,1,1,1,1,1] rfl) ?_
 refine k_one 9 (by kernel_rfl) ?_
 refine k_op 9 rfl ?_
 refine xg 1 [0] rfl (by omega) ?_
 refine n_ ?_
 refine k_end (fun _ h => h.pick [3,2,1,1,1,1,1,1] rfl) ?_
 refine k_done (by kernel_rfl) ?_
 refine t_ (s_ (o_ ?_))
 refine g_val rfl rfl rfl (y_makeFunc rfl) ?_
 refine xg 1 [] rfl rfl ?_
 refine ntso_ ?_
 refine xg 3 [0] rfl (by omega) ?_
 refine n_ (t_ (g_block (s_ (o_ ?_))))
 refine xg 2 [0] rfl rfl ?_
 refine n_ (t_ ?_)
 refine g_casep 30 rfl (fun h1 => ?_) fun h1 => ?_
 ·refine g_cond_t rfl (s_ (s_ ?_))
  obtain rfl : k = 2 := by assumption
  replace hlq := hlq (by decide) (by decide)
  have hpk := hrow rfl
  refine o_ ?_
  refine xg 4 [2,0] rfl (by omega) ?_
  refine g_val (v := .int .i64 ((ks.length : Nat) : Int)) rfl rfl rfl (y_llen rfl Try.underlying92) ?_
  refine xg 1 [0] rfl rfl ?_
  refine n_ (t_ ?_)
  refine g_casep 37 rfl (fun h2 => ?_) fun h2 => ?_
  ·refine g_cond_t rfl (g_ret (g_then_ret (g_in_ret ?_)))
   refine g_end0 Try.results27 ?_
   rw [gs_row0 ha (by have := laidL_len hlq; omega)]
   exact fun w hS => ⟨⟨(M, E), fun p0 hp0 => hp0⟩, rfl, hS.pick [4,4,4,4,4] rfl⟩
  refine g_cond_f rfl (g_skip (t_ (s_ ?_)))
  obtain ⟨gk, rfl⟩ := hgk (by omega)
  obtain ⟨t2, kk, hqp, hkk, hl2⟩ := laidL_get hlq (p := p) (by omega)
  have hlb := hl2
  obtain ⟨k2, s2, mi2, ma2, nu2, v12, u12, v22, v32, u22, u32, q2, ks2, rfl, hb, _, _⟩ := Cx.node hl2
  refine k_go [3,2,1,0,0,0,0,0,0] rfl (by kernel_rfl) (fun _ _ _ _ _ h => h) fun hQ => ?_
  refine k_xc 0 [3,2,1,0,0,0,0,0,0] [0] hQ (by kernel_rfl) rfl rfl rfl rfl rfl rfl (by omega) ?_
  refine k_x 1 [3,2,1,0,0,0,0,0,0] [] hQ (by kernel_rfl) rfl rfl rfl rfl rfl rfl ?_
  refine k_xc 2 [3,2,1,0,0,0,0,0,0] [3] hQ (by kernel_rfl) rfl rfl rfl rfl rfl rfl (by omega) ?_
  refine k_x 3 [3,2,1,0,0,0,0,0,0] [] hQ (by kernel_rfl) rfl rfl rfl rfl rfl rfl ?_
  refine k_xc 4 [3,2,1,0,0,0,0,0,0] [1] hQ (by kernel_rfl) rfl rfl rfl rfl rfl rfl (by omega) ?_
  refine k_take 5 rfl (by kernel_rfl) hQ rfl rfl rfl (fun _ h => h.pick [3,2,1,0,0,0,0,0,0] rfl) (y_idxAddr (m := p) rfl rfl Try.underlying92 Try.sizeOf3 (by omega) (by omega) (by omega)) ?_
  refine k_take (v := .int .i64 (kk : Int)) 6 rfl (by kernel_rfl) hQ rfl rfl rfl (fun _ h => h.pick [3,2,1,0,0,0,0,0,0] rfl) (y_ldK (p := p) 6 rfl ha hkk rfl Try.isAgg3) ?_
  refine k_x 7 [3,2,1,0,0,0,0,0,0] [] hQ (by kernel_rfl) rfl rfl rfl rfl rfl rfl ?_
  refine k_xc 8 [3,2,1,0,0,0,0,0,0] [1] hQ (by kernel_rfl) rfl rfl rfl rfl rfl rfl (by omega) ?_
  refine k_call 9 (m_begin C.b C.mp kk i _ C.x C.ns k2 s2 mi2 ma2 nu2 v12 u12 v22 v32 u22 u32 q2 ks2 hb C.hx) (fun w hS => Cx.mi hS (i := 4) (j := 5) rfl rfl) rfl (by kernel_rfl) hQ rfl rfl rfl (fun _ h => h.pick [3,2,1,0,0,0,0,0,0] rfl) ?_
  refine k_one 10 (by kernel_rfl) ?_
  refine k_op 10 rfl ?_
  refine g_alloc rfl rfl Try.zeroValue62 rfl (fun b5 => ?_)
  refine n_ ?_
  refine k_end (fun _ h => h.pick [4,3,2,1,1,1,1,1,1] rfl) ?_
  refine k_one 11 (by kernel_rfl) ?_
  refine k_op 11 rfl ?_
  refine xg 1 [0] rfl (by omega) ?_
  refine n_ ?_
  refine k_end (fun _ h => h.pick [4,3,2,1,1,1,1,1,1] rfl) ?_
  refine k_done (by kernel_rfl) ?_
  refine t_ (s_ (o_ ?_))
  refine xg 2 [] rfl rfl ?_
  refine n_ (t_ (g_block ?_))
  refine g_loop (α := {x : Nat × (Value → Option Nat) × List (Value × Nat) // x.1 ≤ j + 1 ∧ (∀ p, p ∈ E → p ∈ x.2.2) ∧ (∀ b, x.1 ≤ b → b ≤ j → (Sp C.x C.ns (kv (beg C.x C.ns kk i)) b && Sp C.x C.ns (kv ⟨a, p + 1, 0, 0, b⟩) j) = false)}) (fun x => [(2, .int .i64 (j : Int)), (4, .pointer (some ⟨b1, 0, none⟩)), (5, .pointer (some ⟨b2, 0, none⟩)), (7, .pointer (some ⟨b3, 0, none⟩)), (10, .pointer (some ⟨b5, 0, none⟩)), (11, .int .i64 ((x.1.1 : Int) - 1))]) (fun x => St w F [.cells b1 58 [.pointer (some ⟨C.b, 0, none⟩)], .cells b2 62 [.int .i64 (a : Int), .int .i64 (p : Int), .int .i64 mi, .int .i64 ma, .int .i64 (i : Int)], .cells b3 69 [.pointer (some ⟨bo, 0, none⟩)], .cells b5 62 (kvC (beg C.x C.ns kk i)), C.mt, C.nd, .kids C.ns, C.mo x.1.2.1 x.1.2.2, .cells bo 36 (spC m)]) (fun x => x.1.1) ⟨(j + 1, M, E), Nat.le_refl _, fun _ h => h, fun b h1 h2 => by omega⟩ [2, 4, 5, 7, 10, 11] (by rw [show (((j + 1 : Nat) : Int) - 1) = (j : Int) by omega]; rfl) (fun w h => h.pick [4,3,2,0,1,1,1,1,1] rfl) ?_
  rintro ⟨⟨c, M3, E3⟩, hc, hs3, hno⟩
  dsimp only
  dsimp only at hc hs3 hno
  refine s_ (s_ (o_ ?_))
  refine xg 4 [1,0] rfl (by omega) ?_
  refine n_ (t_ ?_)
  refine g_casep 52 rfl (fun h3 => ?_) fun h3 => ?_
  ·refine g_cond_t rfl (g_skip (t_ (s_ (g_block (s_ ?_)))))
   obtain ⟨k0, rfl⟩ : ∃ k0, c = k0 + 1 := ⟨c - 1, by omega⟩
   refine g_eqv 11 (.int .i64 (k0 : Int)) rfl (by rw [show (((k0 + 1 : Nat) : Int) - 1) = (k0 : Int) by omega]) ?_
   refine o_ ?_
   refine xg 7 [1,1] rfl (by omega) ?_
   refine g_alloc rfl rfl Try.zeroValue62 rfl (fun b6 => ?_)
   refine xg 1 [0] rfl (by omega) ?_
   refine ntso_ ?_
   refine xg 2 [1,4] rfl (by omega) ?_
   refine g_ahead [5,5,5,5] rfl ?_
   simp only [List.cons_append, List.nil_append]
   refine g_all (hbeg _ kk (List.mem_of_getElem? hqp) hlb) rfl rfl rfl (fun M1 E1 g1 hs1 hm1 => ?_)
   refine xg 1 [] rfl rfl ?_
   refine g_call1 (v := .bool (Sp C.x C.ns (kv (beg C.x C.ns kk i)) k0)) rfl rfl rfl Try.call33 (fun w hS => has_any (Sp C.x C.ns (kv (beg C.x C.ns kk i))) g1 C.W k0 (by unfold Cx.W; omega) C.hW w (memo_rd (hS.get (i := 3) rfl) (hm1))) ?_
   refine xg 1 [] rfl rfl ?_
   first | refine g_casep 67 rfl (fun h4 => ?_) fun h4 => ?_ | refine g_caseb 67 rfl (fun h4 => ?_) fun h4 => ?_
   ·refine xg 2 [5,4] rfl (by omega) ?_
    refine g_all (hnext rfl (by omega) k0 (by omega) (by omega)) rfl rfl rfl (fun M2 E2 g2 hs2 hm2 => ?_)
    refine xg 1 [] rfl rfl ?_
    refine g_call1 (v := .bool (Sp C.x C.ns (kv ⟨a, p + 1, 0, 0, k0⟩) j)) rfl rfl rfl Try.call33 (fun w hS => has_any (Sp C.x C.ns (kv ⟨a, p + 1, 0, 0, k0⟩)) g2 C.W j (by unfold Cx.W; omega) C.hW w (memo_rd (hS.get (i := 3) rfl) (hm2))) ?_
    refine xg 1 [] rfl rfl ?_
    refine n_ (t_ ?_)
    first | refine g_casep 73 rfl (fun h5 => ?_) fun h5 => ?_ | refine g_caseb 73 rfl (fun h5 => ?_) fun h5 => ?_
    ·refine g_cond_t rfl (s_ (o_ ?_))
     refine xg 4 [5,8,7] rfl (by omega) ?_
     refine g_ahead [0,0,0,0,5] rfl ?_
     simp only [List.cons_append, List.nil_append]
     refine g_grp (gbeg _ kk (List.mem_of_getElem? hqp) hlb k0 (by omega)) rfl rfl rfl (fun M5 E5 hs5 => ?_)
     refine ntso_ ?_
     refine xg 4 [6,5,8] rfl (by omega) ?_
     refine g_grp (gnext rfl (by omega) k0 (by omega) (by omega)) rfl rfl rfl (fun M6 E6 hs6 => ?_)
     refine n_ (t_ (g_ret (g_in_ret (g_then_ret (g_then_ret (g_in_ret (g_in_ret ?_)))))))
     refine g_end0 Try.results27 ?_
     rw [gs_rowS (k0 := k0) ha hqp hlb (by omega) (by omega) (by assumption) (by assumption) (fun b h1 h2 => hno b (by omega) h2)]
     exact fun w hS => ⟨⟨(M6, E6), fun p0 hp0 => hs6 _ (hs5 _ (hs2 _ (hs1 _ (hs3 _ (hp0)))))⟩, rfl, hS.pick [0,0,0,0,0] rfl⟩
    refine g_cond_f rfl (g_skip (g_in_normal (t_ (o_ ?_))))
    refine xg 3 [] rfl (by omega) ?_
    refine n_ ?_
    exact g_again ⟨(k0, M2, E2), by dsimp only; omega, fun p0 hp0 => hs2 _ (hs1 _ (hs3 _ (hp0))), down_step hno (by first | (simp only [show Sp C.x C.ns (kv (beg C.x C.ns kk i)) k0 = false by assumption, Bool.false_and]) | (simp only [show Sp C.x C.ns (kv ⟨a, p + 1, 0, 0, k0⟩) j = false by assumption, Bool.and_false]))⟩ [2, 4, 5, 7, 10, 11] (by dsimp only; omega) rfl (fun w h => h.pick [5,5,5,5,0,0,0,0,1] rfl)
   refine xg 6 [] rfl rfl ?_
   refine n_ (t_ (g_cond_f rfl (g_skip (g_in_normal (t_ (o_ ?_))))))
   refine xg 3 [] rfl (by omega) ?_
   refine n_ ?_
   exact g_again ⟨(k0, M1, E1), by dsimp only; omega, fun p0 hp0 => hs1 _ (hs3 _ (hp0)), down_step hno (by first | (simp only [show Sp C.x C.ns (kv (beg C.x C.ns kk i)) k0 = false by assumption, Bool.false_and]) | (simp only [show Sp C.x C.ns (kv ⟨a, p + 1, 0, 0, k0⟩) j = false by assumption, Bool.and_false]))⟩ [2, 4, 5, 7, 10, 11] (by dsimp only; omega) rfl (fun w h => h.pick [5,5,5,5,0,0,0,0,1] rfl)
  refine g_cond_f rfl (g_exit (g_then_exit (g_then_exit (g_in_exit (g_in_normal (g_end_normal ?_))))))
  refine g_end0 Try.results27 ?_
  rw [gs_rowN ha hqp hlb (fun b h1 h2 => hno b (by omega) h2)]
  exact fun w hS => ⟨⟨(M3, E3), fun p0 hp0 => hs3 _ (hp0)⟩, rfl, hS.pick [4,4,4,4,4] rfl⟩
 refine g_cond_f rfl (s_ (o_ ?_))
 refine xg 2 [0] rfl rfl ?_
 refine n_ (t_ ?_)
 refine g_casep 84 rfl (fun h6 => ?_) fun h6 => ?_
 ·refine g_cond_t rfl (s_ ?_)
  obtain rfl : k = 3 := by assumption
  replace hlq := hlq (by decide) (by decide)
  refine o_ ?_
  refine xg 2 [0] rfl (by omega) ?_
  refine g_val (v := .int .i64 ((ks.length : Nat) : Int)) rfl rfl rfl (y_llen rfl Try.underlying92) ?_
  refine xg 1 [] rfl rfl ?_
  refine n_ (t_ (g_block ?_))
  refine g_loop (α := {x : Nat × (Value → Option Nat) × List (Value × Nat) // x.1 ≤ ks.length ∧ (∀ p, p ∈ E → p ∈ x.2.2) ∧ (∀ u, u ∈ q.take x.1 → mM C.x u i j = false)}) (fun x => [(2, .int .i64 (j : Int)), (4, .pointer (some ⟨b1, 0, none⟩)), (5, .pointer (some ⟨b2, 0, none⟩)), (7, .pointer (some ⟨b3, 0, none⟩)), (87, .slice u1 ks.length u3), (88, .int .i64 ((ks.length : Nat) : Int)), (89, .int .i64 (x.1.1 : Int))]) (fun x => St w F [.cells b1 58 [.pointer (some ⟨C.b, 0, none⟩)], .cells b2 62 [.int .i64 (a : Int), .int .i64 (p : Int), .int .i64 mi, .int .i64 ma, .int .i64 (i : Int)], .cells b3 69 [.pointer (some ⟨bo, 0, none⟩)], C.mt, C.nd, .kids C.ns, C.mo x.1.2.1 x.1.2.2, .cells bo 36 (spC m)]) (fun x => ks.length - x.1.1) ⟨(0, M, E), Nat.zero_le _, fun _ h => h, fun u hu => by cases hu⟩ [2, 4, 5, 7, 87, 88, 89] rfl (fun w h => h.pick [3,2,1,1,1,1,1,1] rfl) ?_
  rintro ⟨⟨n, M3, E3⟩, hc, hs3, hno⟩
  dsimp only
  dsimp only at hc hs3 hno
  refine s_ (o_ ?_)
  refine xg 1 [0] rfl rfl ?_
  refine n_ (t_ (s_ ?_))
  refine g_casep 90 rfl (fun h7 => ?_) fun h7 => ?_
  ·refine g_cond_t rfl (g_skip (t_ (s_ (g_block (s_ ?_)))))
   obtain ⟨gk, rfl⟩ := hgk (by omega)
   obtain ⟨t2, kk, hqn, hkk, hl2⟩ := laidL_get hlq (p := n) (by omega)
   have hlb := hl2
   obtain ⟨k2, s2, mi2, ma2, nu2, v12, u12, v22, v32, u22, u32, q2, ks2, rfl, hb, _, _⟩ := Cx.node hl2
   refine o_ ?_
   refine g_val rfl rfl rfl (y_idxAddr (m := n) rfl rfl Try.underlying92 Try.sizeOf3 (by omega) (by omega) (by omega)) ?_
   refine g_val (v := .int .i64 (kk : Int)) rfl rfl rfl (y_ldK (p := n) 5 rfl ha hkk rfl Try.isAgg3) ?_
   refine xg 1 [] rfl rfl ?_
   refine ntso_ ?_
   refine xg 4 [0,1] rfl (by omega) ?_
   refine g_c1 (m_begin C.b C.mp kk i _ C.x C.ns k2 s2 mi2 ma2 nu2 v12 u12 v22 v32 u22 u32 q2 ks2 hb C.hx) (fun w hS => Cx.mi hS (i := 3) (j := 4) rfl rfl) rfl rfl rfl ?_
   refine g_alloc rfl rfl Try.zeroValue62 rfl (fun b7 => ?_)
   refine xg 1 [0] rfl (by omega) ?_
   refine ntso_ ?_
   refine xg 2 [1,0] rfl (by omega) ?_
   refine g_ahead [4,4,4,4] rfl ?_
   simp only [List.cons_append, List.nil_append]
   refine g_all (hbeg _ kk (List.mem_of_getElem? hqn) hlb) rfl rfl rfl (fun M1 E1 g1 hs1 hm1 => ?_)
   refine xg 1 [] rfl rfl ?_
   refine g_call1 (v := .bool (Sp C.x C.ns (kv (beg C.x C.ns kk i)) j)) rfl rfl rfl Try.call33 (fun w hS => has_any (Sp C.x C.ns (kv (beg C.x C.ns kk i))) g1 C.W j (by unfold Cx.W; omega) C.hW w (memo_rd (hS.get (i := 3) rfl) (hm1))) ?_
   refine n_ (t_ ?_)
   first | refine g_casep 102 rfl (fun h8 => ?_) fun h8 => ?_ | refine g_caseb 102 rfl (fun h8 => ?_) fun h8 => ?_
   ·refine g_cond_t rfl (s_ (o_ ?_))
    refine xg 4 [5,4,7] rfl (by omega) ?_
    refine g_ahead [0,0,0,0,4] rfl ?_
    simp only [List.cons_append, List.nil_append]
    refine g_grp (gbeg _ kk (List.mem_of_getElem? hqn) hlb j hj) rfl rfl rfl (fun M5 E5 hs5 => ?_)
    refine n_ (t_ (g_ret (g_in_ret (g_then_ret (g_then_ret (g_in_ret (g_in_ret ?_)))))))
    refine g_end0 Try.results27 ?_
    rw [gs_eiS ha hqn hlb (by assumption) hno]
    exact fun w hS => ⟨⟨(M5, E5), fun p0 hp0 => hs5 _ (hs1 _ (hs3 _ (hp0)))⟩, rfl, hS.pick [0,0,0,0,0] rfl⟩
   refine g_cond_f rfl (g_skip (g_in_normal (t_ (o_ ?_))))
   refine xg 2 [] rfl (by omega) ?_
   refine n_ ?_
   exact g_again ⟨(n + 1, M1, E1), by dsimp only; omega, fun p0 hp0 => hs1 _ (hs3 _ (hp0)), ei_more hqn hno ((by rw [← spec_beg hlb, ← Sp_kv]; assumption))⟩ [2, 4, 5, 7, 87, 88, 89] (by dsimp only; omega) rfl (fun w h => h.pick [5,5,5,0,0,0,0,1] rfl)
  refine g_cond_f rfl (g_exit (g_then_exit (g_then_exit (g_in_exit (g_in_normal (g_end_normal ?_))))))
  refine g_end0 Try.results27 ?_
  rw [gs_eiN ha (n := n) (by have := laidL_len hlq; omega) hno]
  exact fun w hS => ⟨⟨(M3, E3), fun p0 hp0 => hs3 _ (hp0)⟩, rfl, hS.pick [3,3,3,3,3] rfl⟩
 refine g_cond_f rfl (s_ (o_ ?_))
 refine xg 2 [0] rfl rfl ?_
 refine n_ (t_ ?_)
 refine g_casep 109 rfl (fun h9 => ?_) fun h9 => ?_
 ·refine g_cond_t rfl (s_ (s_ ?_))
  obtain rfl : k = 5 := by assumption
  refine o_ ?_
  refine xg 5 [0,0] rfl (by omega) ?_
  refine g_casep 115 rfl (fun h10 => ?_) fun h10 => ?_
  ·refine xg 5 [0,0] rfl (by omega) ?_
   refine n_ (t_ ?_)
   refine g_casep 120 rfl (fun h11 => ?_) fun h11 => ?_
   ·refine g_cond_t rfl ?_
    refine k_go [3,2,1,0,0,0,0,0] rfl (by kernel_rfl) (fun _ _ _ _ _ h => h) fun hQ => ?_
    refine k_xc 0 [3,2,1,0,0,0,0,0] [2] hQ (by kernel_rfl) rfl rfl rfl rfl rfl rfl (by omega) ?_
    refine k_x 1 [3,2,1,0,0,0,0,0] [] hQ (by kernel_rfl) rfl rfl rfl rfl rfl rfl ?_
    refine k_x 2 [3,2,1,0,0,0,0,0] [] hQ (by kernel_rfl) rfl rfl rfl rfl rfl rfl ?_
    refine k_xc 3 [3,2,1,0,0,0,0,0] [3] hQ (by kernel_rfl) rfl rfl rfl rfl rfl rfl (by omega) ?_
    refine k_x 4 [3,2,1,0,0,0,0,0] [] hQ (by kernel_rfl) rfl rfl rfl rfl rfl rfl ?_
    refine k_xc 5 [3,2,1,0,0,0,0,0] [1] hQ (by kernel_rfl) rfl rfl rfl rfl rfl rfl (by omega) ?_
    refine k_x 6 [3,2,1,0,0,0,0,0] [] hQ (by kernel_rfl) rfl rfl rfl rfl rfl rfl ?_
    refine k_x 7 [3,2,1,0,0,0,0,0] [] hQ (by kernel_rfl) rfl rfl rfl rfl rfl rfl ?_
    refine k_x 8 [3,2,1,0,0,0,0,0] [] hQ (by kernel_rfl) rfl rfl rfl rfl rfl rfl ?_
    refine k_take 9 rfl (by kernel_rfl) hQ rfl rfl rfl (fun _ h => h.pick [3,2,1,0,0,0,0,0] rfl) (y_idxArr (m := nnu.toNat * 2) rfl rfl Try.underlying36 Try.sizeOf34 (by omega) (by omega) (by omega)) ?_
    refine k_one 10 (by kernel_rfl) ?_
    refine k_op 10 rfl ?_
    refine g_stSp (k := nnu.toNat) 8 (by omega) rfl rfl rfl Try.sizeOf34 rfl ?_
    simp only [List.set_cons_zero, List.set_cons_succ]
    refine n_ ?_
    refine k_end (fun _ h => h.pick [3,2,1,0,0,0,0,0] rfl) ?_
    refine k_done (by kernel_rfl) ?_
    refine t_ (o_ ?_)
    refine xg 4 [2] rfl (by omega) ?_
    refine g_ahead [0,2,0,1,1,1,1,1] rfl ?_
    simp only [List.cons_append, List.nil_append]
    refine g_inner (ginn (.inl rfl) i j hi hj) rfl rfl rfl rfl (fun M8 E8 hs8 => ?_)
    refine n_ (g_in_normal (g_end_normal ?_))
    refine g_end0 Try.results27 ?_
    rw [(gs_grp ha).trans (by first | rw [if_pos (by omega)] | rw [if_neg (by omega)])]
    exact fun w hS => ⟨⟨(M8, E8), fun p0 hp0 => hs8 _ (hp0)⟩, rfl, hS.pick [3,3,3,3,3] rfl⟩
   refine g_cond_f rfl (g_skip (t_ (o_ ?_)))
   refine xg 4 [2] rfl (by omega) ?_
   refine g_ahead [0,2,0,1,1,1,1,1] rfl ?_
   simp only [List.cons_append, List.nil_append]
   refine g_inner (ginn (.inl rfl) i j hi hj) rfl rfl rfl rfl (fun M8 E8 hs8 => ?_)
   refine n_ (g_in_normal (g_end_normal ?_))
   refine g_end0 Try.results27 ?_
   rw [(gs_grp ha).trans (by first | rw [if_pos (by omega)] | rw [if_neg (by omega)])]
   exact fun w hS => ⟨⟨(M8, E8), fun p0 hp0 => hs8 _ (hp0)⟩, rfl, hS.pick [3,3,3,3,3] rfl⟩
  refine xg 5 [] rfl rfl ?_
  refine n_ (t_ (g_cond_f rfl (g_skip (t_ (o_ ?_)))))
  refine xg 4 [2] rfl (by omega) ?_
  refine g_ahead [0,2,0,1,1,1,1,1] rfl ?_
  simp only [List.cons_append, List.nil_append]
  refine g_inner (ginn (.inl rfl) i j hi hj) rfl rfl rfl rfl (fun M8 E8 hs8 => ?_)
  refine n_ (g_in_normal (g_end_normal ?_))
  refine g_end0 Try.results27 ?_
  rw [(gs_grp ha).trans (by first | rw [if_pos (by omega)] | rw [if_neg (by omega)])]
  exact fun w hS => ⟨⟨(M8, E8), fun p0 hp0 => hs8 _ (hp0)⟩, rfl, hS.pick [3,3,3,3,3] rfl⟩
 refine g_cond_f rfl (s_ (o_ ?_))
 refine xg 2 [0] rfl rfl ?_
 refine n_ (t_ ?_)
 refine g_casep 136 rfl (fun h12 => ?_) fun h12 => ?_
 ·refine g_cond_t rfl (s_ (s_ ?_))
  obtain rfl : k = 4 := by assumption
  refine o_ ?_
  refine xg 4 [2,0] rfl (by omega) ?_
  refine n_ (t_ ?_)
  refine g_casep 141 rfl (fun h13 => ?_) fun h13 => ?_
  ·refine g_cond_t rfl (s_ (s_ ?_))
   obtain rfl : i = j := by omega
   refine o_ ?_
   refine xg 3 [2,0] rfl (by omega) ?_
   refine n_ (t_ ?_)
   refine g_casep 144 rfl (fun h14 => ?_) fun h14 => ?_
   ·refine g_cond_t rfl (o_ ?_)
    refine xg 3 [] rfl rfl ?_
    refine g_ahead [0,2,0,1,1,1,1,1] rfl ?_
    simp only [List.cons_append, List.nil_append]
    refine g_inner (ginn (.inr rfl) i i hi hi) rfl rfl rfl rfl (fun M8 E8 hs8 => ?_)
    refine n_ (t_ (g_ret (g_then_ret (g_in_ret ?_))))
    refine g_end0 Try.results27 ?_
    rw [(gs_rep0 ha).trans (by first | rw [if_pos (by omega)] | rw [if_neg (by omega)])]
    exact fun w hS => ⟨⟨(M8, E8), fun p0 hp0 => hs8 _ (hp0)⟩, rfl, hS.pick [3,3,3,3,3] rfl⟩
   refine g_cond_f rfl (g_skip (t_ (g_ret (g_then_ret (g_in_ret ?_)))))
   refine g_end0 Try.results27 ?_
   rw [(gs_rep0 ha).trans (by first | rw [if_pos (by omega)] | rw [if_neg (by omega)])]
   exact fun w hS => ⟨⟨(M, E), fun p0 hp0 => hp0⟩, rfl, hS.pick [4,4,4,4,4] rfl⟩
  refine g_cond_f rfl (g_skip (t_ (s_ (o_ ?_))))
  refine xg 2 [] rfl rfl ?_
  refine n_ (t_ (g_block ?_))
  refine g_loop (α := {x : Nat × (Value → Option Nat) × List (Value × Nat) // x.1 ≤ j + 1 ∧ (∀ p, p ∈ E → p ∈ x.2.2) ∧ (∀ b, x.1 ≤ b → b ≤ j → (mKid C.x q i b && Sp C.x C.ns (kv (round ⟨a, p, mi, ma, i⟩ b)) j) = false)}) (fun x => [(2, .int .i64 (j : Int)), (4, .pointer (some ⟨b1, 0, none⟩)), (5, .pointer (some ⟨b2, 0, none⟩)), (7, .pointer (some ⟨b3, 0, none⟩)), (8, .pointer (some ⟨b4, 0, none⟩)), (9, .func (.func 46) #[] #[.pointer (some ⟨b4, 0, none⟩), .pointer (some ⟨b1, 0, none⟩), .pointer (some ⟨b3, 0, none⟩)]), (16, .int .i64 ((x.1.1 : Int) - 1))]) (fun x => St w F [.cells b1 58 [.pointer (some ⟨C.b, 0, none⟩)], .cells b2 62 [.int .i64 (a : Int), .int .i64 (p : Int), .int .i64 mi, .int .i64 ma, .int .i64 (i : Int)], .cells b3 69 [.pointer (some ⟨bo, 0, none⟩)], .cells b4 94 [.int .i64 4, .int .u64 (s 0), .int .u64 (s 1), .int .u64 (s 2), .int .u64 (s 3), .int .i64 nmi, .int .i64 nma, .int .i64 nnu, .slice v1 v2 v3, .slice u1 ks.length u3], C.mt, C.nd, .kids C.ns, C.mo x.1.2.1 x.1.2.2, .cells bo 36 (spC m)]) (fun x => x.1.1) ⟨(j + 1, M, E), Nat.le_refl _, fun _ h => h, fun b h1 h2 => by omega⟩ [2, 4, 5, 7, 8, 9, 16] (by rw [show (((j + 1 : Nat) : Int) - 1) = (j : Int) by omega]; rfl) (fun w h => h.pick [3,2,1,0,0,0,0,0,0] rfl) ?_
  rintro ⟨⟨c, M3, E3⟩, hc, hs3, hno⟩
  dsimp only
  dsimp only at hc hs3 hno
  refine s_ (s_ (o_ ?_))
  refine xg 4 [1,0] rfl (by omega) ?_
  refine n_ (t_ ?_)
  refine g_casep 153 rfl (fun h15 => ?_) fun h15 => ?_
  ·refine g_cond_t rfl (g_skip (t_ (s_ (g_block (s_ ?_)))))
   obtain ⟨k0, rfl⟩ : ∃ k0, c = k0 + 1 := ⟨c - 1, by omega⟩
   refine g_eqv 16 (.int .i64 (k0 : Int)) rfl (by rw [show (((k0 + 1 : Nat) : Int) - 1) = (k0 : Int) by omega]) ?_
   refine o_ ?_
   refine xg 2 [1] rfl (by omega) ?_
   refine g_c1 (m_round a p i k0 mi ma ⟨r4, r5, r6, r7⟩) any_I rfl rfl rfl ?_
   refine g_alloc rfl rfl Try.zeroValue62 rfl (fun b8 => ?_)
   refine xg 1 [0] rfl (by omega) ?_
   refine ntso_ ?_
   refine xg 4 [1,4,2] rfl (by omega) ?_
   refine g_ahead [5,5,5,5] rfl ?_
   simp only [List.cons_append, List.nil_append]
   refine g_kid (hkid (.inr rfl)) rfl rfl rfl (fun M1 E1 q1 g1 hs1 hm1 hq1 => ?_)
   refine xg 1 [] rfl rfl ?_
   refine g_call1 (v := .bool (Sp C.x C.ns (q1) k0)) rfl rfl rfl Try.call33 (fun w hS => has_any (Sp C.x C.ns (q1)) g1 C.W k0 (by unfold Cx.W; omega) C.hW w (memo_rd (hS.get (i := 3) rfl) (hm1))) ?_
   refine xg 1 [] rfl rfl ?_
   first | refine g_casep 166 rfl (fun h16 => ?_) fun h16 => ?_ | refine g_caseb 166 rfl (fun h16 => ?_) fun h16 => ?_
   ·refine xg 2 [5,4] rfl (by omega) ?_
    refine g_all (hrnd rfl k0 (by omega) (by omega)) rfl rfl rfl (fun M2 E2 g2 hs2 hm2 => ?_)
    refine xg 1 [] rfl rfl ?_
    refine g_call1 (v := .bool (Sp C.x C.ns (kv (round ⟨a, p, mi, ma, i⟩ k0)) j)) rfl rfl rfl Try.call33 (fun w hS => has_any (Sp C.x C.ns (kv (round ⟨a, p, mi, ma, i⟩ k0))) g2 C.W j (by unfold Cx.W; omega) C.hW w (memo_rd (hS.get (i := 3) rfl) (hm2))) ?_
    refine xg 1 [] rfl rfl ?_
    refine n_ (t_ ?_)
    first | refine g_casep 172 rfl (fun h17 => ?_) fun h17 => ?_ | refine g_caseb 172 rfl (fun h17 => ?_) fun h17 => ?_
    ·refine g_cond_t rfl (s_ (o_ ?_))
     refine xg 4 [6] rfl (by omega) ?_
     refine g_ahead [8,5,6,0,0,0,0,2] rfl ?_
     simp only [List.cons_append, List.nil_append]
     refine g_inner (ginn (.inr rfl) i k0 hi (by omega)) rfl rfl rfl rfl (fun M8 E8 hs8 => ?_)
     refine ntso_ ?_
     refine xg 4 [1,8,2] rfl (by omega) ?_
     refine g_ahead [3,3,3,3,3] rfl ?_
     simp only [List.cons_append, List.nil_append]
     refine g_grp (grnd rfl k0 (by omega) (by omega)) rfl rfl rfl (fun M6 E6 hs6 => ?_)
     refine n_ (t_ (g_ret (g_in_ret (g_then_ret (g_then_ret (g_in_ret (g_in_ret ?_)))))))
     refine g_end0 Try.results27 ?_
     rw [gs_repS (k0 := k0) ha (by omega) hj (by omega) (by omega) (by rw [← hq1]; assumption) (by assumption) (fun b h1 h2 => hno b (by omega) h2)]
     exact fun w hS => ⟨⟨(M6, E6), fun p0 hp0 => hs6 _ (hs8 _ (hs2 _ (hs1 _ (hs3 _ (hp0)))))⟩, rfl, hS.pick [0,0,0,0,0] rfl⟩
    refine g_cond_f rfl (g_skip (g_in_normal (t_ (o_ ?_))))
    refine xg 3 [] rfl (by omega) ?_
    refine n_ ?_
    exact g_again ⟨(k0, M2, E2), by dsimp only; omega, fun p0 hp0 => hs2 _ (hs1 _ (hs3 _ (hp0))), down_step hno (by rw [← hq1]; exact (by first | (simp only [show Sp C.x C.ns q1 k0 = false by assumption, Bool.false_and]) | (simp only [show Sp C.x C.ns (kv (round ⟨a, p, mi, ma, i⟩ k0)) j = false by assumption, Bool.and_false])))⟩ [2, 4, 5, 7, 8, 9, 16] (by dsimp only; omega) rfl (fun w h => h.pick [5,5,5,5,0,0,0,0,1] rfl)
   refine xg 6 [] rfl rfl ?_
   refine n_ (t_ (g_cond_f rfl (g_skip (g_in_normal (t_ (o_ ?_))))))
   refine xg 3 [] rfl (by omega) ?_
   refine n_ ?_
   exact g_again ⟨(k0, M1, E1), by dsimp only; omega, fun p0 hp0 => hs1 _ (hs3 _ (hp0)), down_step hno (by rw [← hq1]; exact (by first | (simp only [show Sp C.x C.ns q1 k0 = false by assumption, Bool.false_and]) | (simp only [show Sp C.x C.ns (kv (round ⟨a, p, mi, ma, i⟩ k0)) j = false by assumption, Bool.and_false])))⟩ [2, 4, 5, 7, 8, 9, 16] (by dsimp only; omega) rfl (fun w h => h.pick [5,5,5,5,0,0,0,0,1] rfl)
  refine g_cond_f rfl (g_exit (g_then_exit (g_then_exit (g_in_exit (g_in_normal (g_end_normal ?_))))))
  refine g_end0 Try.results27 ?_
  rw [gs_repN ha (by omega) (fun b h1 h2 => hno b (by omega) h2)]
  exact fun w hS => ⟨⟨(M3, E3), fun p0 hp0 => hs3 _ (hp0)⟩, rfl, hS.pick [4,4,4,4,4] rfl⟩
 refine g_cond_f rfl (g_skip (g_in_normal (g_end_normal ?_)))
 refine g_end0 Try.results27 ?_
 rw [gs_other ha ⟨by assumption, by assumption, by assumption, by assumption⟩]
 exact fun w hS => ⟨⟨(M, E), fun p0 hp0 => hp0⟩, rfl, hS.pick [4,4,4,4,4] rfl⟩

end Go.Proofs.Ytfcamlkbkehlnaa

/- groups: any state. -/
namespace Go.Proofs.Ytfcamlkbkehlnaa
open Go Go.RowKit

theorem VS_next {C : Cx} {t : MT} {a p i b : Nat} {mi ma : Int} (h : VS C t a ⟨a, p, mi, ma, i⟩) (hk : t.k = 2) (hp : p < t.kids.length) (hb : b ≤ C.x.n) : VS C t a ⟨a, p + 1, 0, 0, b⟩ :=
  ⟨rfl, hb, by show (0 : Int) ≤ 0; omega, by show (0 : Int) ≤ _; omega, by show (-1 : Int) ≤ 0; omega, by show (0 : Int) ≤ _; omega, hp, fun h => absurd hk h⟩
theorem VS_round {C : Cx} {t : MT} {a p i b : Nat} {mi ma : Int} (h : VS C t a ⟨a, p, mi, ma, i⟩) (hb : b ≤ C.x.n) : VS C t a (round ⟨a, p, mi, ma, i⟩ b) := by
  obtain ⟨_, hi, h1, h2, h3, h4, h5, h6⟩ := h
  dsimp only at hi h1 h2 h3 h4 h5 h6
  refine ⟨rfl, hb, by show (0 : Int) ≤ max (mi - 1) 0; omega, by show max (mi - 1) 0 ≤ _; omega, ?_, ?_, h5, h6⟩
  · show -1 ≤ (if 0 < ma then ma - 1 else ma); split <;> omega
  · show (if 0 < ma then ma - 1 else ma) ≤ _; split <;> omega
theorem grok (C : Cx) : ∀ (D : Nat) (t : MT) (a : Nat), wT t ≤ D → laidT C.ns t a → ∀ (m : Nat) (s : Sta) (j : Nat), VS C t a s → j ≤ C.x.n → (t.kids.length - s.p) + (C.x.n - s.i) ≤ m → GrOk C s j := by
  intro D
  induction D with
  | zero => intro t a h; cases t; rw [wT_mk] at h; omega
  | succ D ihD =>
    intro t a hD hl m
    have hal0 := fun s hs => allok C (D + 1) t a hD hl _ s hs (Nat.le_refl _)
    obtain ⟨k, cs, nmi, nma, nnu, v1, u1, v2, v3, u2, u3, q, ks, rfl, ha, hlt, hlk⟩ := Cx.node hl
    rw [wT_mk] at hD
    have hkid : ∀ u c j, u ∈ q → laidT C.ns u c → j ≤ C.x.n → AllOk C (beg C.x C.ns c j) := fun u c j hu hc hj => by
      have := wT_mem hu
      exact allok C D u c (by omega) hc _ _ (VS_beg hc hj) (Nat.le_refl _)
    have hgid : ∀ u c i j, u ∈ q → laidT C.ns u c → i ≤ C.x.n → j ≤ C.x.n → GrOk C (beg C.x C.ns c i) j := fun u c i j hu hc hi hj => by
      have := wT_mem hu
      exact ihD u c (by omega) hc _ _ j (VS_beg hc hi) hj (Nat.le_refl _)
    induction m using Nat.strongRecOn with
    | _ m ihm =>
    rintro ⟨a', p, mi, ma, i⟩ j hvs hj hm M E bo sm F w hS0
    obtain ⟨haa, hi, h1, h2, h3, h4, h5, h6⟩ := id hvs
    dsimp only at haa hi h1 h2 h3 h4 h5 h6 hm
    subst haa
    have hx := C.hx
    have hal := (List.getElem?_eq_some_iff.1 ha).1
    have hnl := C.hl
    obtain ⟨rfl, hgk⟩ := kid_sl2 hS0 (i := 2) rfl ha
    have h5' : p ≤ q.length := h5
    have hpb : p < 4611686018427387904 := by
      by_cases h2k : k = 2
      · rw [if_neg (by omega)] at hlk
        have := laidL_len hlk
        have : ks.length ≤ 1000000 := C.hn _ (List.mem_of_getElem? ha)
        omega
      · have := h6 h2k; omega
    have hr : okS ⟨a', p, mi, ma, i⟩ := by unfold okS; dsimp only; omega
    refine gr_any C k cs nmi nma nnu v1 u1 v2 v3 u3 a' p i j mi ma q ks ha hgk hi hj hr ?_ ?_ ?_ ?_ ?_ ?_ ?_ ?_ ?_ ?_ M E bo sm F w hS0
    · intro hk
      rw [if_neg (by omega)] at hlk
      rw [laidL_len hlk]; exact h5'
    · intro k5 k4
      rw [if_neg (by omega)] at hlk
      exact hlk
    · intro hk
      rw [if_pos hk] at hlk
      exact kid_ok2 hi ha hlk fun u r c hq hc => hkid u c i (by rw [hq]; exact List.mem_cons_self ..) hc hi
    · exact fun t kk ht hc => hkid t kk i ht hc hi
    · intro hk hp b hb1 hb2
      rw [if_neg (by omega)] at hlk
      exact hal0 _ (VS_next hvs hk (by rw [laidL_len hlk] at hp; exact hp) hb2)
    · intro hk b hb1 hb2
      exact hal0 _ (VS_round hvs hb2)
    · intro hk i' j' hi' hj'
      rw [if_pos hk] at hlk
      exact in_ok ha hlk fun u r c hq hc => hgid u c i' j' (by rw [hq]; exact List.mem_cons_self ..) hc hi' hj'
    · exact fun t kk ht hc j' hj' => hgid t kk i j' ht hc hi hj'
    · intro hk hp b hb1 hb2
      rw [if_neg (by omega)] at hlk
      have hlen := laidL_len hlk
      exact ihm ((q.length - (p + 1)) + (C.x.n - b)) (by have : q.length - p + (C.x.n - i) ≤ m := hm; omega) _ j (VS_next hvs hk (by rw [hlen] at hp; exact hp) hb2) hj (Nat.le_refl _)
    · intro hk b hb1 hb2
      exact ihm ((q.length - p) + (C.x.n - b)) (by have : q.length - p + (C.x.n - i) ≤ m := hm; omega) _ j (VS_round hvs hb2) hj (Nat.le_refl _)

end Go.Proofs.Ytfcamlkbkehlnaa

/- Is, Find. -/
namespace Go.Proofs.Ytfcamlkbkehlnaa
open Go Go.RowKit

/-- Does a tree match just there? -/
def isS (x : Tx) (t : MT) (fr to : Int) : Bool := decide (0 ≤ fr ∧ fr ≤ to ∧ to ≤ x.n) && mM x t fr.toNat to.toNat
/-- The first place, from i on, from which a tree matches, and the last one to which it does from there. -/
def findF (x : Tx) (t : MT) : Nat → Nat → Option (Nat × Nat)
  | 0, _ => none
  | f + 1, i => match topK (fun j => mM x t i j) 0 (x.n + 1) with
    | some j => some (i, j)
    | none => findF x t f (i + 1)
def m0 : Spn := fun _ => (0, 0)
def mN : Spn := fun _ => (-1, -1)
def findR (x : Tx) (t : MT) (fr : Int) : Spn × Bool := if 0 ≤ fr ∧ fr ≤ x.n ∧ x.n ≤ 1024 then (match findF x t (x.n + 1 - fr.toNat) fr.toNat with
    | some (i, j) => (gM x t i j (setS mN 0 (i, j)), true)
    | none => (m0, false)) else (m0, false)
def lastV (x : Tx) (t : MT) (i : Nat) : Int := match topK (fun j => mM x t i j) 0 (x.n + 1) with
  | some j => (j : Int)
  | none => -1
theorem topK_no {p : Nat → Bool} {lo : Nat} : ∀ {c : Nat}, topK p lo c = none → ∀ j, lo ≤ j → j < c → p j = false
  | 0, _, _, _, h => by omega
  | c + 1, h, j, h1, h2 => by
    rw [topK] at h
    split at h
    · cases h
    · rename_i hh
      by_cases e : j = c
      · subst e; simpa [h1] using hh
      · exact topK_no h j h1 (by omega)
theorem last_eq {x : Tx} {t : MT} {i W : Nat} {v : Int} {c : Nat → Bool} (hc : ∀ j, c j = mM x t i j) (hi : i ≤ x.n) (hW : x.n < 64 * W) (h : lastP c W v) : v = lastV x t i := by
  unfold lastV
  rcases h with ⟨rfl, h⟩ | ⟨k, rfl, h1, h2, h3⟩
  · rw [topK_none fun j _ hj => by rw [← hc]; exact h j (by omega)]
  · have hk := mM_in t hi (by rw [← hc]; exact h2)
    rw [topK_some (k := k) (Nat.zero_le _) (by omega) (by rw [← hc]; exact h2) fun j a b => by rw [← hc]; exact h3 j a (by omega)]
def fillS (k : Nat) : Spn := fun j => if j < k then (-1, -1) else (0, 0)
theorem fill_next {k : Nat} : setS (fillS k) k (-1, -1) = fillS (k + 1) := by
  funext j
  unfold setS fillS
  by_cases h1 : j = k
  · subst h1; rw [if_pos rfl, if_pos (by omega)]
  · rw [if_neg h1]
    by_cases h2 : j < k
    · rw [if_pos h2, if_pos (by omega)]
    · rw [if_neg h2, if_neg (by omega)]
theorem fill_ten {a b : Int} : spC (setS (fillS 10) 0 (a, b)) = spC (setS mN 0 (a, b)) := rfl
theorem find_none {x : Tx} {t : MT} {fr : Int} {c : Nat} (hc : c = x.n + 1) (h : findF x t (x.n + 1 - fr.toNat) fr.toNat = findF x t (x.n + 1 - c) c) : findR x t fr = (m0, false) := by
  unfold findR
  rw [h, hc, Nat.sub_self]
  split <;> rfl
theorem find_out {x : Tx} {t : MT} {fr : Int} (h : ¬ (0 ≤ fr ∧ fr ≤ x.n ∧ x.n ≤ 1024)) : findR x t fr = (m0, false) := if_neg h
theorem find_some {x : Tx} {t : MT} {fr : Int} {c j : Nat} (h0 : 0 ≤ fr ∧ fr ≤ x.n ∧ x.n ≤ 1024) (hc : c ≤ x.n) (h : findF x t (x.n + 1 - fr.toNat) fr.toNat = findF x t (x.n + 1 - c) c) (hj : topK (fun j => mM x t c j) 0 (x.n + 1) = some j) : findR x t fr = (gM x t c j (setS mN 0 (c, j)), true) := by
  unfold findR
  obtain ⟨f, hf⟩ : ∃ f, x.n + 1 - c = f + 1 := ⟨x.n - c, by omega⟩
  rw [if_pos h0, h, hf, findF, hj]
theorem find_next {x : Tx} {t : MT} {c : Nat} (hc : c ≤ x.n) (hj : topK (fun j => mM x t c j) 0 (x.n + 1) = none) : findF x t (x.n + 1 - c) c = findF x t (x.n + 1 - (c + 1)) (c + 1) := by
  obtain ⟨f, hf⟩ : ∃ f, x.n + 1 - c = f + 1 := ⟨x.n - c, by omega⟩
  rw [hf, findF, hj]
  dsimp only
  rw [show x.n + 1 - (c + 1) = f by omega]

set_option maxRecDepth 100000 in
theorem is_any2 (tx : Tx) (k : Int) (s : Nat → Int) (nmi nma nnu : Int) (pq : Option Addr) (cq : Nat) (q : List MT) (fr to : Int) (hx : tx.n ≤ 1000000) (hle : wT (MT.mk k s nmi nma nnu (Value.slice pq q.length cq) q) ≤ 1000000) (w : World) (hok : MT.rd w (MT.mk k s nmi nma nnu (Value.slice pq q.length cq) q)) :
    Calls Try.prog 20 #[.agg (nC (MT.mk k s nmi nma nnu (Value.slice pq q.length cq) q)).toArray, st8 tx.l, .int .i64 fr, .int .i64 to, .bool tx.bg] w fun e w' => e = .returned (.bool (isS tx (MT.mk k s nmi nma nnu (Value.slice pq q.length cq) q) fr to)) ∧ Below w.heap.size w w' := by
 refine fn_intro Try.func20 rfl Try.ntmps20 rfl rfl ?_
 refine s_ (o_ ?_)
 refine g_box rfl rfl rfl rfl (fun b1 => ?_)
 refine xg 1 [] rfl rfl ?_
 refine n_ (t_ (s_ (s_ (o_ ?_))))
 refine xg 3 [0] rfl rfl ?_
 refine g_casep 15 rfl (fun h1 => ?_) fun h1 => ?_
 ·refine xg 10 [] rfl rfl ?_
  refine n_ (t_ (g_cond_t rfl (s_ (o_ ?_))))
  refine xg 1 [] rfl rfl ?_
  refine n_ (t_ (g_ret (g_then_ret ?_)))
  refine g_end1 Try.results20 rfl ?_
  rw [show isS tx (MT.mk k s nmi nma nnu (Value.slice pq q.length cq) q) fr to = false by unfold isS; rw [decide_eq_false (by omega), Bool.false_and]]
  exact fun w hS => ⟨rfl, hS.below⟩
 refine xg 5 [0] rfl rfl ?_
 refine g_casep 20 rfl (fun h2 => ?_) fun h2 => ?_
 ·refine xg 5 [] rfl rfl ?_
  refine n_ (t_ (g_cond_t rfl (s_ (o_ ?_))))
  refine xg 1 [] rfl rfl ?_
  refine n_ (t_ (g_ret (g_then_ret ?_)))
  refine g_end1 Try.results20 rfl ?_
  rw [show isS tx (MT.mk k s nmi nma nnu (Value.slice pq q.length cq) q) fr to = false by unfold isS; rw [decide_eq_false (by omega), Bool.false_and]]
  exact fun w hS => ⟨rfl, hS.below⟩
 refine xg 2 [] rfl rfl ?_
 refine g_val (v := .int .i64 (tx.n : Int)) rfl rfl rfl (y_val (y_slen rfl Try.underlying9) (by rw [size_mk]; rfl)) ?_
 refine xg 2 [0] rfl rfl ?_
 refine n_ (t_ ?_)
 refine g_casep 25 rfl (fun h3 => ?_) fun h3 => ?_
 ·refine g_cond_t rfl (s_ (o_ ?_))
  refine xg 1 [] rfl rfl ?_
  refine n_ (t_ (g_ret (g_then_ret ?_)))
  refine g_end1 Try.results20 rfl ?_
  rw [show isS tx (MT.mk k s nmi nma nnu (Value.slice pq q.length cq) q) fr to = false by unfold isS; rw [decide_eq_false (by omega), Bool.false_and]]
  exact fun w hS => ⟨rfl, hS.below⟩
 refine g_cond_f rfl (g_skip (t_ (s_ ?_)))
 obtain ⟨i, rfl⟩ := Int.eq_ofNat_of_zero_le (show 0 ≤ fr by omega)
 obtain ⟨j, rfl⟩ := Int.eq_ofNat_of_zero_le (show 0 ≤ to by omega)
 refine o_ ?_
 refine xg 3 [0] rfl (by omega) ?_
 refine g_callOwn (L0 := []) (fun y : {C : Cx // C.x = tx ∧ laidT C.ns (MT.mk k s nmi nma nnu (Value.slice pq q.length cq) q) 0} => .tuple #[.pointer (some ⟨y.1.b, 0, none⟩), .int .i64 0]) (fun y => [y.1.mt, y.1.nd, .kids y.1.ns, y.1.mo (fun _ => none) []]) rfl rfl rfl Try.call23 (fun w' hS => laid_any tx k s nmi nma nnu pq cq q hx hle w' (hS.okOf hok (fun _ _ => List.not_mem_nil))) ?_
 rintro ⟨C, rfl, hl⟩
 dsimp only
 simp only [List.cons_append, List.nil_append]
 obtain ⟨kv0, ks, hb, hlt, hlk⟩ := laidT_mk.1 hl
 obtain ⟨u1, u2, u3, hkv⟩ := C.hk _ (List.mem_of_getElem? hb)
 obtain rfl : kv0 = .slice u1 u2 u3 := hkv
 refine xg 5 [] rfl rfl ?_
 refine ntso_ ?_
 refine xg 4 [] rfl rfl ?_
 refine g_c1 (m_begin C.b C.mp 0 i _ C.x C.ns k s nmi nma nnu pq u1 q.length cq u2 u3 q ks hb C.hx) (fun w hS => Cx.mi hS (i := 0) (j := 1) rfl rfl) rfl rfl rfl ?_
 refine g_all (allok C _ _ 0 (Nat.le_refl _) hl _ _ (VS_beg hl (i := i) (by omega)) (Nat.le_refl _)) rfl rfl rfl (fun M1 E1 g1 hs1 hm1 => ?_)
 refine xg 1 [] rfl rfl ?_
 refine g_call1 (v := .bool (Sp C.x C.ns (kv (beg C.x C.ns 0 i)) j)) rfl rfl rfl Try.call33 (fun w hS => has_any (Sp C.x C.ns (kv (beg C.x C.ns 0 i))) g1 C.W j (by unfold Cx.W; omega) C.hW w (memo_rd (hS.get (i := 3) rfl) (hm1))) ?_
 refine xg 1 [] rfl rfl ?_
 refine n_ (t_ (g_ret ?_))
 refine g_end1 Try.results20 rfl ?_
 rw [show isS C.x (MT.mk k s nmi nma nnu (Value.slice pq q.length cq) q) (i : Int) (j : Int) = Sp C.x C.ns (kv (beg C.x C.ns 0 i)) j by rw [Sp_kv, spec_beg hl]; unfold isS; rw [decide_eq_true (by omega), Bool.true_and]; rfl]
 exact fun w hS => ⟨rfl, hS.below⟩

set_option maxRecDepth 100000 in
theorem find_any (tx : Tx) (k : Int) (s : Nat → Int) (nmi nma nnu : Int) (pq : Option Addr) (cq : Nat) (q : List MT) (fr : Int) (hx : tx.n ≤ 1000000) (hle : wT (MT.mk k s nmi nma nnu (Value.slice pq q.length cq) q) ≤ 1000000) (w : World) (hok : MT.rd w (MT.mk k s nmi nma nnu (Value.slice pq q.length cq) q)) :
    Calls Try.prog 14 #[.agg (nC (MT.mk k s nmi nma nnu (Value.slice pq q.length cq) q)).toArray, st8 tx.l, .int .i64 fr, .bool tx.bg] w fun e w' => e = .returned (.tuple #[.agg (spC (findR tx (MT.mk k s nmi nma nnu (Value.slice pq q.length cq) q) fr).1).toArray, .bool (findR tx (MT.mk k s nmi nma nnu (Value.slice pq q.length cq) q) fr).2]) ∧ Below w.heap.size w w' := by
 refine fn_intro Try.func14 rfl Try.ntmps14 rfl rfl ?_
 refine s_ (o_ ?_)
 refine g_box rfl rfl rfl rfl (fun b1 => ?_)
 refine g_alloc rfl rfl Try.zeroValue36 rfl (fun br => ?_)
 refine g_nrm (L' := .cells br 36 (spC m0) :: _) rfl ?_
 refine xg 1 [] rfl rfl ?_
 refine n_ (t_ (s_ (s_ (o_ ?_))))
 refine xg 3 [0] rfl rfl ?_
 refine g_casep 19 rfl (fun h1 => ?_) fun h1 => ?_
 ·refine xg 10 [] rfl rfl ?_
  refine n_ (t_ (g_cond_t rfl (s_ (o_ ?_))))
  refine xg 3 [0] rfl (by omega) ?_
  refine n_ (t_ (g_ret (g_then_ret ?_)))
  refine g_end_cell2 0 Try.results14 rfl rfl rfl Try.isAgg36 Try.sizeOf36 rfl ?_
  rw [find_out (by omega)]
  exact fun w hS => ⟨rfl, hS.below⟩
 refine xg 2 [] rfl rfl ?_
 refine g_val (v := .int .i64 (tx.n : Int)) rfl rfl rfl (y_val (y_slen rfl Try.underlying9) (by rw [size_mk]; rfl)) ?_
 refine xg 3 [0] rfl rfl ?_
 refine g_casep 25 rfl (fun h2 => ?_) fun h2 => ?_
 ·refine xg 4 [] rfl rfl ?_
  refine n_ (t_ (g_cond_t rfl (s_ (o_ ?_))))
  refine xg 3 [0] rfl (by omega) ?_
  refine n_ (t_ (g_ret (g_then_ret ?_)))
  refine g_end_cell2 0 Try.results14 rfl rfl rfl Try.isAgg36 Try.sizeOf36 rfl ?_
  rw [find_out (by omega)]
  exact fun w hS => ⟨rfl, hS.below⟩
 refine xg 1 [] rfl rfl ?_
 refine g_val (v := .int .i64 (tx.n : Int)) rfl rfl rfl (y_val (y_slen rfl Try.underlying9) (by rw [size_mk]; rfl)) ?_
 refine xg 2 [0] rfl rfl ?_
 refine n_ (t_ ?_)
 refine g_casep 29 rfl (fun h3 => ?_) fun h3 => ?_
 ·refine g_cond_t rfl (s_ (o_ ?_))
  refine xg 3 [0] rfl (by omega) ?_
  refine n_ (t_ (g_ret (g_then_ret ?_)))
  refine g_end_cell2 0 Try.results14 rfl rfl rfl Try.isAgg36 Try.sizeOf36 rfl ?_
  rw [find_out (by omega)]
  exact fun w hS => ⟨rfl, hS.below⟩
 refine g_cond_f rfl (g_skip (t_ (s_ ?_)))
 obtain ⟨f0, rfl⟩ := Int.eq_ofNat_of_zero_le (show 0 ≤ fr by omega)
 refine o_ ?_
 refine xg 3 [1] rfl (by omega) ?_
 refine g_callOwn (L0 := []) (fun y : {C : Cx // C.x = tx ∧ laidT C.ns (MT.mk k s nmi nma nnu (Value.slice pq q.length cq) q) 0} => .tuple #[.pointer (some ⟨y.1.b, 0, none⟩), .int .i64 0]) (fun y => [y.1.mt, y.1.nd, .kids y.1.ns, y.1.mo (fun _ => none) []]) rfl rfl rfl Try.call23 (fun w' hS => laid_any tx k s nmi nma nnu pq cq q hx hle w' (hS.okOf hok (fun _ _ => List.not_mem_nil))) ?_
 rintro ⟨C, rfl, hl⟩
 dsimp only
 simp only [List.cons_append, List.nil_append]
 obtain ⟨kv0, ks, hb, hlt, hlk⟩ := laidT_mk.1 hl
 obtain ⟨u1, u2, u3, hkv⟩ := C.hk _ (List.mem_of_getElem? hb)
 obtain rfl : kv0 = .slice u1 u2 u3 := hkv
 refine xg 5 [] rfl rfl ?_
 refine n_ (t_ (s_ (s_ (o_ ?_))))
 refine xg 2 [] rfl rfl ?_
 refine n_ (t_ (g_block ?_))
 refine g_loop (α := {x : Nat × (Value → Option Nat) × List (Value × Nat) // x.1 ≤ C.x.n + 1 ∧ findF C.x (MT.mk k s nmi nma nnu (Value.slice pq q.length cq) q) (C.x.n + 1 - f0) f0 = findF C.x (MT.mk k s nmi nma nnu (Value.slice pq q.length cq) q) (C.x.n + 1 - x.1) x.1}) (fun x => [(1, st8 C.x.l), (8, .pointer (some ⟨br, 0, none⟩)), (10, .pointer (some ⟨C.b, 0, none⟩)), (11, .int .i64 0), (12, .int .i64 (x.1.1 : Int))]) (fun x => St w [] [.cells br 36 (spC m0), C.mt, C.nd, .kids C.ns, C.mo x.1.2.1 x.1.2.2]) (fun x => C.x.n + 1 - x.1.1) ⟨(f0, (fun _ => none), []), by dsimp only; omega, rfl⟩ [1, 8, 10, 11, 12] rfl (fun w h => h.pick [4,0,0,0,0] rfl) ?_
 rintro ⟨⟨i, M3, E3⟩, hc, hff⟩
 dsimp only
 dsimp only at hc hff
 refine s_ (s_ (o_ ?_))
 refine xg 2 [] rfl rfl ?_
 refine g_val (v := .int .i64 (C.x.n : Int)) rfl rfl rfl (y_val (y_slen rfl Try.underlying9) (by rw [size_mk]; rfl)) ?_
 refine xg 1 [0] rfl rfl ?_
 refine n_ (t_ ?_)
 refine g_casep 42 rfl (fun h4 => ?_) fun h4 => ?_
 ·refine g_cond_t rfl (g_skip (t_ (s_ (g_block (s_ ?_)))))
  have hi : i ≤ C.x.n := by omega
  refine o_ ?_
  refine xg 3 [] rfl rfl ?_
  refine g_c1 (m_begin C.b C.mp 0 i _ C.x C.ns k s nmi nma nnu pq u1 q.length cq u2 u3 q ks hb C.hx) (fun w hS => Cx.mi hS (i := 1) (j := 2) rfl rfl) rfl rfl rfl ?_
  refine g_alloc rfl rfl Try.zeroValue62 rfl (fun b2 => ?_)
  refine xg 1 [0] rfl (by omega) ?_
  refine ntso_ ?_
  refine xg 2 [0] rfl (by omega) ?_
  refine g_ahead [2,2,2,2] rfl ?_
  simp only [List.cons_append, List.nil_append]
  refine g_all (allok C _ _ 0 (Nat.le_refl _) hl _ _ (VS_beg hl (i := i) (by omega)) (Nat.le_refl _)) rfl rfl rfl (fun M1 E1 g1 hs1 hm1 => ?_)
  refine g_call1 (v := .int .i64 (lastV C.x (MT.mk k s nmi nma nnu (Value.slice pq q.length cq) q) i)) rfl rfl rfl Try.call26 (fun w hS => (last_any _ g1 C.W C.hW w (memo_rd (hS.get (i := 3) rfl) hm1)).mono fun e w1 ⟨y, h8, h9⟩ => ⟨by rw [h8, ← last_eq (fun j => by rw [Sp_kv, spec_beg hl]) hi (by unfold Cx.W; omega) y.2], h9⟩) ?_
  refine xg 1 [] rfl rfl ?_
  refine n_ (t_ (s_ (s_ ?_)))
  cases hlv : topK (fun j => mM C.x (MT.mk k s nmi nma nnu (Value.slice pq q.length cq) q) i j) 0 (C.x.n + 1)
  ·refine g_eqv 14 (.int .i64 (-1)) rfl (by unfold lastV; rw [hlv]) ?_
   refine o_ ?_
   refine xg 2 [1] rfl (by omega) ?_
   refine n_ (t_ (g_cond_t rfl (g_exit (g_then_exit (g_in_exit (t_ (o_ ?_)))))))
   refine xg 3 [] rfl (by omega) ?_
   refine n_ ?_
   exact g_again ⟨(i + 1, M1, E1), by dsimp only; omega, by dsimp only; rw [hff]; exact find_next hi hlv⟩ [1, 8, 10, 11, 12] (by dsimp only; omega) rfl (fun w h => h.pick [5,0,0,0,0] rfl)
  rename_i j
  have hjn := (topK_is hlv).2.1
  refine g_eqv 14 (.int .i64 (j : Int)) rfl (by unfold lastV; rw [hlv]) ?_
  refine o_ ?_
  refine xg 2 [2] rfl (by omega) ?_
  refine n_ (t_ (g_cond_f rfl (g_skip (t_ (s_ (o_ ?_))))))
  refine g_alloc rfl rfl Try.zeroValue36 rfl (fun bo => ?_)
  refine g_nrm (L' := .cells bo 36 (spC (fillS 0)) :: _) rfl ?_
  refine n_ (t_ (s_ (s_ (o_ ?_))))
  refine xg 1 [] rfl rfl ?_
  refine n_ (t_ (g_block ?_))
  refine g_loop (α := {x : Nat // x ≤ 10}) (fun x => [(1, st8 C.x.l), (8, .pointer (some ⟨br, 0, none⟩)), (10, .pointer (some ⟨C.b, 0, none⟩)), (11, .int .i64 0), (12, .int .i64 (i : Int)), (13, .pointer (some ⟨b2, 0, none⟩)), (14, .int .i64 (j : Int)), (15, .pointer (some ⟨bo, 0, none⟩)), (55, .int .i64 (x.1 : Int))]) (fun x => St w [] [.cells bo 36 (spC (fillS x.1)), .cells b2 62 (kvC (beg C.x C.ns 0 i)), .cells br 36 (spC m0), C.mt, C.nd, .kids C.ns, C.mo M1 E1]) (fun x => 10 - x.1) ⟨0, by decide⟩ [1, 8, 10, 11, 12, 13, 14, 15, 55] rfl (fun w h => h.pick [0,4,4,0,0,0,0] rfl) ?_
  rintro ⟨n, hn⟩
  dsimp only
  refine s_ (o_ ?_)
  refine xg 1 [0] rfl rfl ?_
  refine n_ (t_ (s_ ?_))
  refine g_casep 56 rfl (fun h5 => ?_) fun h5 => ?_
  ·refine g_cond_t rfl (g_skip (t_ (s_ (g_block (s_ (o_ ?_))))))
   refine xg 2 [] rfl rfl ?_
   refine nto_ ?_
   refine xg 2 [] rfl rfl ?_
   refine g_val rfl rfl rfl (y_idxArr (m := n * 2) rfl rfl Try.underlying36 Try.sizeOf34 (by omega) (by omega) (by omega)) ?_
   refine g_stSp (k := n) 0 (by omega) rfl rfl rfl Try.sizeOf34 rfl ?_
   simp only [List.set_cons_zero, List.set_cons_succ]
   rw [fill_next]
   refine n_ (g_in_normal (t_ (o_ ?_)))
   refine xg 2 [] rfl (by omega) ?_
   refine n_ ?_
   exact g_again ⟨n + 1, by omega⟩ [1, 8, 10, 11, 12, 13, 14, 15, 55] (by dsimp only; omega) rfl (fun w h => h.pick [0,0,0,0,0,0,0] rfl)
  refine g_cond_f rfl (g_exit (g_then_exit (g_then_exit (g_in_exit (t_ (s_ ?_))))))
  obtain rfl : n = 10 := by omega
  refine o_ ?_
  refine xg 3 [] rfl rfl ?_
  refine g_val rfl rfl rfl (y_idxArr (m := 0 * 2) rfl rfl Try.underlying36 Try.sizeOf34 (by decide) (by decide) rfl) ?_
  refine g_stSp (k := 0) 0 (by omega) rfl rfl rfl Try.sizeOf34 rfl ?_
  simp only [List.set_cons_zero, List.set_cons_succ]
  rw [fill_ten]
  refine ntso_ ?_
  refine xg 3 [1] rfl (by omega) ?_
  refine g_ahead [3,3,3,3,0] rfl ?_
  simp only [List.cons_append, List.nil_append]
  refine g_grp (grok C _ _ 0 (Nat.le_refl _) hl _ _ j (VS_beg hl hi) (by omega) (Nat.le_refl _)) rfl rfl rfl (fun M5 E5 hs5 => ?_)
  refine ntso_ ?_
  refine xg 1 [4] rfl (by omega) ?_
  refine g_stN 6 rfl rfl rfl (by kernel_rfl) rfl rfl rfl rfl ?_
  simp only [List.set_cons_zero, List.set_cons_succ]
  refine xg 1 [] rfl rfl ?_
  refine n_ (t_ (g_ret (g_in_ret (g_then_ret (g_then_ret (g_in_ret (g_then_ret ?_)))))))
  refine g_end_cell2 6 Try.results14 rfl rfl rfl Try.isAgg36 Try.sizeOf36 rfl ?_
  rw [find_some (fr := (f0 : Int)) (c := i) (j := j) ⟨by omega, by omega, by omega⟩ hi hff hlv]
  rw [← gS_beg hl]
  exact fun w hS => ⟨rfl, hS.below⟩
 refine g_cond_f rfl (g_exit (g_then_exit (g_then_exit (g_in_exit (t_ (s_ (o_ ?_)))))))
 refine xg 3 [0] rfl (by omega) ?_
 refine n_ (t_ (g_ret ?_))
 refine g_end_cell2 0 Try.results14 rfl rfl rfl Try.isAgg36 Try.sizeOf36 rfl ?_
 rw [find_none (fr := (f0 : Int)) (c := i) (by omega) hff]
 exact fun w hS => ⟨rfl, hS.below⟩

end Go.Proofs.Ytfcamlkbkehlnaa

/- Find and Is of any tree; slices do not matter. -/
namespace Go.Proofs.Ytfcamlkbkehlnaa
open Go Go.RowKit

mutual
theorem gM_er (x : Tx) : ∀ (t : MT) (i j : Nat) (m : Spn), gM x (er t) i j m = gM x t i j m
  | .mk k s mi ma nu v q, i, j, m => by
    rw [er_mk, gM_mk, gM_mk, gRow_er x q, gAny_er x q, gKid_er x q]
    have e1 : (fun a b => mKid x (erL q) a b) = fun a b => mKid x q a b := by funext a b; exact mKid_er x q a b
    have e2 : (fun a b m => gKid x (erL q) a b m) = fun a b m => gKid x q a b m := by funext a b m; exact gKid_er x q a b m
    rw [e1, e2]
theorem gRow_er (x : Tx) : ∀ (q : List MT) (i j : Nat) (m : Spn), gRow x (erL q) i j m = gRow x q i j m
  | [], i, j, m => by rw [erL_nil]
  | t :: q, i, j, m => by
    rw [erL_cons, gRow_cons, gRow_cons]
    have e : (fun k => mM x (er t) i k && mRow x (erL q) k j) = fun k => mM x t i k && mRow x q k j := by funext k; rw [mM_er x t, mRow_er x q]
    rw [e]
    split
    · rw [gM_er x t, gRow_er x q]
    · rfl
theorem gAny_er (x : Tx) : ∀ (q : List MT) (i j : Nat) (m : Spn), gAny x (erL q) i j m = gAny x q i j m
  | [], i, j, m => by rw [erL_nil]
  | t :: q, i, j, m => by rw [erL_cons, gAny_cons, gAny_cons, mM_er x t, gM_er x t, gAny_er x q]
theorem gKid_er (x : Tx) : ∀ (q : List MT) (i j : Nat) (m : Spn), gKid x (erL q) i j m = gKid x q i j m
  | [], i, j, m => by rw [erL_nil]
  | t :: q, i, j, m => by rw [erL_cons, gKid_cons, gKid_cons, gM_er x t]
end
theorem findF_er (x : Tx) (t : MT) : ∀ (f i : Nat), findF x (er t) f i = findF x t f i
  | 0, _ => rfl
  | f + 1, i => by
    rw [findF, findF, findF_er x t f]
    have e : (fun j => mM x (er t) i j) = fun j => mM x t i j := by funext j; exact mM_er x t i j
    rw [e]
theorem findR_er (x : Tx) (t : MT) (fr : Int) : findR x (er t) fr = findR x t fr := by
  unfold findR
  rw [findF_er]
  split
  · split
    · rw [gM_er]
    · rfl
  · rfl
theorem rd_v {w : World} {t : MT} (h : t.rd w) : ∃ k s mi ma nu p c q, t = .mk k s mi ma nu (.slice p q.length c) q := by
  cases t with | mk k s mi ma nu v q =>
  obtain ⟨⟨p, c, rfl, _⟩, _⟩ := rd_mk.1 h
  exact ⟨k, s, mi, ma, nu, p, c, q, rfl⟩
theorem find_t (tx : Tx) (t : MT) (fr : Int) (hx : tx.n ≤ 1000000) (hle : wT t ≤ 1000000) (w : World) (hok : t.rd w) : Calls Try.prog 14 #[.agg (nC t).toArray, st8 tx.l, .int .i64 fr, .bool tx.bg] w fun e w' => e = .returned (.tuple #[.agg (spC (findR tx t fr).1).toArray, .bool (findR tx t fr).2]) ∧ Below w.heap.size w w' := by
  obtain ⟨k, s, mi, ma, nu, p, c, q, rfl⟩ := rd_v hok
  exact find_any tx k s mi ma nu p c q fr hx hle w hok
theorem is_t (tx : Tx) (t : MT) (fr to : Int) (hx : tx.n ≤ 1000000) (hle : wT t ≤ 1000000) (w : World) (hok : t.rd w) : Calls Try.prog 20 #[.agg (nC t).toArray, st8 tx.l, .int .i64 fr, .int .i64 to, .bool tx.bg] w fun e w' => e = .returned (.bool (isS tx t fr to)) ∧ Below w.heap.size w w' := by
  obtain ⟨k, s, mi, ma, nu, p, c, q, rfl⟩ := rd_v hok
  exact is_any2 tx k s mi ma nu p c q fr to hx hle w hok
theorem m_find (tx : Tx) (t : MT) (fr : Int) (hx : tx.n ≤ 1000000) (hle : wT t ≤ 1000000) : Meets Try.prog (fun w => t.rd w) 14 [.agg (nC t).toArray, st8 tx.l, .int .i64 fr, .bool tx.bg] (fun _ : Unit => .tuple #[.agg (spC (findR tx t fr).1).toArray, .bool (findR tx t fr).2]) [] (fun _ => []) := meets1 Try.call14 (fun w hI => find_t tx t fr hx hle w hI)
theorem m_is (tx : Tx) (t : MT) (fr to : Int) (hx : tx.n ≤ 1000000) (hle : wT t ≤ 1000000) : Meets Try.prog (fun w => t.rd w) 20 [.agg (nC t).toArray, st8 tx.l, .int .i64 fr, .int .i64 to, .bool tx.bg] (fun _ : Unit => .bool (isS tx t fr to)) [] (fun _ => []) := meets1 Try.call20 (fun w hI => is_t tx t fr to hx hle w hI)
theorem forest_rd {W0 w : World} {F : List Nat} {L : List Ent} {t : MT} {ts : List MT} {i : Nat} (hS : St W0 F L w) (hi : L[i]? = some (.forest (t :: ts))) : t.rd w := (MT.ok_rd t (okL_cons.1 (hS.get hi)).1).1

end Go.Proofs.Ytfcamlkbkehlnaa

/- Tables: rows of truths. -/
namespace Go.Proofs.Ytfcamlkbkehlnaa
open Go Go.RowKit

def rowB (c : Nat → Bool) (n : Nat) : List Value := (List.range n).map fun j => .bool (c j)
theorem rowB_len (c : Nat → Bool) (n : Nat) : (rowB c n).length = n := by simp [rowB]
theorem rowB_get (c : Nat → Bool) {n j : Nat} (h : j < n) : (rowB c n)[j]? = some (.bool (c j)) := by simp [rowB, List.getElem?_map, List.getElem?_range h]
theorem rowB_congr {c d : Nat → Bool} {n : Nat} (h : ∀ j, j < n → c j = d j) : rowB c n = rowB d n := List.map_congr_left fun j hj => by rw [h j (List.mem_range.1 hj)]
theorem rowB_set {c d : Nat → Bool} {n j : Nat} {b : Bool} (h1 : d j = b) (h2 : ∀ k, k ≠ j → d k = c k) : (rowB c n).set j (.bool b) = rowB d n := by
  refine List.ext_getElem? fun k => ?_
  rw [List.getElem?_set, rowB_len]
  by_cases hk : k < n
  · rw [rowB_get d hk]
    by_cases e : j = k
    · subst e; rw [if_pos rfl, if_pos hk, h1]
    · rw [if_neg e, rowB_get c hk, h2 k (fun q => e q.symm)]
  · rw [List.getElem?_eq_none (l := rowB d n) (by rw [rowB_len]; omega)]
    by_cases e : j = k
    · subst e; rw [if_pos rfl, if_neg hk]
    · rw [if_neg e, List.getElem?_eq_none (by rw [rowB_len]; omega)]
/-- One truth of a table is set. -/
def upT (c : Nat → Nat → Bool) (i j : Nat) (b : Bool) : Nat → Nat → Bool := fun a k => if a = i ∧ k = j then b else c a k
def brsOk (gs : List Nat) (n : Nat) (c : Nat → Nat → Bool) (w : World) : Prop := gs.Nodup ∧ ∀ i g, gs[i]? = some g → w.ownsRow 0 4 1 (slW n g) n (rowB (c i) n)
/-- A table's rows. -/
def Ent.brs (gs : List Nat) (n : Nat) (c : Nat → Nat → Bool) : Ent := .own {
  fp := gs
  holds := brsOk gs n c
  stable := fun w w' hk h => ⟨h.1, fun i g hi => ownsRow_stable (fun k hk' => hk k (by
    have : k = g := by simpa [Value.ownBlock] using hk'
    subst this; exact List.mem_of_getElem? hi)) (h.2 i g hi)⟩
  inb := fun w h k hk => by
    obtain ⟨i, hi⟩ := List.getElem?_of_mem hk
    exact ((h.2 i k hi).lt k (by simp [Value.ownBlock])).2 }
/-- A table's value: block, capacity; the rows' blocks. -/
structure TbX where
  tb : Nat
  tc : Nat
  gs : List Nat
def TbX.v (x : TbX) (n : Nat) : Value := .slice (some ⟨x.tb, 0, none⟩) n x.tc
abbrev TbX.o (x : TbX) (n : Nat) : Ent := .row 75 1 (x.v n) n (x.gs.map (slW n))
theorem gt_get {gs : List Nat} {n i : Nat} (h : i < gs.length) : (gs.map (slW n))[i]? = some (slW n (gs.getD i 0)) := by
  rw [List.getElem?_map, List.getElem?_eq_getElem h, List.getD_eq_getElem?_getD, List.getElem?_eq_getElem h]; rfl
theorem gt_at {gs : List Nat} {i : Nat} (h : i < gs.length) : gs[i]? = some (gs.getD i 0) := by
  rw [List.getD_eq_getElem?_getD, List.getElem?_eq_getElem h]; rfl
theorem nodup_inj {gs : List Nat} (h : gs.Nodup) {p i g : Nat} (hp : gs[p]? = some g) (hi : gs[i]? = some g) : p = i := by
  have h3 := List.getElem?_eq_some_iff.1 hp
  have h4 := List.getElem?_eq_some_iff.1 hi
  rcases Nat.lt_trichotomy p i with q | q | q
  · exact absurd (h3.2.trans h4.2.symm) (List.pairwise_iff_getElem.1 h p i h3.1 h4.1 q)
  · exact q
  · exact absurd (h4.2.trans h3.2.symm) (List.pairwise_iff_getElem.1 h i p h4.1 h3.1 q)
/-- A table that can be read. -/
structure RdT (w : World) (n : Nat) (x : TbX) (c : Nat → Nat → Bool) : Prop where
  len : x.gs.length = n
  pos : 0 < n
  o : RdSl w (some ⟨x.tb, 0, none⟩) n 1 (fun i _ => slW n (x.gs.getD i 0))
  i : ∀ i, i < n → RdSl w (some ⟨x.gs.getD i 0, 0, none⟩) n 1 (fun j _ => .bool (c i j))
theorem made_bool (n : Nat) : (madeCells (Value.bool false).cells (n * 1)).toList = rowB (fun _ => false) n := by
  refine List.ext_getElem? fun j => ?_
  by_cases h : j < n
  · rw [rowB_get _ h]
    simp [madeCells, Value.cells, h, Nat.mod_one]
  · rw [List.getElem?_eq_none (by simp [madeCells]; omega), List.getElem?_eq_none (by rw [rowB_len]; omega)]
section
variable {P : Program} {N : Nat} {R : Regs} {S : World → Prop} {Q : Exit → Act → World → Prop} {ops : Array Oper} {rest : List Oper} {W0 : World} {F : List Nat} {L Lr : List Ent} {X : Act → World → Prop}
variable {dst : Option Tmp} {ty t t' k e : TypeId} {pos : String} {af : Array Edge} {gd : Option (Nat × Bool)} {x y z : Operand} {o : Oper}
theorem g_makeB {d c : Nat} {u : Int} {i : TypeInfo} (hw : want ops R ⟨some d, .makeSlice t x y, ty, pos, af, gd⟩ = some true) (hN : Nat.blt d N = true) (hx : ev R x = some (.int .i64 u)) (hy : ev R y = some (.int .i64 u)) (hu : u = (c : Int))
    (ht : P.underlying t = some (.slice e)) (hi : P.info? e = some i) (hz : i.zero = some (.bool false)) (hs : i.size = 1) (hb : i.bytes = 1) (hc : c ≤ 1000000)
    (h : ∀ g, G N ((d, .slice (some ⟨g, 0, none⟩) c c) :: R) (St W0 F (.row e 1 (.slice (some ⟨g, 0, none⟩) c c) c (rowB (fun _ => false) c) :: L)) (wpList P ops Q rest)) : G N R (St W0 F L) (wpList P ops Q (⟨some d, .makeSlice t x y, ty, pos, af, gd⟩ :: rest)) :=
  g_one hw fun K a w hR hS hK => by
    subst hu
    have hm : maxLen = 9223372036854775807 := rfl
    obtain ⟨w', h1, h2, h3⟩ := run_makeSlice_full (P := P) (w := w) 0 t e i _ 1 ht hi hz hs .i64 .i64 c (by omega) (by rw [hb]; omega) (by omega) (Nat.zero_le _)
    rw [made_bool] at h2
    refine Oper.wp_ok (w' := w') (v := .slice (some ⟨w.heap.size, 0, none⟩) c c) (by simp [execOp, hR.eval hx, hR.eval hy, Sem.run_bind, h1]) (hK _ _ (h w.heap.size _ _ (hR.put hN) ?_))
    obtain ⟨g1, g2, g3, g4, g5⟩ := h3
    have hold : ∀ j, j < w.heap.size → w'.heap[j]? = w.heap[j]? := fun j hj => g5 j hj (by simp)
    refine ⟨by rw [g1]; exact hS.os, by rw [g2]; exact hS.tape, by rw [g3]; exact hS.output, by have := hS.size; omega, fun j hj hF => ?_, fun u hu => ?_, fun u hu j hj => ?_, ?_⟩
    · rw [hold j (by have := hS.size; omega)]; exact hS.keep j hj hF
    · rcases List.mem_cons.1 hu with rfl | hu
      · exact h2
      · exact u.stable w _ (fun j hj => hold j (u.inb w (hS.ok u hu) j hj)) (hS.ok u hu)
    · rcases List.mem_cons.1 hu with rfl | hu
      · have : j = w.heap.size := by simpa [Ent.row, Ent.fp, Value.ownBlock] using hj
        subst this; exact .inl hS.size
      · exact hS.own u hu j hj
    · refine List.pairwise_cons.2 ⟨fun u hu j hj hj' => ?_, hS.apart⟩
      have : j = w.heap.size := by simpa [Ent.row, Ent.fp, Value.ownBlock] using hj
      subst this
      exact Nat.lt_irrefl _ (u.inb w (hS.ok u hu) _ hj')
variable {n : Nat} {T : TbX} {gs : List Nat} {c d : Nat → Nat → Bool}
theorem g_brs0 (n : Nat) (c : Nat → Nat → Bool) (h : G N R (St W0 F (.brs [] n c :: L)) X) : G N R (St W0 F L) X := h.weaken fun w hS =>
  ⟨hS.os, hS.tape, hS.output, hS.size, hS.keep, fun e he => (List.mem_cons.1 he).elim (fun q => by subst q; exact (show brsOk [] n c w from ⟨List.nodup_nil, fun i g hi => by simp at hi⟩)) (hS.ok e), fun e he k hk => (List.mem_cons.1 he).elim (fun q => by subst q; exact absurd (show k ∈ ([] : List Nat) from hk) List.not_mem_nil) (fun q => hS.own e q k hk),
    List.pairwise_cons.2 ⟨fun y _ k hk => absurd (show k ∈ ([] : List Nat) from hk) List.not_mem_nil, hS.apart⟩⟩
theorem g_brsAdd {g : Nat} (h : G N R (St W0 F (.brs (gs ++ [g]) n c :: Lr)) X) : G N R (St W0 F (.brs gs n c :: .row 4 1 (slW n g) n (rowB (c gs.length) n) :: Lr)) X := fun a w hR hS => by
  have hne : g ∉ gs := fun hm => (List.pairwise_cons.1 hS.apart).1 _ (List.mem_cons_self ..) g hm (by show g ∈ (slW n g).ownBlock.toList; simp [Value.ownBlock])
  refine (g_merge (e1 := .brs gs n c) (e2 := .row 4 1 (slW n g) n (rowB (c gs.length) n)) (.brs (gs ++ [g]) n c) (fun w h1 h2 => ?_) (fun k hk => ?_) h) a w hR hS
  · have h3 := (show brsOk gs n c w from h1).1
    have h4 := (show brsOk gs n c w from h1).2
    refine ⟨List.nodup_append.2 ⟨h3, by simp, fun a ha b hb => ?_⟩, fun i g' hi => ?_⟩
    · obtain rfl := List.mem_singleton.1 hb
      exact fun q => hne (q ▸ ha)
    · rw [List.getElem?_append] at hi
      split at hi
      · exact h4 i g' hi
      · rename_i hlt
        have : i = gs.length := by
          have := (List.getElem?_eq_some_iff.1 hi).1
          simp at this; omega
        subst this
        simp at hi
        subst hi
        exact h2
  · rcases List.mem_append.1 (show k ∈ gs ++ [g] from hk) with q | q
    · exact .inl q
    · obtain rfl := List.mem_singleton.1 q
      exact .inr (by show k ∈ (slW n k).ownBlock.toList; simp [Value.ownBlock])
theorem brs_congr {w : World} (h : ∀ i j, i < gs.length → j < n → c i j = d i j) (hb : brsOk gs n c w) : brsOk gs n d w :=
  ⟨hb.1, fun i g hi => by rw [← rowB_congr fun j hj => h i j (List.getElem?_eq_some_iff.1 hi).1 hj]; exact hb.2 i g hi⟩
/-- The rows of a table, by other truths that are the same. -/
theorem g_brsEq (i : Nat) (hi : L[i]? = some (.brs gs n c)) (h0 : ∀ i j, i < gs.length → j < n → c i j = d i j) (h : G N R (St W0 F (L.set i (.brs gs n d))) X) : G N R (St W0 F L) X :=
  g_turn (e' := .brs gs n d) i hi (fun w hb => (show brsOk gs n d w from brs_congr h0 hb)) (fun _ hk => hk) h
theorem y_ldB {i j g : Nat} (q : Nat) (hx : ev R x = some (.pointer (some ⟨g, j, none⟩))) (ha : ∀ w, (isAgg t).run P w = .ok false w) (hi : L[q]? = some (.brs gs n c)) (hg : gs[i]? = some g) (hj : j < n) : Yv P N R (St W0 F L) ⟨dst, .load t x, ty, pos, af, gd⟩ (.bool (c i j)) :=
  y_load1 hx ha fun w hS => row_cell ((hS.get hi : brsOk gs n c w).2 i g hg) (rowB_get (c i) hj)
theorem g_stB {i j g : Nat} {b : Bool} (q : Nat) (hw : want ops R ⟨none, .store t x y, ty, pos, af, gd⟩ = some true) (hx : ev R x = some (.pointer (some ⟨g, j, none⟩))) (hy : ev R y = some (.bool b)) (hz : ∀ w, (sizeOf t).run P w = .ok 1 w)
    (hi : L[q]? = some (.brs gs n c)) (hg : gs[i]? = some g) (hj : j < n) (h : G N R (St W0 F (L.set q (.brs gs n (upT c i j b)))) (wpList P ops Q rest)) : G N R (St W0 F L) (wpList P ops Q (⟨none, .store t x y, ty, pos, af, gd⟩ :: rest)) :=
  g_one hw fun K a w hR hS hK => by
    have hb : brsOk gs n c w := hS.get hi
    have ho := hb.2 i g hg
    have hcell : w.cell? ⟨g, j, none⟩ = some (.bool (c i j)) := row_cell ho (rowB_get (c i) hj)
    obtain ⟨hlen, h2 | ⟨g', cap, cur, q1, q2, q3, q4, q5, q6, q7⟩⟩ := ho
    · cases h2.1
    · have hgg : g = g' := by cases q1; rfl
      subst hgg
      have hoth : ∀ k, k ≠ g → (w.setCell ⟨g, j, none⟩ (.bool b)).heap[k]? = w.heap[k]? := fun k hk => Below.heap_setCell _ _ _ _ hk
      refine Oper.wp_skip (w' := w.setCell ⟨g, j, none⟩ (.bool b)) ?_ (hK _ _ (h _ _ hR (hS.write hi rfl rfl rfl (by simp [World.setCell]) (fun k _ hk => hoth k fun e => hk ?_) ?_ (fun k hk => .inl hk))))
      · have hfz : w.frozen? ⟨g, j, none⟩ = false := by simp [World.frozen?, q3]
        have e0 : (⟨g, j, none⟩ : Addr).add 0 = ⟨g, j, none⟩ := by simp [Addr.add]
        have h1 : (Value.bool b).oneCell' = true := rfl
        have hc : (Value.bool b).cells = #[.bool b] := rfl
        simp [execOp, hR.eval hx, hR.eval hy, Sem.run_bind, Instr.storeAt, Instr.sureAddr, storeVar, hz, hc, storeCells, e0, run_store P w _ (.bool b) .plain h1, hcell, hfz]
      · subst e; exact List.mem_of_getElem? hg
      · refine ⟨hb.1, fun p g' hp => ?_⟩
        by_cases e : p = i
        · subst e
          rw [hg] at hp; cases hp
          refine ⟨by rw [rowB_len]; omega, .inr ⟨g, n, cur.setIfInBounds j (.bool b), rfl, q2, heap_setCell_same w g j cur 4 (.bool b) q3, Nat.le_refl _, ?_, ?_, ?_⟩⟩
          · cases q1; exact q5
          · cases q1; simpa using q6
          · rw [Array.toList_setIfInBounds, List.take_set, q7]
            exact rowB_set (by unfold upT; rw [if_pos ⟨rfl, rfl⟩]) (fun k hk => by unfold upT; rw [if_neg fun h => hk h.2])
        · have hne : g' ≠ g := fun h => by
            subst h
            exact e (nodup_inj hb.1 hp hg)
          have h5 := ownsRow_stable (w' := w.setCell ⟨g, j, none⟩ (.bool b)) (fun k hk => hoth k fun h => hne ?_) (hb.2 p g' hp)
          · rw [rowB_congr (d := upT c i j b p) fun k _ => by unfold upT; rw [if_neg fun h => e h.1]] at h5
            exact h5
          · have : k = g' := by simpa [Value.ownBlock] using hk
            rw [← this, h]
theorem y_rtO {i : Nat} (hr : RdT W0 n T c) (hF : T.tb ∉ F) (hx : ev R x = some (.pointer (some ⟨T.tb, i, none⟩))) (ha : ∀ w, (isAgg t).run P w = .ok false w) (hi : i < n) : Yv P N R (St W0 F L) ⟨dst, .load t x, ty, pos, af, gd⟩ (slW n (T.gs.getD i 0)) :=
  y_load1 hx ha fun w hS => by have := rd_cellF hr.o hF (j := 0) hi (by decide) w hS; simpa [Addr.add_mid] using this
theorem y_rtI {i j : Nat} (hr : RdT W0 n T c) (hF : T.gs.getD i 0 ∉ F) (hx : ev R x = some (.pointer (some ⟨T.gs.getD i 0, j, none⟩))) (ha : ∀ w, (isAgg t).run P w = .ok false w) (hi : i < n) (hj : j < n) : Yv P N R (St W0 F L) ⟨dst, .load t x, ty, pos, af, gd⟩ (.bool (c i j)) :=
  y_load1 hx ha fun w hS => by have := rd_cellF (hr.i i hi) hF (j := 0) hj (by decide) w hS; simpa [Addr.add_mid] using this
end
theorem RdT.keep {w w' : World} {n : Nat} {x : TbX} {c : Nat → Nat → Bool} {L : List Ent} (h : RdT w n x c) (hS : St w [] L w') : RdT w' n x c :=
  ⟨h.len, h.pos, rd_keepF h.o List.not_mem_nil hS, fun i hi => rd_keepF (h.i i hi) List.not_mem_nil hS⟩
/-- A table that is owned can be read. -/
theorem rt_of {W0 w : World} {F : List Nat} {L : List Ent} {n : Nat} {x : TbX} {c : Nat → Nat → Bool} (i j : Nat) (hS : St W0 F L w) (hn : 0 < n) (hl : x.gs.length = n) (hi : L[i]? = some (x.o n)) (hj : L[j]? = some (.brs x.gs n c)) : RdT w n x c := by
  have ho : w.ownsRow 0 75 1 (x.v n) n (x.gs.map (slW n)) := hS.get hi
  have hb : brsOk x.gs n c w := hS.get hj
  refine ⟨hl, hn, ⟨fun _ => rfl, fun _ => (ho.lt x.tb (by simp [Value.ownBlock, TbX.v])).2, fun p q hp hq => ?_⟩, fun p hp => ⟨fun _ => rfl, fun _ => ?_, fun q r hq hr => ?_⟩⟩
  · obtain rfl : q = 0 := by omega
    have := row_cell ho (gt_get (n := n) (i := p) (by omega))
    simpa [Addr.add_mid] using this
  · exact ((hb.2 p _ (gt_at (by omega))).lt (x.gs.getD p 0) (by simp [Value.ownBlock])).2
  · obtain rfl : r = 0 := by omega
    have := row_cell (hb.2 p _ (gt_at (by omega))) (rowB_get (c p) hq)
    simpa [Addr.add_mid] using this

theorem gt_snoc {n g : Nat} {gs : List Nat} : gs.map (slW n) ++ [slW n g] = (gs ++ [g]).map (slW n) := by rw [List.map_append]; rfl
set_option maxRecDepth 100000 in
theorem empty_any (n : Nat) (hn : n ≤ 100000) (w : World) :
    Calls Try.prog 47 #[.int .i64 (n : Int)] w fun e w' => ∃ y : {y : TbX // y.gs.length = n + 1}, e = .returned (y.1.v (n + 1)) ∧ St w [] [y.1.o (n + 1), .brs y.1.gs (n + 1) (fun _ _ => false)] w' := by
 refine fn_intro Try.func47 rfl Try.ntmps47 rfl rfl ?_
 refine s_ (o_ ?_)
 refine xg 1 [] rfl rfl ?_
 refine ntso_ ?_
 refine g_nilRow 75 1 ?_
 refine g_brs0 (n + 1) (fun _ _ => false) ?_
 refine g_val rfl rfl rfl (y_assign rfl) ?_
 refine n_ (t_ (s_ (s_ (o_ ?_))))
 refine xg 1 [] rfl rfl ?_
 refine n_ (t_ (g_block ?_))
 refine g_loop (α := {x : Nat × Value × List Nat // x.1 ≤ n + 1 ∧ x.2.2.length = x.1}) (fun x => [(0, .int .i64 (n : Int)), (3, x.1.2.1), (4, .int .i64 (x.1.1 : Int))]) (fun x => St w [] [.brs x.1.2.2 (n + 1) (fun _ _ => false), .row 75 1 x.1.2.1 x.1.1 (x.1.2.2.map (slW (n + 1)))]) (fun x => n + 1 - x.1.1) ⟨(0, Value.slice none 0 0, []), Nat.zero_le _, rfl⟩ [0, 3, 4] rfl (fun w h => h.pick [0,0] rfl) ?_
 rintro ⟨⟨i, v1, gs⟩, hi, hgl⟩
 dsimp only
 dsimp only at hi hgl
 refine s_ (s_ (o_ ?_))
 refine xg 3 [0] rfl rfl ?_
 refine n_ (t_ ?_)
 refine g_casep 7 rfl (fun h1 => ?_) fun h1 => ?_
 ·refine g_cond_t rfl (g_skip (t_ (s_ (g_block (o_ ?_)))))
  refine xg 3 [] rfl (by omega) ?_
  refine g_makeB (c := n + 1) rfl rfl rfl rfl (by omega) Try.underlying75 rfl rfl rfl rfl (by omega) (fun gn => ?_)
  refine g_buildSlice (offs := [0]) rfl rfl Try.underlying73 rfl Try.zeroValue75 (by kernel_rfl) (fun b1 => ?_)
  refine g_append (size := 1) (bytes := 24) (news := [slW (n + 1) gn]) 3 rfl rfl rfl rfl Try.underlying73 (by kernel_rfl) rfl rfl (news_of_cells (j := 0) rfl) rfl (by omega) (by have : maxLen = 9223372036854775807 := rfl; omega) (fun v2 => ?_)
  simp only [List.set_cons_zero, List.set_cons_succ]
  rw [gt_snoc]
  refine g_ahead [2,1] rfl ?_
  simp only [List.cons_append, List.nil_append]
  refine g_brsAdd (gs := gs) (c := fun _ _ => false) ?_
  refine xg 1 [] rfl rfl ?_
  refine n_ (g_in_normal (t_ (o_ ?_)))
  refine xg 3 [] rfl (by omega) ?_
  refine n_ ?_
  exact g_again ⟨(i + 1, v2, gs ++ [gn]), by dsimp only; omega, by dsimp only; rw [List.length_append, hgl]; rfl⟩ [0, 3, 4] (by dsimp only; omega) rfl (fun w h => h.pick [0,1] rfl)
 refine g_cond_f rfl (g_exit (g_then_exit (g_then_exit (g_in_exit (t_ (s_ ?_))))))
 obtain rfl : i = n + 1 := by omega
 refine g_rowCase 1 rfl (by omega) (fun tb tc hv => ?_)
 subst hv
 refine o_ ?_
 refine xg 2 [] rfl rfl ?_
 refine n_ (t_ (g_ret ?_))
 refine g_end1 Try.results47 rfl ?_
 exact fun w hS => ⟨⟨⟨tb, tc, gs⟩, hgl⟩, rfl, hS.pick [1,0] rfl⟩

end Go.Proofs.Ytfcamlkbkehlnaa

/- Tables: one behind the other. -/
namespace Go.Proofs.Ytfcamlkbkehlnaa
open Go Go.RowKit

/-- a, and then b. -/
def thC (n : Nat) (a b : Nat → Nat → Bool) (i r : Nat) : Bool := (List.range (n + 1)).any fun m => decide (i ≤ m) && decide (m ≤ r) && a i m && b m r
def thS (n : Nat) (a b : Nat → Nat → Bool) (i k j : Nat) : Nat → Nat → Bool := fun p r =>
  if p < i then thC n a b p r else if p = i then ((List.range k).any fun m => decide (i ≤ m) && decide (m ≤ r) && a i m && b m r) || (decide (k ≤ r) && decide (r < j) && a i k && b k r) else false
section
variable {n i k j p r : Nat} {a b : Nat → Nat → Bool} {v : Bool}
theorem th_step (hik : i ≤ k) (hkj : k ≤ j) (ha : a i k = true) (hv : v = (thS n a b i k j i j || b k j)) : upT (thS n a b i k j) i j v p r = thS n a b i k (j + 1) p r := by
  unfold upT
  by_cases h : p = i ∧ r = j
  · obtain ⟨rfl, rfl⟩ := h
    rw [if_pos ⟨rfl, rfl⟩, hv]
    unfold thS
    simp [ha, hkj]
  · rw [if_neg h]
    unfold thS
    split
    · rfl
    · split
      · rename_i hp
        have : r ≠ j := fun q => h ⟨hp, q⟩
        rw [show decide (r < j + 1) = decide (r < j) by congr 1; apply propext; omega]
      · rfl
theorem th_next (hik : i ≤ k) (h : j = n + 1 ∨ a i k = false) (hr : r < n + 1) : thS n a b i k j p r = thS n a b i (k + 1) (k + 1) p r := by
  unfold thS
  split
  · rfl
  · split
    · rw [List.range_succ, List.any_append]
      have e : (decide (k + 1 ≤ r) && decide (r < k + 1) && a i (k + 1) && b (k + 1) r) = false := by
        by_cases q : k + 1 ≤ r
        · simp [show ¬ r < k + 1 by omega]
        · simp [q]
      rw [e, Bool.or_false]
      congr 1
      rcases h with rfl | h
      · simp [hik, hr]
      · simp [h]
    · rfl
theorem th_row (h : k = n + 1) (hr : r < n + 1) : thS n a b i k j p r = thS n a b (i + 1) (i + 1) (i + 1) p r := by
  subst h
  unfold thS
  by_cases h1 : p < i
  · rw [if_pos h1, if_pos (by omega)]
  · rw [if_neg h1]
    by_cases h2 : p = i
    · subst h2
      rw [if_pos rfl, if_pos (by omega)]
      simp [show ¬ n + 1 ≤ r by omega, thC]
    · rw [if_neg h2, if_neg (by omega)]
      split
      · rename_i h3
        subst h3
        have e : ((List.range (i + 1)).any fun m => decide (i + 1 ≤ m) && decide (m ≤ r) && a (i + 1) m && b m r) = false := by
          rw [List.any_eq_false]
          intro m hm
          rw [List.mem_range] at hm
          simp [show ¬ i + 1 ≤ m by omega]
        rw [e]
        by_cases q : i + 1 ≤ r
        · simp [show ¬ r < i + 1 by omega]
        · simp [q]
      · rfl
theorem th_done (h : i = n + 1) (hp : p < n + 1) : thS n a b i k j p r = thC n a b p r := by
  unfold thS
  rw [if_pos (by omega)]
theorem th_zero : thS n a b 0 0 0 p r = false := by
  unfold thS
  rw [if_neg (by omega)]
  split
  · simp
  · rfl
end

set_option maxRecDepth 100000 in
theorem then_any (n : Nat) (hn : n ≤ 100000) (A B : TbX) (a b : Nat → Nat → Bool) (w : World) (hA : RdT w (n + 1) A a) (hB : RdT w (n + 1) B b) :
    Calls Try.prog 49 #[A.v (n + 1), B.v (n + 1)] w fun e w' => ∃ y : {y : TbX // y.gs.length = n + 1}, e = .returned (y.1.v (n + 1)) ∧ St w [] [y.1.o (n + 1), .brs y.1.gs (n + 1) (thC n a b)] w' := by
 have hlA := hA.len
 have hlB := hB.len
 refine fn_intro Try.func49 rfl Try.ntmps49 rfl rfl ?_
 refine s_ (o_ ?_)
 refine xg 1 [] rfl rfl ?_
 refine ntso_ ?_
 refine xg 1 [] rfl rfl ?_
 refine g_val (v := .int .i64 ((n + 1 : Nat) : Int)) rfl rfl rfl (y_llen rfl Try.underlying73) ?_
 refine g_val (v := .int .i64 (n : Int)) rfl rfl rfl (y_val (y_isub rfl rfl) (by rw [wrap_in (by omega)]; congr 1; omega)) ?_
 refine g_callOwn (L0 := []) (fun y : {y : TbX // y.gs.length = n + 1} => y.1.v (n + 1)) (fun y => [y.1.o (n + 1), .brs y.1.gs (n + 1) (fun _ _ => false)]) rfl rfl rfl Try.call47 (fun w hS => empty_any n hn w) ?_
 rintro ⟨T, hgT⟩
 dsimp only
 simp only [List.cons_append, List.nil_append]
 refine g_brsEq (d := (thS n a b 0 0 0)) 1 rfl (fun p r hp hr => th_zero.symm) ?_
 simp only [List.set_cons_zero, List.set_cons_succ]
 refine xg 1 [] rfl rfl ?_
 refine n_ (t_ (s_ (s_ (o_ ?_))))
 refine xg 1 [] rfl rfl ?_
 refine n_ (t_ (g_block ?_))
 refine g_loop (α := {x : Nat // x ≤ n + 1}) (fun x => [(0, A.v (n + 1)), (1, B.v (n + 1)), (5, T.v (n + 1)), (6, .int .i64 (x.1 : Int))]) (fun x => St w [] [T.o (n + 1), .brs T.gs (n + 1) (thS n a b x.1 x.1 x.1)]) (fun x => n + 1 - x.1) ⟨0, Nat.zero_le _⟩ [0, 1, 5, 6] rfl (fun w h => h.pick [0,0] rfl) ?_
 rintro ⟨i, hi⟩
 dsimp only
 refine s_ (s_ (o_ ?_))
 refine xg 2 [] rfl rfl ?_
 refine g_val (v := .int .i64 ((n + 1 : Nat) : Int)) rfl rfl rfl (y_llen rfl Try.underlying73) ?_
 refine xg 1 [0] rfl rfl ?_
 refine n_ (t_ ?_)
 refine g_casep 16 rfl (fun h1 => ?_) fun h1 => ?_
 ·refine g_cond_t rfl (g_skip (t_ (s_ (g_block (s_ (o_ ?_))))))
  refine xg 2 [] rfl rfl ?_
  refine n_ (t_ (g_block ?_))
  refine g_loop (α := {x : Nat // i ≤ x ∧ x ≤ n + 1}) (fun x => [(0, A.v (n + 1)), (1, B.v (n + 1)), (5, T.v (n + 1)), (6, .int .i64 (i : Int)), (7, .int .i64 (x.1 : Int))]) (fun x => St w [] [T.o (n + 1), .brs T.gs (n + 1) (thS n a b i x.1 x.1)]) (fun x => n + 1 - x.1) ⟨i, by omega, by omega⟩ [0, 1, 5, 6, 7] rfl (fun w h => h.pick [0,0] rfl) ?_
  rintro ⟨k, hik, hk⟩
  dsimp only
  refine s_ (s_ (o_ ?_))
  refine xg 2 [] rfl rfl ?_
  refine g_val (v := .int .i64 ((n + 1 : Nat) : Int)) rfl rfl rfl (y_llen rfl Try.underlying73) ?_
  refine xg 1 [0] rfl rfl ?_
  refine n_ (t_ ?_)
  refine g_casep 23 rfl (fun h2 => ?_) fun h2 => ?_
  ·refine g_cond_t rfl (g_skip (t_ (s_ (g_block (s_ (o_ ?_))))))
   refine xg 2 [] rfl rfl ?_
   refine n_ (t_ (g_block ?_))
   refine g_loop (α := {x : Nat // k ≤ x ∧ x ≤ n + 1}) (fun x => [(0, A.v (n + 1)), (1, B.v (n + 1)), (5, T.v (n + 1)), (6, .int .i64 (i : Int)), (7, .int .i64 (k : Int)), (8, .int .i64 (x.1 : Int))]) (fun x => St w [] [T.o (n + 1), .brs T.gs (n + 1) (thS n a b i k x.1)]) (fun x => n + 1 - x.1) ⟨k, by omega, by omega⟩ [0, 1, 5, 6, 7, 8] rfl (fun w h => h.pick [0,0] rfl) ?_
   rintro ⟨j, hkj, hj⟩
   dsimp only
   refine s_ (s_ (o_ ?_))
   refine xg 2 [] rfl rfl ?_
   refine g_val (v := .int .i64 ((n + 1 : Nat) : Int)) rfl rfl rfl (y_llen rfl Try.underlying73) ?_
   refine xg 2 [0] rfl rfl ?_
   refine g_casep 31 rfl (fun h3 => ?_) fun h3 => ?_
   ·refine xg 2 [] rfl rfl ?_
    refine g_val (v := .pointer (some ⟨A.tb, i, none⟩)) rfl rfl rfl (y_idxAddr (m := i) rfl rfl Try.underlying73 Try.sizeOf75 (by omega) (by omega) (by omega)) ?_
    refine g_val (v := slW (n + 1) (A.gs.getD i 0)) rfl rfl rfl (y_rtO (i := i) hA List.not_mem_nil rfl Try.isAgg75 (by omega)) ?_
    refine xg 1 [] rfl rfl ?_
    refine g_val (v := .pointer (some ⟨A.gs.getD i 0, k, none⟩)) rfl rfl rfl (y_idxAddr (m := k) rfl rfl Try.underlying75 Try.sizeOf4 (by omega) (by omega) (by omega)) ?_
    refine g_val (v := .bool (a i k)) rfl rfl rfl (y_rtI (i := i) (j := k) hA List.not_mem_nil rfl Try.isAgg4 (by omega) (by omega)) ?_
    refine xg 1 [] rfl rfl ?_
    refine n_ (t_ ?_)
    first | refine g_casep 39 rfl (fun h4 => ?_) fun h4 => ?_ | refine g_caseb 39 rfl (fun h4 => ?_) fun h4 => ?_
    ·refine g_cond_t rfl (g_skip (t_ (s_ (g_block ?_))))
     have ha : a i k = true := by simpa using ‹a i k = true›
     cases hc : thS n a b i k j i j
     ·refine k_go [0] rfl (by kernel_rfl) (fun _ _ _ _ _ h => h) fun hQ => ?_
      refine k_x 0 [0] [] hQ (by kernel_rfl) rfl rfl rfl rfl rfl rfl ?_
      refine k_x 1 [0] [] hQ (by kernel_rfl) rfl rfl rfl rfl rfl rfl ?_
      refine k_take (v := .pointer (some ⟨T.tb, i, none⟩)) 2 rfl (by kernel_rfl) hQ rfl rfl rfl (fun _ h => h.pick [0] rfl) (y_idxAddr (m := i) rfl rfl Try.underlying73 Try.sizeOf75 (by omega) (by omega) (by omega)) ?_
      refine k_take (v := slW (n + 1) (T.gs.getD i 0)) 3 rfl (by kernel_rfl) hQ rfl rfl rfl (fun _ h => h.pick [0] rfl) (y_ldR (off := i) 0 rfl Try.isAgg75 rfl (gt_get (n := n + 1) (by omega))) ?_
      refine k_x 4 [0] [] hQ (by kernel_rfl) rfl rfl rfl rfl rfl rfl ?_
      refine k_x 5 [0] [] hQ (by kernel_rfl) rfl rfl rfl rfl rfl rfl ?_
      refine k_x 6 [0] [] hQ (by kernel_rfl) rfl rfl rfl rfl rfl rfl ?_
      refine k_take (v := .pointer (some ⟨T.tb, i, none⟩)) 7 rfl (by kernel_rfl) hQ rfl rfl rfl (fun _ h => h.pick [0] rfl) (y_idxAddr (m := i) rfl rfl Try.underlying73 Try.sizeOf75 (by omega) (by omega) (by omega)) ?_
      refine k_take (v := slW (n + 1) (T.gs.getD i 0)) 8 rfl (by kernel_rfl) hQ rfl rfl rfl (fun _ h => h.pick [0] rfl) (y_ldR (off := i) 0 rfl Try.isAgg75 rfl (gt_get (n := n + 1) (by omega))) ?_
      refine k_x 9 [0] [] hQ (by kernel_rfl) rfl rfl rfl rfl rfl rfl ?_
      refine k_take (v := .pointer (some ⟨T.gs.getD i 0, j, none⟩)) 10 rfl (by kernel_rfl) hQ rfl rfl rfl (fun _ h => h.pick [0] rfl) (y_idxAddr (m := j) rfl rfl Try.underlying75 Try.sizeOf4 (by omega) (by omega) (by omega)) ?_
      refine k_one 11 (by kernel_rfl) ?_
      refine k_op 11 rfl ?_
      refine g_val (v := .bool false) rfl rfl rfl (y_val (y_ldB (i := i) (j := j) 1 rfl Try.isAgg4 rfl (gt_at (by omega)) (by omega)) (by rw [hc])) ?_
      refine n_ ?_
      refine k_end (fun _ h => h.pick [0] rfl) ?_
      refine k_x 12 [0] [] hQ (by kernel_rfl) rfl rfl rfl rfl rfl rfl ?_
      refine k_x 13 [0] [] hQ (by kernel_rfl) rfl rfl rfl rfl rfl rfl ?_
      refine k_x 14 [0] [] hQ (by kernel_rfl) rfl rfl rfl rfl rfl rfl ?_
      refine k_take (v := .pointer (some ⟨B.tb, k, none⟩)) 15 rfl (by kernel_rfl) hQ rfl rfl rfl (fun _ h => h.pick [0] rfl) (y_idxAddr (m := k) rfl rfl Try.underlying73 Try.sizeOf75 (by omega) (by omega) (by omega)) ?_
      refine k_take (v := slW (n + 1) (B.gs.getD k 0)) 16 rfl (by kernel_rfl) hQ rfl rfl rfl (fun _ h => h.pick [0] rfl) (y_rtO (i := k) hB List.not_mem_nil rfl Try.isAgg75 (by omega)) ?_
      refine k_x 17 [0] [] hQ (by kernel_rfl) rfl rfl rfl rfl rfl rfl ?_
      refine k_take (v := .pointer (some ⟨B.gs.getD k 0, j, none⟩)) 18 rfl (by kernel_rfl) hQ rfl rfl rfl (fun _ h => h.pick [0] rfl) (y_idxAddr (m := j) rfl rfl Try.underlying75 Try.sizeOf4 (by omega) (by omega) (by omega)) ?_
      refine k_take (v := .bool (b k j)) 19 rfl (by kernel_rfl) hQ rfl rfl rfl (fun _ h => h.pick [0] rfl) (y_rtI (i := k) (j := j) hB List.not_mem_nil rfl Try.isAgg4 (by omega) (by omega)) ?_
      refine k_x 20 [0] [] hQ (by kernel_rfl) rfl rfl rfl rfl rfl rfl ?_
      refine k_take (v := .pointer (some ⟨T.gs.getD i 0, j, none⟩)) 21 rfl (by kernel_rfl) hQ rfl rfl rfl (fun _ h => h.pick [0] rfl) (y_idxAddr (m := j) rfl rfl Try.underlying75 Try.sizeOf4 (by omega) (by omega) (by omega)) ?_
      refine k_one 22 (by kernel_rfl) ?_
      refine k_op 22 rfl ?_
      refine g_stB (i := i) (j := j) 1 rfl rfl rfl Try.sizeOf4 rfl (gt_at (by omega)) (by omega) ?_
      simp only [List.set_cons_zero, List.set_cons_succ]
      refine n_ ?_
      refine k_end (fun _ h => h.pick [0] rfl) ?_
      refine k_done (by kernel_rfl) ?_
      refine g_in_normal (t_ (o_ ?_))
      refine xg 3 [] rfl (by omega) ?_
      refine n_ ?_
      refine g_brsEq (d := (thS n a b i k (j + 1))) 1 rfl (fun p r hp hr => th_step hik hkj ha (by rw [hc]; rw [Bool.false_or])) ?_
      simp only [List.set_cons_zero, List.set_cons_succ]
      exact g_again ⟨j + 1, by omega, by omega⟩ [0, 1, 5, 6, 7, 8] (by dsimp only; omega) rfl (fun w h => h.pick [0,0] rfl)
     refine k_go [] rfl (by kernel_rfl) (fun _ _ _ _ _ h => h) fun hQ => ?_
     refine k_x 0 [] [] hQ (by kernel_rfl) rfl rfl rfl rfl rfl rfl ?_
     refine k_x 1 [] [] hQ (by kernel_rfl) rfl rfl rfl rfl rfl rfl ?_
     refine k_take (v := .pointer (some ⟨T.tb, i, none⟩)) 2 rfl (by kernel_rfl) hQ rfl rfl rfl (fun _ h => h.pick [] rfl) (y_idxAddr (m := i) rfl rfl Try.underlying73 Try.sizeOf75 (by omega) (by omega) (by omega)) ?_
     refine k_x 4 [] [] hQ (by kernel_rfl) rfl rfl rfl rfl rfl rfl ?_
     refine k_x 5 [] [] hQ (by kernel_rfl) rfl rfl rfl rfl rfl rfl ?_
     refine k_x 6 [] [] hQ (by kernel_rfl) rfl rfl rfl rfl rfl rfl ?_
     refine k_take (v := .pointer (some ⟨T.tb, i, none⟩)) 7 rfl (by kernel_rfl) hQ rfl rfl rfl (fun _ h => h.pick [] rfl) (y_idxAddr (m := i) rfl rfl Try.underlying73 Try.sizeOf75 (by omega) (by omega) (by omega)) ?_
     refine k_x 9 [] [] hQ (by kernel_rfl) rfl rfl rfl rfl rfl rfl ?_
     refine k_all [3,8] (by kernel_rfl) (by simp) ⟨?_, ?_, trivial⟩
     ·refine k_op 3 rfl ?_
      refine g_val (v := slW (n + 1) (T.gs.getD i 0)) rfl rfl rfl (y_ldR (off := i) 0 rfl Try.isAgg75 rfl (gt_get (n := n + 1) (by omega))) ?_
      refine n_ ?_
      refine k_end (fun _ h => h.pick [] rfl) ?_
      refine k_one 8 (by kernel_rfl) ?_
      refine k_op 8 rfl ?_
      refine g_val (v := slW (n + 1) (T.gs.getD i 0)) rfl rfl rfl (y_ldR (off := i) 0 rfl Try.isAgg75 rfl (gt_get (n := n + 1) (by omega))) ?_
      refine n_ ?_
      refine k_end (fun _ h => h.pick [] rfl) ?_
      refine k_take (v := .pointer (some ⟨T.gs.getD i 0, j, none⟩)) 10 rfl (by kernel_rfl) hQ rfl rfl rfl (fun _ h => h.pick [] rfl) (y_idxAddr (m := j) rfl rfl Try.underlying75 Try.sizeOf4 (by omega) (by omega) (by omega)) ?_
      refine k_one 11 (by kernel_rfl) ?_
      refine k_op 11 rfl ?_
      refine g_val (v := .bool true) rfl rfl rfl (y_val (y_ldB (i := i) (j := j) 1 rfl Try.isAgg4 rfl (gt_at (by omega)) (by omega)) (by rw [hc])) ?_
      refine n_ ?_
      refine k_end (fun _ h => h.pick [] rfl) ?_
      refine k_x 12 [] [] hQ (by kernel_rfl) rfl rfl rfl rfl rfl rfl ?_
      refine k_no 13 [] hQ (by kernel_rfl) rfl rfl rfl rfl rfl ?_
      refine k_no 14 [] hQ (by kernel_rfl) rfl rfl rfl rfl rfl ?_
      refine k_no 15 [] hQ (by kernel_rfl) rfl rfl rfl rfl rfl ?_
      refine k_no 16 [] hQ (by kernel_rfl) rfl rfl rfl rfl rfl ?_
      refine k_no 17 [] hQ (by kernel_rfl) rfl rfl rfl rfl rfl ?_
      refine k_no 18 [] hQ (by kernel_rfl) rfl rfl rfl rfl rfl ?_
      refine k_no 19 [] hQ (by kernel_rfl) rfl rfl rfl rfl rfl ?_
      refine k_x 20 [] [] hQ (by kernel_rfl) rfl rfl rfl rfl rfl rfl ?_
      refine k_take (v := .pointer (some ⟨T.gs.getD i 0, j, none⟩)) 21 rfl (by kernel_rfl) hQ rfl rfl rfl (fun _ h => h.pick [] rfl) (y_idxAddr (m := j) rfl rfl Try.underlying75 Try.sizeOf4 (by omega) (by omega) (by omega)) ?_
      refine k_one 22 (by kernel_rfl) ?_
      refine k_op 22 rfl ?_
      refine g_stB (i := i) (j := j) 1 rfl rfl rfl Try.sizeOf4 rfl (gt_at (by omega)) (by omega) ?_
      simp only [List.set_cons_zero, List.set_cons_succ]
      refine n_ ?_
      refine k_end (fun _ h => h.pick [] rfl) ?_
      refine k_done (by kernel_rfl) ?_
      refine g_in_normal (t_ (o_ ?_))
      refine xg 3 [] rfl (by omega) ?_
      refine n_ ?_
      refine g_brsEq (d := (thS n a b i k (j + 1))) 1 rfl (fun p r hp hr => th_step hik hkj ha (by rw [hc]; rfl)) ?_
      simp only [List.set_cons_zero, List.set_cons_succ]
      exact g_again ⟨j + 1, by omega, by omega⟩ [0, 1, 5, 6, 7, 8] (by dsimp only; omega) rfl (fun w h => h.pick [0,0] rfl)
     refine k_op 8 rfl ?_
     refine g_val (v := slW (n + 1) (T.gs.getD i 0)) rfl rfl rfl (y_ldR (off := i) 0 rfl Try.isAgg75 rfl (gt_get (n := n + 1) (by omega))) ?_
     refine n_ ?_
     refine k_end (fun _ h => h.pick [] rfl) ?_
     refine k_take (v := .pointer (some ⟨T.gs.getD i 0, j, none⟩)) 10 rfl (by kernel_rfl) hQ rfl rfl rfl (fun _ h => h.pick [] rfl) (y_idxAddr (m := j) rfl rfl Try.underlying75 Try.sizeOf4 (by omega) (by omega) (by omega)) ?_
     refine k_all [3,11] (by kernel_rfl) (by simp) ⟨?_, ?_, trivial⟩
     ·refine k_op 3 rfl ?_
      refine g_val (v := slW (n + 1) (T.gs.getD i 0)) rfl rfl rfl (y_ldR (off := i) 0 rfl Try.isAgg75 rfl (gt_get (n := n + 1) (by omega))) ?_
      refine n_ ?_
      refine k_end (fun _ h => h.pick [] rfl) ?_
      refine k_one 11 (by kernel_rfl) ?_
      refine k_op 11 rfl ?_
      refine g_val (v := .bool true) rfl rfl rfl (y_val (y_ldB (i := i) (j := j) 1 rfl Try.isAgg4 rfl (gt_at (by omega)) (by omega)) (by rw [hc])) ?_
      refine n_ ?_
      refine k_end (fun _ h => h.pick [] rfl) ?_
      refine k_x 12 [] [] hQ (by kernel_rfl) rfl rfl rfl rfl rfl rfl ?_
      refine k_no 13 [] hQ (by kernel_rfl) rfl rfl rfl rfl rfl ?_
      refine k_no 14 [] hQ (by kernel_rfl) rfl rfl rfl rfl rfl ?_
      refine k_no 15 [] hQ (by kernel_rfl) rfl rfl rfl rfl rfl ?_
      refine k_no 16 [] hQ (by kernel_rfl) rfl rfl rfl rfl rfl ?_
      refine k_no 17 [] hQ (by kernel_rfl) rfl rfl rfl rfl rfl ?_
      refine k_no 18 [] hQ (by kernel_rfl) rfl rfl rfl rfl rfl ?_
      refine k_no 19 [] hQ (by kernel_rfl) rfl rfl rfl rfl rfl ?_
      refine k_x 20 [] [] hQ (by kernel_rfl) rfl rfl rfl rfl rfl rfl ?_
      refine k_take (v := .pointer (some ⟨T.gs.getD i 0, j, none⟩)) 21 rfl (by kernel_rfl) hQ rfl rfl rfl (fun _ h => h.pick [] rfl) (y_idxAddr (m := j) rfl rfl Try.underlying75 Try.sizeOf4 (by omega) (by omega) (by omega)) ?_
      refine k_one 22 (by kernel_rfl) ?_
      refine k_op 22 rfl ?_
      refine g_stB (i := i) (j := j) 1 rfl rfl rfl Try.sizeOf4 rfl (gt_at (by omega)) (by omega) ?_
      simp only [List.set_cons_zero, List.set_cons_succ]
      refine n_ ?_
      refine k_end (fun _ h => h.pick [] rfl) ?_
      refine k_done (by kernel_rfl) ?_
      refine g_in_normal (t_ (o_ ?_))
      refine xg 3 [] rfl (by omega) ?_
      refine n_ ?_
      refine g_brsEq (d := (thS n a b i k (j + 1))) 1 rfl (fun p r hp hr => th_step hik hkj ha (by rw [hc]; rfl)) ?_
      simp only [List.set_cons_zero, List.set_cons_succ]
      exact g_again ⟨j + 1, by omega, by omega⟩ [0, 1, 5, 6, 7, 8] (by dsimp only; omega) rfl (fun w h => h.pick [0,0] rfl)
     refine k_op 11 rfl ?_
     refine g_val (v := .bool true) rfl rfl rfl (y_val (y_ldB (i := i) (j := j) 1 rfl Try.isAgg4 rfl (gt_at (by omega)) (by omega)) (by rw [hc])) ?_
     refine n_ ?_
     refine k_end (fun _ h => h.pick [] rfl) ?_
     refine k_x 12 [] [] hQ (by kernel_rfl) rfl rfl rfl rfl rfl rfl ?_
     refine k_no 13 [] hQ (by kernel_rfl) rfl rfl rfl rfl rfl ?_
     refine k_no 14 [] hQ (by kernel_rfl) rfl rfl rfl rfl rfl ?_
     refine k_no 15 [] hQ (by kernel_rfl) rfl rfl rfl rfl rfl ?_
     refine k_no 16 [] hQ (by kernel_rfl) rfl rfl rfl rfl rfl ?_
     refine k_no 17 [] hQ (by kernel_rfl) rfl rfl rfl rfl rfl ?_
     refine k_no 18 [] hQ (by kernel_rfl) rfl rfl rfl rfl rfl ?_
     refine k_no 19 [] hQ (by kernel_rfl) rfl rfl rfl rfl rfl ?_
     refine k_x 20 [] [] hQ (by kernel_rfl) rfl rfl rfl rfl rfl rfl ?_
     refine k_one 3 (by kernel_rfl) ?_
     refine k_op 3 rfl ?_
     refine g_val (v := slW (n + 1) (T.gs.getD i 0)) rfl rfl rfl (y_ldR (off := i) 0 rfl Try.isAgg75 rfl (gt_get (n := n + 1) (by omega))) ?_
     refine n_ ?_
     refine k_end (fun _ h => h.pick [] rfl) ?_
     refine k_take (v := .pointer (some ⟨T.gs.getD i 0, j, none⟩)) 21 rfl (by kernel_rfl) hQ rfl rfl rfl (fun _ h => h.pick [] rfl) (y_idxAddr (m := j) rfl rfl Try.underlying75 Try.sizeOf4 (by omega) (by omega) (by omega)) ?_
     refine k_one 22 (by kernel_rfl) ?_
     refine k_op 22 rfl ?_
     refine g_stB (i := i) (j := j) 1 rfl rfl rfl Try.sizeOf4 rfl (gt_at (by omega)) (by omega) ?_
     simp only [List.set_cons_zero, List.set_cons_succ]
     refine n_ ?_
     refine k_end (fun _ h => h.pick [] rfl) ?_
     refine k_done (by kernel_rfl) ?_
     refine g_in_normal (t_ (o_ ?_))
     refine xg 3 [] rfl (by omega) ?_
     refine n_ ?_
     refine g_brsEq (d := (thS n a b i k (j + 1))) 1 rfl (fun p r hp hr => th_step hik hkj ha (by rw [hc]; rfl)) ?_
     simp only [List.set_cons_zero, List.set_cons_succ]
     exact g_again ⟨j + 1, by omega, by omega⟩ [0, 1, 5, 6, 7, 8] (by dsimp only; omega) rfl (fun w h => h.pick [0,0] rfl)
    refine g_cond_f rfl (g_exit (g_then_exit (g_then_exit (g_in_exit (g_in_normal (t_ (o_ ?_)))))))
    refine xg 3 [] rfl (by omega) ?_
    refine n_ ?_
    refine g_brsEq (d := (thS n a b i (k + 1) (k + 1))) 1 rfl (fun p r hp hr => th_next hik (by first | exact .inl (by omega) | (right; simpa using ‹_›)) hr) ?_
    simp only [List.set_cons_zero, List.set_cons_succ]
    exact g_again ⟨k + 1, by omega, by omega⟩ [0, 1, 5, 6, 7] (by dsimp only; omega) rfl (fun w h => h.pick [0,0] rfl)
   refine xg 8 [] rfl rfl ?_
   refine n_ (t_ (g_cond_f rfl (g_exit (g_then_exit (g_then_exit (g_in_exit (g_in_normal (t_ (o_ ?_)))))))))
   refine xg 3 [] rfl (by omega) ?_
   refine n_ ?_
   refine g_brsEq (d := (thS n a b i (k + 1) (k + 1))) 1 rfl (fun p r hp hr => th_next hik (by first | exact .inl (by omega) | (right; simpa using ‹_›)) hr) ?_
   simp only [List.set_cons_zero, List.set_cons_succ]
   exact g_again ⟨k + 1, by omega, by omega⟩ [0, 1, 5, 6, 7] (by dsimp only; omega) rfl (fun w h => h.pick [0,0] rfl)
  refine g_cond_f rfl (g_exit (g_then_exit (g_then_exit (g_in_exit (g_in_normal (t_ (o_ ?_)))))))
  refine xg 3 [] rfl (by omega) ?_
  refine n_ ?_
  refine g_brsEq (d := (thS n a b (i + 1) (i + 1) (i + 1))) 1 rfl (fun p r hp hr => th_row (by omega) hr) ?_
  simp only [List.set_cons_zero, List.set_cons_succ]
  exact g_again ⟨i + 1, by omega⟩ [0, 1, 5, 6] (by dsimp only; omega) rfl (fun w h => h.pick [0,0] rfl)
 refine g_cond_f rfl (g_exit (g_then_exit (g_then_exit (g_in_exit (t_ (s_ ?_))))))
 refine g_brsEq (d := (thC n a b)) 1 rfl (fun p r hp hr => th_done (by omega) (by omega)) ?_
 simp only [List.set_cons_zero, List.set_cons_succ]
 refine o_ ?_
 refine xg 2 [] rfl rfl ?_
 refine n_ (t_ (g_ret ?_))
 refine g_end1 Try.results49 rfl ?_
 exact fun w hS => ⟨⟨T, hgT⟩, rfl, hS.pick [0,0] rfl⟩

end Go.Proofs.Ytfcamlkbkehlnaa

/- kid, rest, fewer. -/
namespace Go.Proofs.Ytfcamlkbkehlnaa
open Go Go.RowKit

/-- No slice is longer than it may be. -/
def capV (v : Value) : Prop := ∀ p n c, v = .slice p n c → n ≤ c ∧ c ≤ maxLen
/-- Words and numbers are in their bounds. -/
def nodV (s : Nat → Int) (mi ma : Int) : Prop := (∀ j, j < 4 → 0 ≤ s j) ∧ -9223372036854775808 ≤ mi ∧ mi ≤ 9223372036854775807 ∧ -9223372036854775808 ≤ ma ∧ ma ≤ 9223372036854775807
mutual
def MT.cp : MT → Prop
  | .mk _ s mi ma _ v q => (capV v ∧ nodV s mi ma) ∧ cpL q
def cpL : List MT → Prop
  | [] => True
  | t :: q => t.cp ∧ cpL q
end
theorem cp_mk {k : Int} {s : Nat → Int} {mi ma nu : Int} {v : Value} {q : List MT} : (MT.mk k s mi ma nu v q).cp ↔ (capV v ∧ nodV s mi ma) ∧ cpL q := by rw [MT.cp]
theorem cpL_nil : cpL [] := by rw [cpL]; trivial
theorem cpL_cons {t : MT} {q : List MT} : cpL (t :: q) ↔ t.cp ∧ cpL q := by rw [cpL]
theorem cpL_mem {t : MT} : ∀ {q : List MT}, cpL q → t ∈ q → t.cp
  | [], _, h => by cases h
  | u :: q, h, hm => by
    rw [cpL_cons] at h
    rcases List.mem_cons.1 hm with rfl | hm
    · exact h.1
    · exact cpL_mem h.2 hm
theorem zMT_rd (w : World) : zMT.rd w := rd_mk.2 ⟨⟨none, 0, rfl, fun h => absurd h (by decide), fun h => absurd h (by decide), fun i j h => absurd h (Nat.not_lt_zero _)⟩, rdL_nil⟩
theorem nod0 : nodV (fun _ => 0) 0 0 := ⟨fun _ _ => Int.le_refl _, by decide, by decide, by decide, by decide⟩
theorem zMT_cp : zMT.cp := cp_mk.2 ⟨⟨fun p n c h => by cases h; exact ⟨Nat.le_refl _, Nat.zero_le _⟩, nod0⟩, cpL_nil⟩
/-- The first kid. -/
def kidT : List MT → MT
  | [] => zMT
  | t :: _ => t
theorem kidT_at {q : List MT} {u : MT} (h : q[0]? = some u) : kidT q = u := by
  cases q with
  | nil => cases h
  | cons t q => show t = u; simpa using h
theorem kidT_rd {w : World} {q : List MT} (h : rdL w q) : (kidT q).rd w := by
  cases q with
  | nil => exact zMT_rd w
  | cons t q => exact (rdL_cons.1 h).1
theorem kidT_cp {q : List MT} (h : cpL q) : (kidT q).cp := by
  cases q with
  | nil => exact zMT_cp
  | cons t q => exact (cpL_cons.1 h).1
/-- A row without its first kid. -/
def restV (p : Option Addr) (n c : Nat) : Value := .slice (if c = 1 then p else p.map (·.add 9)) (n - 1) (c - 1)
def restT (p : Option Addr) (c : Nat) (q : List MT) : MT := .mk 2 (fun _ => 0) 0 0 0 (restV p q.length c) q.tail
theorem restT_rd {w : World} {p : Option Addr} {c : Nat} {q : List MT} (hc : q.length ≤ c) (hr : RdSl w p q.length 9 (fun i j => ((nC (q.getD i default))[j]?).getD default)) (h : rdL w q) : (restT p c q).rd w := by
  refine rd_mk.2 ⟨⟨if c = 1 then p else p.map (·.add 9), c - 1, by unfold restV; rw [List.length_tail], ?_⟩, ?_⟩
  · rw [List.length_tail]
    by_cases h1 : c = 1
    · exact ⟨fun h => by omega, fun h => by omega, fun i j h => by omega⟩
    · rw [if_neg h1]
      refine ⟨fun h2 => ?_, fun h2 => ?_, fun i j hi hj => ?_⟩
      · rw [hr.addr (by omega)]; rfl
      · rw [hr.addr (by omega)]
        have e : ((p.getD default).add 9).block = (p.getD default).block := by unfold Addr.add; split <;> rfl
        show ((p.getD default).add 9).block < _
        rw [e]; exact hr.blk (by omega)
      · have h3 := hr.cell (i + 1) j (by omega) hj
        rw [hr.addr (by omega)]
        show w.cell? (((p.getD default).add 9).add (i * 9 + j)) = _
        rw [add_add2, show 9 + (i * 9 + j) = (i + 1) * 9 + j by omega, h3]
        cases q with
        | nil => cases hi
        | cons t q => rfl
  · cases q with
    | nil => exact rdL_nil
    | cons t q => exact (rdL_cons.1 h).2
theorem restT_cp {p : Option Addr} {c : Nat} {q : List MT} (hc : q.length ≤ c ∧ c ≤ maxLen) (h : cpL q) : (restT p c q).cp := by
  refine cp_mk.2 ⟨⟨fun p' n' c' e => ?_, nod0⟩, ?_⟩
  · cases e; omega
  · cases q with
    | nil => exact cpL_nil
    | cons t q => exact (cpL_cons.1 h).2
theorem y_from1 {P : Program} {N : Nat} {R : Regs} {S : World → Prop} {dst : Option Tmp} {ty t e : TypeId} {pos : String} {af : Array Edge} {gd : Option (Nat × Bool)} {x : Operand} {p : Option Addr} {n c : Nat} (hz : ∀ w, (sizeOf e).run P w = .ok 9 w) (hx : ev R x = some (.slice p n c)) (ht : P.underlying t = some (.slice e)) (h1 : 1 ≤ n) :
    Yv P N R S ⟨dst, .slice t x (some (.const (.int .i64 1))) none none, ty, pos, af, gd⟩ (restV p n c) := fun a' w hR _ => by
  have hb : (0 : Int) ≤ 1 ∧ (1 : Int) ≤ n := ⟨by decide, by exact_mod_cast h1⟩
  have hr : (Instr.sliceBound (.int .i64 1) n .sliceB).run P w = .ok 1 w := by simp [Instr.sliceBound, asIntOf, hb.2]
  have he : a'.eval (.const (.int .i64 1)) = .int .i64 1 := rfl
  unfold restV
  simp [execOp, hR.eval hx, he, Instr.sliceAt, Instr.slice, Instr.sliceBounds, Sem.run_bind, run_underlying ht w, hr, hz]

set_option maxRecDepth 100000 in
theorem kid10_any (k : Int) (s : Nat → Int) (nmi nma nnu : Int) (pq : Option Addr) (cq : Nat) (q : List MT) (w : World) (hok : MT.rd w (MT.mk k s nmi nma nnu (Value.slice pq q.length cq) q)) :
    Calls Try.prog 51 #[.agg (nC (MT.mk k s nmi nma nnu (Value.slice pq q.length cq) q)).toArray] w fun e w' => e = .returned (.agg (nC (kidT q)).toArray) ∧ Below w.heap.size w w' := by
 obtain ⟨hrq, _, hqk⟩ := rd_facts (F := []) hok (fun _ _ => List.not_mem_nil)
 refine fn_intro Try.func51 rfl Try.ntmps51 rfl rfl ?_
 refine s_ (o_ ?_)
 refine g_box rfl rfl rfl rfl (fun b1 => ?_)
 refine g_alloc rfl rfl Try.zeroValue28 rfl (fun b2 => ?_)
 refine n_ (t_ (s_ (s_ (o_ ?_))))
 refine xg 2 [1] rfl (by omega) ?_
 refine g_val (v := .int .i64 ((q.length : Nat) : Int)) rfl rfl rfl (y_llen rfl Try.underlying26) ?_
 refine xg 1 [0] rfl rfl ?_
 refine n_ (t_ ?_)
 refine g_casep 6 rfl (fun h1 => ?_) fun h1 => ?_
 ·refine g_cond_t rfl (s_ (o_ ?_))
  refine xg 2 [0] rfl (by omega) ?_
  refine n_ (t_ (g_ret (g_then_ret ?_)))
  refine g_end_cell 0 Try.results51 rfl rfl Try.isAgg28 Try.sizeOf28 rfl ?_
  obtain rfl : q = [] := List.length_eq_zero_iff.1 (by omega)
  exact fun w hS => ⟨rfl, hS.below⟩
 refine g_cond_f rfl (g_skip (t_ (s_ ?_)))
 obtain ⟨u, hu⟩ : ∃ u, q[0]? = some u := ⟨_, List.getElem?_eq_getElem (by omega)⟩
 have hku := kidT_at hu
 have huk := hqk 0 u hu
 obtain ⟨v12, v22, v32, huv⟩ := huk.2.2
 obtain ⟨k2, s2, mi2, ma2, nu2, v2, q2⟩ := u
 obtain rfl : v2 = .slice v12 v22 v32 := huv
 refine o_ ?_
 refine xg 2 [1] rfl (by omega) ?_
 refine g_val rfl rfl rfl (y_rdAddr hrq rfl rfl Try.underlying26 Try.sizeOf28 (by omega) (by omega)) ?_
 refine g_val (v := .agg (nC (MT.mk k2 s2 mi2 ma2 nu2 (.slice v12 v22 v32) q2)).toArray) rfl rfl rfl (y_rdAggF (i := 0) (vs := nC (MT.mk k2 s2 mi2 ma2 nu2 (.slice v12 v22 v32) q2)) hrq List.not_mem_nil rfl Try.isAgg28 Try.sizeOf28 (by omega) (by omega) (nC_len _) (fun jj hjj => by rw [show (0 : Int).toNat = 0 from rfl, List.getD_eq_getElem?_getD, hu]; rw [Option.getD_some, List.getElem?_eq_getElem (show jj < (nC (MT.mk k2 s2 mi2 ma2 nu2 (.slice v12 v22 v32) q2)).length by rw [nC_len]; exact hjj)]; rfl)) ?_
 refine xg 1 [0] rfl (by omega) ?_
 refine n_ (t_ (g_ret ?_))
 refine g_end_cell 0 Try.results51 rfl rfl Try.isAgg28 Try.sizeOf28 rfl ?_
 rw [hku]
 exact fun w hS => ⟨rfl, hS.below⟩

set_option maxRecDepth 100000 in
theorem rest10_any (k : Int) (s : Nat → Int) (nmi nma nnu : Int) (pq : Option Addr) (cq : Nat) (q : List MT) (hq : 1 ≤ q.length) (w : World) :
    Calls Try.prog 50 #[.agg (nC (MT.mk k s nmi nma nnu (Value.slice pq q.length cq) q)).toArray] w fun e w' => e = .returned (.agg (nC (restT pq cq q)).toArray) ∧ Below w.heap.size w w' := by
 refine fn_intro Try.func50 rfl Try.ntmps50 rfl rfl ?_
 refine s_ (o_ ?_)
 refine g_box rfl rfl rfl rfl (fun b1 => ?_)
 refine g_alloc rfl rfl Try.zeroValue28 rfl (fun b2 => ?_)
 refine ntso_ ?_
 refine xg 2 [1] rfl (by omega) ?_
 refine g_val (v := restV pq q.length cq) rfl rfl rfl (y_from1 Try.sizeOf28 rfl Try.underlying26 (by omega)) ?_
 refine xg 2 [0] rfl (by omega) ?_
 refine n_ (t_ (g_ret ?_))
 refine g_end_cell 0 Try.results50 rfl rfl Try.isAgg28 Try.sizeOf28 rfl ?_
 exact fun w hS => ⟨rfl, hS.below⟩

set_option maxRecDepth 100000 in
theorem fewer10_any (z : Int) (h2 : z ≤ 9223372036854775807) (w : World) :
    Calls Try.prog 53 #[.int .i64 z] w fun e w' => e = .returned (.int .i64 (max (z - 1) (min z 0))) ∧ Below w.heap.size w w' := by
 refine fn_intro Try.func53 rfl Try.ntmps53 rfl rfl ?_
 refine s_ (o_ ?_)
 refine xg 1 [] rfl rfl ?_
 refine n_ (t_ (s_ (s_ (o_ ?_))))
 refine xg 2 [0] rfl rfl ?_
 refine n_ (t_ ?_)
 refine g_casep 4 rfl (fun h1 => ?_) fun h1 => ?_
 ·refine g_cond_t rfl (s_ (o_ ?_))
  refine xg 2 [] rfl rfl ?_
  refine n_ (t_ (g_ret (g_then_ret ?_)))
  refine g_end1 Try.results53 rfl ?_
  first | rw [show max (z - 1) (min z 0) = z by omega] | rw [show max (z - 1) (min z 0) = max (z - 1) 0 by omega]
  exact fun w hS => ⟨rfl, hS.below⟩
 refine g_cond_f rfl (g_skip (t_ (s_ (o_ ?_))))
 refine xg 2 [] rfl (by omega) ?_
 refine g_val rfl rfl rfl (y_maxi rfl rfl) ?_
 refine xg 1 [] rfl rfl ?_
 refine n_ (t_ (g_ret ?_))
 refine g_end1 Try.results53 rfl ?_
 first | rw [show max (z - 1) (min z 0) = z by omega] | rw [show max (z - 1) (min z 0) = max (z - 1) 0 by omega]
 exact fun w hS => ⟨rfl, hS.below⟩

theorem m_fewer (z : Int) (h2 : z ≤ 9223372036854775807) : Meets Try.prog (fun _ => True) 53 [.int .i64 z] (fun _ : Unit => .int .i64 (max (z - 1) (min z 0))) [] (fun _ => []) := meets1 Try.call53 (fun w hI => fewer10_any z h2 w)
theorem m_kid10 (k : Int) (s : Nat → Int) (nmi nma nnu : Int) (pq : Option Addr) (cq : Nat) (q : List MT) : Meets Try.prog (fun w => MT.rd w (MT.mk k s nmi nma nnu (Value.slice pq q.length cq) q)) 51 [.agg (nC (MT.mk k s nmi nma nnu (Value.slice pq q.length cq) q)).toArray] (fun _ : Unit => .agg (nC (kidT q)).toArray) [] (fun _ => []) := meets1 Try.call51 (fun w hI => kid10_any k s nmi nma nnu pq cq q w hI)
theorem m_rest10 (k : Int) (s : Nat → Int) (nmi nma nnu : Int) (pq : Option Addr) (cq : Nat) (q : List MT) (hq : 1 ≤ q.length) : Meets Try.prog (fun _ => True) 50 [.agg (nC (MT.mk k s nmi nma nnu (Value.slice pq q.length cq) q)).toArray] (fun _ : Unit => .agg (nC (restT pq cq q)).toArray) [] (fun _ => []) := meets1 Try.call50 (fun w _ => rest10_any k s nmi nma nnu pq cq q hq w)
theorem q10 : ∀ c : Fin 256, IntKind.u8.wrap ((c.val : Int).tdiv 64) = ((c.val / 64 : Nat) : Int) := by decide +kernel
set_option maxRecDepth 100000 in
theorem has10_any (s : Nat → Int) (hs : ∀ j, j < 4 → 0 ≤ s j) (c : Nat) (hc : c ≤ 255) (w : World) :
    Calls Try.prog 48 #[.agg (s4C s).toArray, .int .u8 (c : Int)] w fun e w' => e = .returned (.bool (hasB s c)) ∧ Below w.heap.size w w' := by
 refine fn_intro Try.func48 rfl Try.ntmps48 rfl rfl ?_
 refine s_ (o_ ?_)
 refine g_box rfl rfl rfl rfl (fun b1 => ?_)
 refine xg 1 [] rfl rfl ?_
 refine ntso_ ?_
 refine xg 1 [] rfl rfl ?_
 refine g_val (v := .int .u8 ((c / 64 : Nat) : Int)) rfl rfl rfl (y_val (y_iquo rfl rfl (by decide)) (by rw [show IntKind.u8.wrap ((c : Int).tdiv 64) = ((c / 64 : Nat) : Int) from q10 ⟨c, by omega⟩])) ?_
 refine g_val rfl rfl rfl (y_idxArr (m := c / 64) rfl rfl Try.underlying25 Try.sizeOf23 (by omega) (by omega) (by omega)) ?_
 refine g_val (v := .int .u64 (s (c / 64))) rfl rfl rfl (y_ld (off := c / 64) 0 rfl Try.isAgg23 rfl (s4_get _ _ (by omega))) ?_
 refine xg 1 [] rfl rfl ?_
 refine g_val (v := .int .u8 ((c % 64 : Nat) : Int)) rfl rfl rfl (y_val (y_irem rfl rfl (by decide)) rfl) ?_
 refine g_val (v := .int .u64 ((s (c / 64)).fdiv (2 ^ (c % 64)))) rfl rfl rfl (y_val (y_shr rfl rfl (by omega)) (by rw [Int.toNat_natCast, show IntKind.u64.bits = 64 from rfl, Nat.min_eq_left (by omega)])) ?_
 refine g_val (v := .int .u64 ((s (c / 64)).fdiv (2 ^ (c % 64)) % 2)) rfl rfl rfl (y_val (y_irem rfl rfl (by decide)) (by rw [Int.tmod_eq_emod_of_nonneg (Int.fdiv_nonneg (hs _ (by omega)) (Int.le_of_lt (Int.pow_pos (by decide))))])) ?_
 refine g_val (v := .bool (hasB s c)) rfl rfl rfl (y_ieq rfl rfl) ?_
 refine xg 1 [] rfl rfl ?_
 refine n_ (t_ (g_ret ?_))
 refine g_end1 Try.results48 rfl ?_
 exact fun w hS => ⟨rfl, hS.below⟩

theorem m_has10 (s : Nat → Int) (hs : ∀ j, j < 4 → 0 ≤ s j) (c : Nat) (hc : c ≤ 255) : Meets Try.prog (fun _ => True) 48 [.agg (s4C s).toArray, .int .u8 (c : Int)] (fun _ : Unit => .bool (hasB s c)) [] (fun _ => []) := meets1 Try.call48 (fun w hI => has10_any s hs c hc w)
end Go.Proofs.Ytfcamlkbkehlnaa

/- The document's sets of bytes, loosely. -/
namespace Go.Proofs.Ytfcamlkbkehlnaa
open Go Go.RowKit

theorem wrap_nn (a : Int) : 0 ≤ IntKind.u64.wrap a := by
  have e : IntKind.u64.wrap a = a % 18446744073709551616 := rfl
  omega
theorem addS_nn {s : Nat → Int} {c : Nat} (h : ∀ j, 0 ≤ s j) : ∀ j, 0 ≤ addS s c j := fun j => by
  unfold addS upd
  split
  · exact wrap_nn _
  · exact h j
theorem withS_nn {s : Nat → Int} {lo : Nat} (h : ∀ j, 0 ≤ s j) : ∀ (m : Nat) (j : Nat), 0 ≤ withS s lo m j
  | 0 => h
  | m + 1 => addS_nn (withS_nn h m)
theorem s0_nn : ∀ j, 0 ≤ s0 j := fun _ => Int.le_refl _
theorem m_radd (s : Nat → Int) (c : Nat) (hc : c ≤ 255) : Meets Try.prog (fun _ => True) 93 [.agg (s4C s).toArray, .int .i64 (c : Int)] (fun _ : Unit => .agg (s4C (addS s c)).toArray) [] (fun _ => []) := meets1 Try.call93 (fun w _ => radd_any s c hc w)
theorem m_rwith (s : Nat → Int) (lo hi : Nat) (hlo : lo ≤ 255) (hhi : hi ≤ 255) : Meets Try.prog (fun _ => True) 83 [.agg (s4C s).toArray, .int .u8 (lo : Int), .int .u8 (hi : Int)] (fun _ : Unit => .agg (s4C (withS s lo (hi + 1 - lo))).toArray) [] (fun _ => []) := meets1 Try.call83 (fun w _ => rwith_any s lo hi hlo hhi w)

set_option maxRecDepth 100000 in
theorem in10_any (s : ByteArray) (c : Int) (w : World) :
    Calls Try.prog 104 #[.string s, .int .i64 c] w fun e w' => ∃ z : Int, e = .returned (.int .i64 z) ∧ Below w.heap.size w w' := by
 refine fn_intro Try.func104 rfl Try.ntmps104 rfl rfl ?_
 refine s_ (o_ ?_)
 refine xg 1 [] rfl rfl ?_
 refine n_ (t_ (s_ ?_))
 refine g_cutc (α := Bool) (fun x => [(0, .string s), (1, .int .i64 c), (5, .bool x)]) (fun x => []) ?_ ?_
 ·intro u5
  try dsimp only
  refine t_ (s_ ?_)
  refine g_cutc (α := Bool) (fun x => [(0, .string s), (1, .int .i64 c), (5, .bool u5), (6, .bool x)]) (fun x => []) ?_ ?_
  ·intro u6
   try dsimp only
   refine t_ (s_ ?_)
   refine g_cutc (α := Bool) (fun x => [(0, .string s), (1, .int .i64 c), (5, .bool u5), (6, .bool u6), (7, .bool x)]) (fun x => []) ?_ ?_
   ·intro u7
    try dsimp only
    refine t_ (s_ (o_ ?_))
    refine xg 1 [] rfl rfl ?_
    refine n_ (t_ (s_ (s_ (o_ ?_))))
    refine xg 1 [] rfl rfl ?_
    refine n_ (t_ ?_)
    refine g_cutc (α := Bool) (fun x => [(8, .bool x)]) (fun x => []) ?_ ?_
    ·intro u8
     try dsimp only
     refine t_ (s_ (s_ (o_ ?_)))
     refine xg 1 [] rfl rfl ?_
     refine n_ (t_ ?_)
     first | refine g_casep 135 rfl (fun h1 => ?_) fun h1 => ?_ | refine g_caseb 135 rfl (fun h1 => ?_) fun h1 => ?_
     ·refine g_cond_t rfl (s_ (o_ ?_))
      refine xg 1 [] rfl rfl ?_
      refine n_ (t_ (g_ret (g_then_ret ?_)))
      refine g_end1 Try.results104 rfl ?_
      exact fun w hS => ⟨_, rfl, hS.below⟩
     refine g_cond_f rfl (g_skip (t_ (s_ (o_ ?_))))
     refine xg 1 [] rfl rfl ?_
     refine n_ (t_ (g_ret ?_))
     refine g_end1 Try.results104 rfl ?_
     exact fun w hS => ⟨_, rfl, hS.below⟩
    intro hj
    refine g_block (s_ (o_ ?_))
    refine xg 2 [] rfl rfl ?_
    refine n_ (t_ ?_)
    refine g_casep 28 rfl (fun h2 => ?_) fun h2 => ?_
    ·refine g_cond_t rfl (o_ ?_)
     refine xg 2 [] rfl rfl ?_
     first | refine g_casep 31 rfl (fun h3 => ?_) fun h3 => ?_ | refine g_caseb 31 rfl (fun h3 => ?_) fun h3 => ?_
     ·refine xg 3 [] rfl rfl ?_
      refine n_ (g_in_normal ?_)
      exact g_fall (hj _) [8] rfl (fun w h => h.pick [] rfl)
     refine xg 3 [] rfl rfl ?_
     refine n_ (g_in_normal ?_)
     exact g_fall (hj _) [8] rfl (fun w h => h.pick [] rfl)
    refine g_cond_f rfl (s_ (o_ ?_))
    refine xg 2 [] rfl rfl ?_
    refine n_ (t_ ?_)
    refine g_casep 34 rfl (fun h4 => ?_) fun h4 => ?_
    ·refine g_cond_t rfl (o_ ?_)
     refine xg 2 [] rfl rfl ?_
     refine n_ (g_in_normal ?_)
     exact g_fall (hj _) [8] rfl (fun w h => h.pick [] rfl)
    refine g_cond_f rfl (s_ (o_ ?_))
    refine xg 2 [] rfl rfl ?_
    refine n_ (t_ ?_)
    refine g_casep 37 rfl (fun h5 => ?_) fun h5 => ?_
    ·refine g_cond_t rfl (o_ ?_)
     refine xg 2 [] rfl rfl ?_
     first | refine g_casep 40 rfl (fun h6 => ?_) fun h6 => ?_ | refine g_caseb 40 rfl (fun h6 => ?_) fun h6 => ?_
     ·refine xg 6 [] rfl rfl ?_
      refine n_ (g_in_normal ?_)
      exact g_fall (hj _) [8] rfl (fun w h => h.pick [] rfl)
     refine xg 3 [] rfl rfl ?_
     first | refine g_casep 43 rfl (fun h7 => ?_) fun h7 => ?_ | refine g_caseb 43 rfl (fun h7 => ?_) fun h7 => ?_
     ·refine xg 3 [] rfl rfl ?_
      refine n_ (g_in_normal ?_)
      exact g_fall (hj _) [8] rfl (fun w h => h.pick [] rfl)
     refine xg 3 [] rfl rfl ?_
     refine n_ (g_in_normal ?_)
     exact g_fall (hj _) [8] rfl (fun w h => h.pick [] rfl)
    refine g_cond_f rfl (s_ (o_ ?_))
    refine xg 2 [] rfl rfl ?_
    refine n_ (t_ ?_)
    refine g_casep 46 rfl (fun h8 => ?_) fun h8 => ?_
    ·refine g_cond_t rfl (o_ ?_)
     refine xg 2 [] rfl rfl ?_
     refine n_ (g_in_normal ?_)
     exact g_fall (hj _) [8] rfl (fun w h => h.pick [] rfl)
    refine g_cond_f rfl (s_ (o_ ?_))
    refine xg 2 [] rfl rfl ?_
    refine n_ (t_ ?_)
    refine g_casep 49 rfl (fun h9 => ?_) fun h9 => ?_
    ·refine g_cond_t rfl (o_ ?_)
     refine xg 2 [] rfl rfl ?_
     refine n_ (g_in_normal ?_)
     exact g_fall (hj _) [8] rfl (fun w h => h.pick [] rfl)
    refine g_cond_f rfl (s_ (o_ ?_))
    refine xg 2 [] rfl rfl ?_
    refine n_ (t_ ?_)
    refine g_casep 52 rfl (fun h10 => ?_) fun h10 => ?_
    ·refine g_cond_t rfl (o_ ?_)
     refine xg 3 [0] rfl rfl ?_
     refine g_casep 56 rfl (fun h11 => ?_) fun h11 => ?_
     ·refine xg 4 [0] rfl rfl ?_
      refine g_casep 60 rfl (fun h12 => ?_) fun h12 => ?_
      ·refine xg 4 [] rfl rfl ?_
       refine n_ (g_in_normal ?_)
       exact g_fall (hj _) [8] rfl (fun w h => h.pick [] rfl)
      refine xg 4 [0] rfl rfl ?_
      refine n_ (g_in_normal ?_)
      exact g_fall (hj _) [8] rfl (fun w h => h.pick [] rfl)
     refine xg 8 [0] rfl rfl ?_
     refine n_ (g_in_normal ?_)
     exact g_fall (hj _) [8] rfl (fun w h => h.pick [] rfl)
    refine g_cond_f rfl (s_ (o_ ?_))
    refine xg 2 [] rfl rfl ?_
    refine n_ (t_ ?_)
    refine g_casep 64 rfl (fun h13 => ?_) fun h13 => ?_
    ·refine g_cond_t rfl (o_ ?_)
     refine xg 3 [0] rfl rfl ?_
     refine g_casep 68 rfl (fun h14 => ?_) fun h14 => ?_
     ·refine xg 4 [] rfl rfl ?_
      refine n_ (g_in_normal ?_)
      exact g_fall (hj _) [8] rfl (fun w h => h.pick [] rfl)
     refine xg 4 [0] rfl rfl ?_
     refine n_ (g_in_normal ?_)
     exact g_fall (hj _) [8] rfl (fun w h => h.pick [] rfl)
    refine g_cond_f rfl (s_ (o_ ?_))
    refine xg 2 [] rfl rfl ?_
    refine n_ (t_ ?_)
    refine g_casep 72 rfl (fun h15 => ?_) fun h15 => ?_
    ·refine g_cond_t rfl (o_ ?_)
     refine xg 3 [0] rfl rfl ?_
     refine g_casep 76 rfl (fun h16 => ?_) fun h16 => ?_
     ·refine xg 4 [0] rfl rfl ?_
      refine g_casep 80 rfl (fun h17 => ?_) fun h17 => ?_
      ·refine xg 4 [] rfl rfl ?_
       first | refine g_casep 84 rfl (fun h18 => ?_) fun h18 => ?_ | refine g_caseb 84 rfl (fun h18 => ?_) fun h18 => ?_
       ·refine xg 4 [] rfl rfl ?_
        first | refine g_casep 88 rfl (fun h19 => ?_) fun h19 => ?_ | refine g_caseb 88 rfl (fun h19 => ?_) fun h19 => ?_
        ·refine xg 4 [] rfl rfl ?_
         refine n_ (g_in_normal ?_)
         exact g_fall (hj _) [8] rfl (fun w h => h.pick [] rfl)
        refine xg 4 [] rfl rfl ?_
        refine n_ (g_in_normal ?_)
        exact g_fall (hj _) [8] rfl (fun w h => h.pick [] rfl)
       refine xg 8 [] rfl rfl ?_
       refine n_ (g_in_normal ?_)
       exact g_fall (hj _) [8] rfl (fun w h => h.pick [] rfl)
      refine xg 12 [] rfl rfl ?_
      refine n_ (g_in_normal ?_)
      exact g_fall (hj _) [8] rfl (fun w h => h.pick [] rfl)
     refine xg 16 [] rfl rfl ?_
     refine n_ (g_in_normal ?_)
     exact g_fall (hj _) [8] rfl (fun w h => h.pick [] rfl)
    refine g_cond_f rfl (s_ (o_ ?_))
    refine xg 2 [] rfl rfl ?_
    refine n_ (t_ ?_)
    refine g_casep 92 rfl (fun h20 => ?_) fun h20 => ?_
    ·refine g_cond_t rfl (o_ ?_)
     refine xg 3 [0] rfl rfl ?_
     refine g_casep 96 rfl (fun h21 => ?_) fun h21 => ?_
     ·refine xg 4 [0] rfl rfl ?_
      refine n_ (g_in_normal ?_)
      exact g_fall (hj _) [8] rfl (fun w h => h.pick [] rfl)
     refine xg 4 [] rfl rfl ?_
     refine n_ (g_in_normal ?_)
     exact g_fall (hj _) [8] rfl (fun w h => h.pick [] rfl)
    refine g_cond_f rfl (s_ (o_ ?_))
    refine xg 2 [] rfl rfl ?_
    refine n_ (t_ ?_)
    refine g_casep 100 rfl (fun h22 => ?_) fun h22 => ?_
    ·refine g_cond_t rfl (o_ ?_)
     refine xg 3 [0] rfl rfl ?_
     refine g_casep 104 rfl (fun h23 => ?_) fun h23 => ?_
     ·refine xg 4 [0] rfl rfl ?_
      refine n_ (g_in_normal ?_)
      exact g_fall (hj _) [8] rfl (fun w h => h.pick [] rfl)
     refine xg 4 [] rfl rfl ?_
     refine n_ (g_in_normal ?_)
     exact g_fall (hj _) [8] rfl (fun w h => h.pick [] rfl)
    refine g_cond_f rfl (s_ (o_ ?_))
    refine xg 2 [] rfl rfl ?_
    refine n_ (t_ ?_)
    refine g_casep 108 rfl (fun h24 => ?_) fun h24 => ?_
    ·refine g_cond_t rfl (o_ ?_)
     refine xg 3 [0] rfl rfl ?_
     refine g_casep 112 rfl (fun h25 => ?_) fun h25 => ?_
     ·refine xg 4 [] rfl rfl ?_
      refine n_ (g_in_normal ?_)
      exact g_fall (hj _) [8] rfl (fun w h => h.pick [] rfl)
     refine xg 4 [0] rfl rfl ?_
     refine n_ (g_in_normal ?_)
     exact g_fall (hj _) [8] rfl (fun w h => h.pick [] rfl)
    refine g_cond_f rfl (s_ (o_ ?_))
    refine xg 2 [] rfl rfl ?_
    refine n_ (t_ ?_)
    refine g_casep 116 rfl (fun h26 => ?_) fun h26 => ?_
    ·refine g_cond_t rfl (o_ ?_)
     refine xg 2 [] rfl rfl ?_
     first | refine g_casep 119 rfl (fun h27 => ?_) fun h27 => ?_ | refine g_caseb 119 rfl (fun h27 => ?_) fun h27 => ?_
     ·refine xg 16 [] rfl rfl ?_
      refine n_ (g_in_normal ?_)
      exact g_fall (hj _) [8] rfl (fun w h => h.pick [] rfl)
     refine xg 3 [0] rfl rfl ?_
     refine g_casep 122 rfl (fun h28 => ?_) fun h28 => ?_
     ·refine xg 5 [0] rfl rfl ?_
      refine g_casep 127 rfl (fun h29 => ?_) fun h29 => ?_
      ·refine xg 8 [] rfl rfl ?_
       refine n_ (g_in_normal ?_)
       exact g_fall (hj _) [8] rfl (fun w h => h.pick [] rfl)
      refine xg 3 [0] rfl rfl ?_
      refine g_casep 130 rfl (fun h30 => ?_) fun h30 => ?_
      ·refine xg 5 [0] rfl rfl ?_
       refine n_ (g_in_normal ?_)
       exact g_fall (hj _) [8] rfl (fun w h => h.pick [] rfl)
      refine xg 5 [] rfl rfl ?_
      refine n_ (g_in_normal ?_)
      exact g_fall (hj _) [8] rfl (fun w h => h.pick [] rfl)
     refine xg 8 [0] rfl rfl ?_
     refine g_casep 130 rfl (fun h31 => ?_) fun h31 => ?_
     ·refine xg 5 [0] rfl rfl ?_
      refine n_ (g_in_normal ?_)
      exact g_fall (hj _) [8] rfl (fun w h => h.pick [] rfl)
     refine xg 5 [] rfl rfl ?_
     refine n_ (g_in_normal ?_)
     exact g_fall (hj _) [8] rfl (fun w h => h.pick [] rfl)
    refine g_cond_f rfl (s_ (o_ ?_))
    refine xg 1 [] rfl rfl ?_
    refine n_ (t_ (g_ret (g_in_ret (g_then_ret ?_))))
    refine g_end1 Try.results104 rfl ?_
    exact fun w hS => ⟨_, rfl, hS.below⟩
   intro hj
   refine o_ ?_
   refine xg 3 [0] rfl rfl ?_
   refine g_casep 23 rfl (fun h32 => ?_) fun h32 => ?_
   ·refine xg 4 [0] rfl rfl ?_
    refine n_ ?_
    exact g_fall (hj _) [0, 1, 5, 6, 7] rfl (fun w h => h.pick [] rfl)
   refine xg 4 [] rfl rfl ?_
   refine n_ ?_
   exact g_fall (hj _) [0, 1, 5, 6, 7] rfl (fun w h => h.pick [] rfl)
  intro hj
  refine o_ ?_
  refine xg 3 [0] rfl rfl ?_
  refine g_casep 17 rfl (fun h33 => ?_) fun h33 => ?_
  ·refine xg 4 [0] rfl rfl ?_
   refine n_ ?_
   exact g_fall (hj _) [0, 1, 5, 6] rfl (fun w h => h.pick [] rfl)
  refine xg 4 [] rfl rfl ?_
  refine n_ ?_
  exact g_fall (hj _) [0, 1, 5, 6] rfl (fun w h => h.pick [] rfl)
 intro hj
 refine o_ ?_
 refine xg 3 [0] rfl rfl ?_
 refine g_casep 11 rfl (fun h34 => ?_) fun h34 => ?_
 ·refine xg 4 [0] rfl rfl ?_
  refine n_ ?_
  exact g_fall (hj _) [0, 1, 5] rfl (fun w h => h.pick [] rfl)
 refine xg 4 [] rfl rfl ?_
 refine n_ ?_
 exact g_fall (hj _) [0, 1, 5] rfl (fun w h => h.pick [] rfl)

end Go.Proofs.Ytfcamlkbkehlnaa

/- The document's sets of bytes, loosely: Not, Both, Named, single, named. -/
namespace Go.Proofs.Ytfcamlkbkehlnaa
open Go Go.RowKit

theorem u8_in {a : Int} (h : 0 ≤ a ∧ a ≤ 255) : IntKind.u8.wrap a = a := by
  have e : IntKind.u8.wrap a = a % 256 := rfl
  omega
set_option maxRecDepth 100000 in
theorem not10_any (a : Nat → Int) (ha : ∀ j, j < 4 → 0 ≤ a j) (w : World) :
    Calls Try.prog 97 #[.agg (s4C a).toArray] w fun e w' => ∃ x : {x : Nat → Int // ∀ j, 0 ≤ x j}, e = .returned (.agg (s4C x.1).toArray) ∧ Below w.heap.size w w' := by
 refine fn_intro Try.func97 rfl Try.ntmps97 rfl rfl ?_
 refine s_ (o_ ?_)
 refine g_box rfl rfl rfl rfl (fun b1 => ?_)
 refine g_alloc rfl rfl Try.zeroValue25 rfl (fun b2 => ?_)
 refine g_nrm (L' := .cells b2 25 (s4C s0) :: _) rfl ?_
 refine ntso_ ?_
 refine g_alloc rfl rfl Try.zeroValue25 rfl (fun b3 => ?_)
 refine g_nrm (L' := .cells b3 25 (s4C s0) :: _) rfl ?_
 refine n_ (t_ (s_ (s_ (o_ ?_))))
 refine xg 1 [] rfl rfl ?_
 refine n_ (t_ (g_block ?_))
 refine g_loop (α := {x : Nat × (Nat → Int) // x.1 ≤ 256 ∧ ∀ j, 0 ≤ x.2 j}) (fun x => [(1, .pointer (some ⟨b1, 0, none⟩)), (2, .pointer (some ⟨b2, 0, none⟩)), (3, .pointer (some ⟨b3, 0, none⟩)), (4, .int .i64 (x.1.1 : Int))]) (fun x => St w [] [.cells b3 25 (s4C x.1.2), .cells b2 25 (s4C s0), .cells b1 25 (s4C a)]) (fun x => 256 - x.1.1) ⟨(0, s0), by decide, s0_nn⟩ [1, 2, 3, 4] rfl (fun w h => h.pick [0,0,0] rfl) ?_
 rintro ⟨⟨c, s⟩, hc, hs⟩
 dsimp only
 dsimp only at hc hs
 refine s_ (s_ (o_ ?_))
 refine xg 2 [0] rfl rfl ?_
 refine n_ (t_ ?_)
 refine g_casep 7 rfl (fun h1 => ?_) fun h1 => ?_
 ·refine g_cond_t rfl (g_skip (t_ (s_ (g_block (s_ (o_ ?_))))))
  refine g_val (v := .agg (s4C a).toArray) rfl rfl rfl (y_ldN (vs := s4C a) 2 rfl Try.isAgg25 Try.sizeOf25 rfl rfl rfl) ?_
  refine xg 1 [] rfl rfl ?_
  refine g_val (v := .int .u8 (c : Int)) rfl rfl rfl (y_val (y_toInt rfl Try.underlying3 Try.underlying5) (by rw [u8_in (by omega)])) ?_
  refine g_c1 (m_has10 a ha c (by omega)) any_I rfl rfl rfl ?_
  refine xg 1 [] rfl rfl ?_
  refine ntso_ ?_
  refine xg 2 [] rfl rfl ?_
  refine n_ (t_ ?_)
  first | refine g_casep 15 rfl (fun h2 => ?_) fun h2 => ?_ | refine g_caseb 15 rfl (fun h2 => ?_) fun h2 => ?_
  ·refine g_cond_t rfl (o_ ?_)
   refine g_val (v := .agg (s4C s).toArray) rfl rfl rfl (y_ldN (vs := s4C s) 0 rfl Try.isAgg25 Try.sizeOf25 rfl rfl rfl) ?_
   refine xg 1 [] rfl rfl ?_
   refine g_c1 (m_radd s c (by omega)) any_I rfl rfl rfl ?_
   refine g_stN 0 rfl rfl rfl (by kernel_rfl) rfl rfl rfl rfl ?_
   simp only [List.set_cons_zero, List.set_cons_succ]
   refine n_ (g_in_normal (t_ (o_ ?_)))
   refine xg 3 [] rfl (by omega) ?_
   refine n_ ?_
   exact g_again ⟨(c + 1, (addS s c)), by dsimp only; omega, addS_nn hs⟩ [1, 2, 3, 4] (by dsimp only; omega) rfl (fun w h => h.pick [0,0,0] rfl)
  refine g_cond_f rfl (g_skip (g_in_normal (t_ (o_ ?_))))
  refine xg 3 [] rfl (by omega) ?_
  refine n_ ?_
  exact g_again ⟨(c + 1, s), by dsimp only; omega, hs⟩ [1, 2, 3, 4] (by dsimp only; omega) rfl (fun w h => h.pick [0,0,0] rfl)
 refine g_cond_f rfl (g_exit (g_then_exit (g_then_exit (g_in_exit (t_ (s_ (o_ ?_)))))))
 refine g_val (v := .agg (s4C s).toArray) rfl rfl rfl (y_ldN (vs := s4C s) 0 rfl Try.isAgg25 Try.sizeOf25 rfl rfl rfl) ?_
 refine g_stN 1 rfl rfl rfl (by kernel_rfl) rfl rfl rfl rfl ?_
 simp only [List.set_cons_zero, List.set_cons_succ]
 refine n_ (t_ (g_ret ?_))
 refine g_end_cell 1 Try.results97 rfl rfl Try.isAgg25 Try.sizeOf25 rfl ?_
 exact fun w hS => ⟨⟨s, hs⟩, rfl, hS.below⟩

set_option maxRecDepth 100000 in
theorem both10_any (a b : Nat → Int) (ha : ∀ j, j < 4 → 0 ≤ a j) (hb : ∀ j, j < 4 → 0 ≤ b j) (w : World) :
    Calls Try.prog 95 #[.agg (s4C a).toArray, .agg (s4C b).toArray] w fun e w' => ∃ x : {x : Nat → Int // ∀ j, 0 ≤ x j}, e = .returned (.agg (s4C x.1).toArray) ∧ Below w.heap.size w w' := by
 refine fn_intro Try.func95 rfl Try.ntmps95 rfl rfl ?_
 refine s_ (o_ ?_)
 refine g_box rfl rfl rfl rfl (fun b1 => ?_)
 refine g_box rfl rfl rfl rfl (fun b2 => ?_)
 refine g_alloc rfl rfl Try.zeroValue25 rfl (fun b3 => ?_)
 refine g_nrm (L' := .cells b3 25 (s4C s0) :: _) rfl ?_
 refine ntso_ ?_
 refine g_alloc rfl rfl Try.zeroValue25 rfl (fun b4 => ?_)
 refine g_nrm (L' := .cells b4 25 (s4C s0) :: _) rfl ?_
 refine n_ (t_ (s_ (s_ (o_ ?_))))
 refine xg 1 [] rfl rfl ?_
 refine n_ (t_ (g_block ?_))
 refine g_loop (α := {x : Nat × (Nat → Int) // x.1 ≤ 256 ∧ ∀ j, 0 ≤ x.2 j}) (fun x => [(2, .pointer (some ⟨b1, 0, none⟩)), (3, .pointer (some ⟨b2, 0, none⟩)), (4, .pointer (some ⟨b3, 0, none⟩)), (5, .pointer (some ⟨b4, 0, none⟩)), (6, .int .i64 (x.1.1 : Int))]) (fun x => St w [] [.cells b4 25 (s4C x.1.2), .cells b3 25 (s4C s0), .cells b2 25 (s4C b), .cells b1 25 (s4C a)]) (fun x => 256 - x.1.1) ⟨(0, s0), by decide, s0_nn⟩ [2, 3, 4, 5, 6] rfl (fun w h => h.pick [0,0,0,0] rfl) ?_
 rintro ⟨⟨c, s⟩, hc, hs⟩
 dsimp only
 dsimp only at hc hs
 refine s_ (s_ (o_ ?_))
 refine xg 2 [0] rfl rfl ?_
 refine n_ (t_ ?_)
 refine g_casep 10 rfl (fun h1 => ?_) fun h1 => ?_
 ·refine g_cond_t rfl (g_skip (t_ (s_ (g_block (s_ (o_ ?_))))))
  refine g_val (v := .agg (s4C a).toArray) rfl rfl rfl (y_ldN (vs := s4C a) 3 rfl Try.isAgg25 Try.sizeOf25 rfl rfl rfl) ?_
  refine xg 1 [] rfl rfl ?_
  refine g_val (v := .int .u8 (c : Int)) rfl rfl rfl (y_val (y_toInt rfl Try.underlying3 Try.underlying5) (by rw [u8_in (by omega)])) ?_
  refine g_c1 (m_has10 a ha c (by omega)) any_I rfl rfl rfl ?_
  refine xg 1 [] rfl rfl ?_
  refine ntso_ ?_
  refine g_val (v := .agg (s4C b).toArray) rfl rfl rfl (y_ldN (vs := s4C b) 2 rfl Try.isAgg25 Try.sizeOf25 rfl rfl rfl) ?_
  refine xg 1 [] rfl rfl ?_
  refine g_val (v := .int .u8 (c : Int)) rfl rfl rfl (y_val (y_toInt rfl Try.underlying3 Try.underlying5) (by rw [u8_in (by omega)])) ?_
  refine g_c1 (m_has10 b hb c (by omega)) any_I rfl rfl rfl ?_
  refine xg 1 [] rfl rfl ?_
  refine n_ (t_ (s_ ?_))
  refine g_cutc (α := Bool) (fun x => [(2, .pointer (some ⟨b1, 0, none⟩)), (3, .pointer (some ⟨b2, 0, none⟩)), (4, .pointer (some ⟨b3, 0, none⟩)), (5, .pointer (some ⟨b4, 0, none⟩)), (6, .int .i64 (c : Int)), (24, .bool x)]) (fun x => [.cells b4 25 (s4C s), .cells b3 25 (s4C s0), .cells b2 25 (s4C b), .cells b1 25 (s4C a)]) ?_ ?_
  ·intro u
   try dsimp only
   refine t_ ?_
   first | refine g_casep 24 rfl (fun h2 => ?_) fun h2 => ?_ | refine g_caseb 24 rfl (fun h2 => ?_) fun h2 => ?_
   ·refine g_cond_t rfl (o_ ?_)
    refine g_val (v := .agg (s4C s).toArray) rfl rfl rfl (y_ldN (vs := s4C s) 0 rfl Try.isAgg25 Try.sizeOf25 rfl rfl rfl) ?_
    refine xg 1 [] rfl rfl ?_
    refine g_c1 (m_radd s c (by omega)) any_I rfl rfl rfl ?_
    refine g_stN 0 rfl rfl rfl (by kernel_rfl) rfl rfl rfl rfl ?_
    simp only [List.set_cons_zero, List.set_cons_succ]
    refine n_ (g_in_normal (t_ (o_ ?_)))
    refine xg 3 [] rfl (by omega) ?_
    refine n_ ?_
    exact g_again ⟨(c + 1, (addS s c)), by dsimp only; omega, addS_nn hs⟩ [2, 3, 4, 5, 6] (by dsimp only; omega) rfl (fun w h => h.pick [0,0,0,0] rfl)
   refine g_cond_f rfl (g_skip (g_in_normal (t_ (o_ ?_))))
   refine xg 3 [] rfl (by omega) ?_
   refine n_ ?_
   exact g_again ⟨(c + 1, s), by dsimp only; omega, hs⟩ [2, 3, 4, 5, 6] (by dsimp only; omega) rfl (fun w h => h.pick [0,0,0,0] rfl)
  intro hj
  refine o_ ?_
  refine xg 2 [] rfl rfl ?_
  first | refine g_casep 22 rfl (fun h3 => ?_) fun h3 => ?_ | refine g_caseb 22 rfl (fun h3 => ?_) fun h3 => ?_
  ·refine xg 2 [] rfl rfl ?_
   refine n_ ?_
   exact g_fall (hj _) [2, 3, 4, 5, 6, 24] rfl (fun w h => h.pick [0,0,0,0] rfl)
  refine xg 2 [] rfl rfl ?_
  refine n_ ?_
  exact g_fall (hj _) [2, 3, 4, 5, 6, 24] rfl (fun w h => h.pick [0,0,0,0] rfl)
 refine g_cond_f rfl (g_exit (g_then_exit (g_then_exit (g_in_exit (t_ (s_ (o_ ?_)))))))
 refine g_val (v := .agg (s4C s).toArray) rfl rfl rfl (y_ldN (vs := s4C s) 0 rfl Try.isAgg25 Try.sizeOf25 rfl rfl rfl) ?_
 refine g_stN 1 rfl rfl rfl (by kernel_rfl) rfl rfl rfl rfl ?_
 simp only [List.set_cons_zero, List.set_cons_succ]
 refine n_ (t_ (g_ret ?_))
 refine g_end_cell 1 Try.results95 rfl rfl Try.isAgg25 Try.sizeOf25 rfl ?_
 exact fun w hS => ⟨⟨s, hs⟩, rfl, hS.below⟩

set_option maxRecDepth 100000 in
theorem named10_any (t : ByteArray) (w : World) :
    Calls Try.prog 100 #[.string t] w fun e w' => ∃ x : {x : (Nat → Int) × Bool // ∀ j, 0 ≤ x.1 j}, e = .returned (.tuple #[.agg (s4C x.1.1).toArray, .bool x.1.2]) ∧ Below w.heap.size w w' := by
 refine fn_intro Try.func100 rfl Try.ntmps100 rfl rfl ?_
 refine s_ (o_ ?_)
 refine g_alloc rfl rfl Try.zeroValue25 rfl (fun b1 => ?_)
 refine g_nrm (L' := .cells b1 25 (s4C s0) :: _) rfl ?_
 refine xg 1 [] rfl rfl ?_
 refine ntso_ ?_
 refine g_alloc rfl rfl Try.zeroValue25 rfl (fun b2 => ?_)
 refine g_nrm (L' := .cells b2 25 (s4C s0) :: _) rfl ?_
 refine n_ (t_ (s_ (s_ (o_ ?_))))
 refine xg 1 [] rfl rfl ?_
 refine n_ (t_ (g_block ?_))
 refine g_loop (α := {x : Nat × (Nat → Int) // x.1 ≤ 256 ∧ ∀ j, 0 ≤ x.2 j}) (fun x => [(0, .string t), (2, .pointer (some ⟨b1, 0, none⟩)), (4, .pointer (some ⟨b2, 0, none⟩)), (5, .int .i64 (x.1.1 : Int))]) (fun x => St w [] [.cells b2 25 (s4C x.1.2), .cells b1 25 (s4C s0)]) (fun x => 256 - x.1.1) ⟨(0, s0), by decide, s0_nn⟩ [0, 2, 4, 5] rfl (fun w h => h.pick [0,0] rfl) ?_
 rintro ⟨⟨c, s⟩, hc, hs⟩
 dsimp only
 dsimp only at hc hs
 refine s_ (s_ (o_ ?_))
 refine xg 2 [0] rfl rfl ?_
 refine n_ (t_ ?_)
 refine g_casep 8 rfl (fun h1 => ?_) fun h1 => ?_
 ·refine g_cond_t rfl (g_skip (t_ (s_ (g_block (s_ (o_ ?_))))))
  refine xg 2 [] rfl rfl ?_
  refine g_callE (fun z : Int => .int .i64 z) rfl rfl rfl Try.call104 (fun w hS => in10_any _ _ w) ?_
  intro z
  refine xg 1 [] rfl rfl ?_
  refine n_ (t_ (s_ (s_ (o_ ?_))))
  refine xg 2 [0] rfl rfl ?_
  refine n_ (t_ ?_)
  refine g_casep 15 rfl (fun h2 => ?_) fun h2 => ?_
  ·refine g_cond_t rfl (s_ (o_ ?_))
   refine g_val (v := .agg (s4C s0).toArray) rfl rfl rfl (y_build (offs := []) rfl Try.zeroValue25 (by kernel_rfl)) ?_
   refine g_stN 1 rfl rfl rfl (by kernel_rfl) rfl rfl rfl rfl ?_
   simp only [List.set_cons_zero, List.set_cons_succ]
   refine xg 1 [] rfl rfl ?_
   refine n_ (t_ (g_ret (g_then_ret (g_in_ret (g_then_ret (g_then_ret (g_in_ret (g_then_ret ?_))))))))
   refine g_end_cell2 1 Try.results100 rfl rfl rfl Try.isAgg25 Try.sizeOf25 rfl ?_
   exact fun w hS => ⟨⟨(s0, _), s0_nn⟩, rfl, hS.below⟩
  refine g_cond_f rfl (g_skip (t_ (s_ (o_ ?_))))
  refine xg 2 [0] rfl rfl ?_
  refine n_ (t_ ?_)
  refine g_casep 18 rfl (fun h3 => ?_) fun h3 => ?_
  ·refine g_cond_t rfl (o_ ?_)
   refine g_val (v := .agg (s4C s).toArray) rfl rfl rfl (y_ldN (vs := s4C s) 0 rfl Try.isAgg25 Try.sizeOf25 rfl rfl rfl) ?_
   refine xg 1 [] rfl rfl ?_
   refine g_c1 (m_radd s c (by omega)) any_I rfl rfl rfl ?_
   refine g_stN 0 rfl rfl rfl (by kernel_rfl) rfl rfl rfl rfl ?_
   simp only [List.set_cons_zero, List.set_cons_succ]
   refine n_ (g_in_normal (t_ (o_ ?_)))
   refine xg 3 [] rfl (by omega) ?_
   refine n_ ?_
   exact g_again ⟨(c + 1, (addS s c)), by dsimp only; omega, addS_nn hs⟩ [0, 2, 4, 5] (by dsimp only; omega) rfl (fun w h => h.pick [0,0] rfl)
  refine g_cond_f rfl (g_skip (g_in_normal (t_ (o_ ?_))))
  refine xg 3 [] rfl (by omega) ?_
  refine n_ ?_
  exact g_again ⟨(c + 1, s), by dsimp only; omega, hs⟩ [0, 2, 4, 5] (by dsimp only; omega) rfl (fun w h => h.pick [0,0] rfl)
 refine g_cond_f rfl (g_exit (g_then_exit (g_then_exit (g_in_exit (t_ (s_ (o_ ?_)))))))
 refine g_val (v := .agg (s4C s).toArray) rfl rfl rfl (y_ldN (vs := s4C s) 0 rfl Try.isAgg25 Try.sizeOf25 rfl rfl rfl) ?_
 refine g_stN 1 rfl rfl rfl (by kernel_rfl) rfl rfl rfl rfl ?_
 simp only [List.set_cons_zero, List.set_cons_succ]
 refine xg 1 [] rfl rfl ?_
 refine n_ (t_ (g_ret ?_))
 refine g_end_cell2 1 Try.results100 rfl rfl rfl Try.isAgg25 Try.sizeOf25 rfl ?_
 exact fun w hS => ⟨⟨(s, _), hs⟩, rfl, hS.below⟩

set_option maxRecDepth 100000 in
theorem single10_any (l : List UInt8) (hl : l.length ≤ 1000000) (i : Nat) (hi : i ≤ 1000000) (f : Bool) (w : World) :
    Calls Try.prog 96 #[st8 l, .int .i64 (i : Int), .bool f] w fun e w' => ∃ x : {b : Bool // b = true → i < l.length}, e = .returned (.bool x.1) ∧ Below w.heap.size w w' := by
 refine fn_intro Try.func96 rfl Try.ntmps96 rfl rfl ?_
 refine s_ (o_ ?_)
 refine xg 1 [] rfl rfl ?_
 refine n_ (t_ (s_ (s_ ?_)))
 refine g_cutc (α := {b : Bool // b = false → i < l.length}) (fun x => [(0, st8 l), (1, .int .i64 (i : Int)), (2, .bool f), (27, .bool x.1)]) (fun x => []) ?_ ?_
 ·rintro ⟨u, hu⟩
  try dsimp only
  refine t_ ?_
  first | refine g_casep 27 rfl (fun h1 => ?_) fun h1 => ?_ | refine g_caseb 27 rfl (fun h1 => ?_) fun h1 => ?_
  ·refine g_cond_t rfl (s_ (o_ ?_))
   refine xg 1 [] rfl rfl ?_
   refine n_ (t_ (g_ret (g_then_ret ?_)))
   refine g_end1 Try.results96 rfl ?_
   first | exact fun w hS => ⟨⟨false, fun h => by cases h⟩, rfl, hS.below⟩ | exact fun w hS => ⟨⟨_, fun _ => hu (by assumption)⟩, rfl, hS.below⟩
  refine g_cond_f rfl (g_skip (t_ (s_ ?_)))
  refine g_cutc (α := Bool) (fun x => [(7, .bool x)]) (fun x => []) ?_ ?_
  ·intro u2
   try dsimp only
   refine t_ (s_ (o_ ?_))
   refine xg 3 [] rfl rfl ?_
   refine n_ (t_ (g_ret ?_))
   refine g_end1 Try.results96 rfl ?_
   first | exact fun w hS => ⟨⟨false, fun h => by cases h⟩, rfl, hS.below⟩ | exact fun w hS => ⟨⟨_, fun _ => hu (by assumption)⟩, rfl, hS.below⟩
  intro hj
  have hil : i < l.length := hu (by assumption)
  refine o_ ?_
  refine xg 2 [] rfl rfl ?_
  refine g_val (v := .int .u8 (bt ⟨l.toArray⟩ (i : Int))) rfl rfl rfl (y_sat rfl rfl Try.underlying9 (by omega) (by rw [size_mk]; omega)) ?_
  refine xg 2 [0] rfl rfl ?_
  refine g_casep 32 rfl (fun h2 => ?_) fun h2 => ?_
  ·refine xg 3 [] rfl (by omega) ?_
   refine g_val (v := .int .i64 (l.length : Int)) rfl rfl rfl (y_val (y_slen rfl Try.underlying9) (by rw [size_mk])) ?_
   refine xg 3 [0] rfl rfl ?_
   refine g_casep 39 rfl (fun h3 => ?_) fun h3 => ?_
   ·refine xg 3 [] rfl (by omega) ?_
    refine g_val (v := .int .u8 (bt ⟨l.toArray⟩ ((i : Int) + 1))) rfl rfl rfl (y_sat rfl rfl Try.underlying9 (by omega) (by rw [size_mk]; omega)) ?_
    refine xg 2 [0] rfl rfl ?_
    refine g_casep 45 rfl (fun h4 => ?_) fun h4 => ?_
    ·refine xg 15 [] rfl rfl ?_
     refine n_ ?_
     exact g_fall (hj _) [7] rfl (fun w h => h.pick [] rfl)
    refine xg 3 [] rfl (by omega) ?_
    refine g_val (v := .int .u8 (bt ⟨l.toArray⟩ ((i : Int) + 1))) rfl rfl rfl (y_sat rfl rfl Try.underlying9 (by omega) (by rw [size_mk]; omega)) ?_
    refine xg 3 [0] rfl rfl ?_
    refine g_casep 52 rfl (fun h5 => ?_) fun h5 => ?_
    ·refine xg 8 [] rfl rfl ?_
     refine n_ ?_
     exact g_fall (hj _) [7] rfl (fun w h => h.pick [] rfl)
    refine xg 3 [] rfl (by omega) ?_
    refine g_val (v := .int .u8 (bt ⟨l.toArray⟩ ((i : Int) + 1))) rfl rfl rfl (y_sat rfl rfl Try.underlying9 (by omega) (by rw [size_mk]; omega)) ?_
    refine xg 4 [0] rfl rfl ?_
    refine n_ ?_
    exact g_fall (hj _) [7] rfl (fun w h => h.pick [] rfl)
   refine xg 21 [] rfl rfl ?_
   refine n_ ?_
   exact g_fall (hj _) [7] rfl (fun w h => h.pick [] rfl)
  refine xg 28 [] rfl rfl ?_
  refine n_ ?_
  exact g_fall (hj _) [7] rfl (fun w h => h.pick [] rfl)
 intro hj
 refine o_ ?_
 refine xg 2 [] rfl rfl ?_
 refine g_val (v := .int .i64 (l.length : Int)) rfl rfl rfl (y_val (y_slen rfl Try.underlying9) (by rw [size_mk])) ?_
 refine xg 2 [0] rfl rfl ?_
 refine g_casep 12 rfl (fun h6 => ?_) fun h6 => ?_
 ·refine xg 15 [] rfl rfl ?_
  refine n_ ?_
  exact g_fall (hj ⟨_, by first | (intro h; cases h; done) | (intro _; omega)⟩) [0, 1, 2, 27] rfl (fun w h => h.pick [] rfl)
 refine xg 2 [] rfl rfl ?_
 refine g_val (v := .int .u8 (bt ⟨l.toArray⟩ (i : Int))) rfl rfl rfl (y_sat rfl rfl Try.underlying9 (by omega) (by rw [size_mk]; omega)) ?_
 refine xg 3 [0] rfl rfl ?_
 refine g_casep 18 rfl (fun h7 => ?_) fun h7 => ?_
 ·refine xg 9 [] rfl rfl ?_
  refine n_ ?_
  exact g_fall (hj ⟨_, by first | (intro h; cases h; done) | (intro _; omega)⟩) [0, 1, 2, 27] rfl (fun w h => h.pick [] rfl)
 refine xg 2 [] rfl rfl ?_
 refine g_val (v := .int .u8 (bt ⟨l.toArray⟩ (i : Int))) rfl rfl rfl (y_sat rfl rfl Try.underlying9 (by omega) (by rw [size_mk]; omega)) ?_
 refine xg 2 [0] rfl rfl ?_
 refine g_casep 23 rfl (fun h8 => ?_) fun h8 => ?_
 ·refine xg 4 [] rfl rfl ?_
  refine n_ ?_
  exact g_fall (hj ⟨_, by first | (intro h; cases h; done) | (intro _; omega)⟩) [0, 1, 2, 27] rfl (fun w h => h.pick [] rfl)
 refine xg 4 [] rfl rfl ?_
 refine n_ ?_
 exact g_fall (hj ⟨_, by first | (intro h; cases h; done) | (intro _; omega)⟩) [0, 1, 2, 27] rfl (fun w h => h.pick [] rfl)

end Go.Proofs.Ytfcamlkbkehlnaa

