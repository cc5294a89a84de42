/- The texts that the proof leans on, one behind the other (4 of 7). -/
import Derived.Lib.ItoaNum
import Derived.RangeFuncOwn
import Derived.RangeFuncCalls
import Derived.OrdersIn
import Derived.Test.YtjdmdpjbijkjaaaGreatK3
namespace Go.Proofs.YtjdmdpjbijkjaaaGreat
open Go Go.RowKit
section
variable {x : Tx} {ns : List Nd} {a p i : Nat} {mi ma : Int} {k : Int} {s : Nat → Int} {nmi nma nnu : Int} {v kvv : Value} {q : List MT} {ks : List Nat}
theorem spec_at (ha : ns[a]? = some (.mk k s nmi nma nnu v q, kvv, ks)) (j : Nat) : Sp x ns (kv ⟨a, p, mi, ma, i⟩) j = (if k = 2 then mRow x (q.drop p) i j else if k = 4 then rep x.n (fun a b => mKid x q a b) (x.n + 1) mi ma i j else mM x (.mk k s nmi nma nnu v q) i j) := by
  rw [Sp_kv]; unfold spec; dsimp only; rw [ha]
theorem c_one {ch : UInt8} (ha : ns[a]? = some (.mk 1 s nmi nma nnu v q, kvv, ks)) (hc : x.l[i]? = some ch) (c : Nat → Bool) (h : c = if hasB s ch.toNat then addP (fun _ => false) (i + 1) else fun _ => false) : c = Sp x ns (kv ⟨a, p, mi, ma, i⟩) := by
  funext j
  rw [spec_at ha, if_neg (by decide), if_neg (by decide), mM_mk, if_pos rfl, hc, h];by_cases hh : hasB s ch.toNat = true <;> simp [hh, addP]
theorem c_one0 (ha : ns[a]? = some (.mk 1 s nmi nma nnu v q, kvv, ks)) (hc : ¬ i < x.n) : (fun _ => false) = Sp x ns (kv ⟨a, p, mi, ma, i⟩) := by
  funext j
  rw [spec_at ha, if_neg (by decide), if_neg (by decide), mM_mk, if_pos rfl, List.getElem?_eq_none (by unfold Tx.n at hc; omega)];simp
theorem c_beg (ha : ns[a]? = some (.mk 6 s nmi nma nnu v q, kvv, ks)) (c : Nat → Bool) (h : c = if i = 0 ∧ x.bg = true then addP (fun _ => false) 0 else fun _ => false) : c = Sp x ns (kv ⟨a, p, mi, ma, i⟩) := by
  funext j
  rw [spec_at ha, if_neg (by decide), if_neg (by decide), mM_mk, if_neg (by decide), if_pos rfl, h];by_cases h1 : i = 0 <;> by_cases h2 : x.bg = true <;> simp [h1, h2, addP]
theorem c_end (ha : ns[a]? = some (.mk 7 s nmi nma nnu v q, kvv, ks)) (c : Nat → Bool) (h : c = if i = x.n then addP (fun _ => false) i else fun _ => false) : c = Sp x ns (kv ⟨a, p, mi, ma, i⟩) := by
  funext j
  rw [spec_at ha, if_neg (by decide), if_neg (by decide), mM_mk, if_neg (by decide), if_neg (by decide), if_pos rfl, h];by_cases h1 : i = x.n <;> simp [h1, addP]
theorem c_row0 (ha : ns[a]? = some (.mk 2 s nmi nma nnu v q, kvv, ks)) (hp : q.length ≤ p) : addP (fun _ => false) i = Sp x ns (kv ⟨a, p, mi, ma, i⟩) := by
  funext j
  rw [spec_at ha, if_pos rfl, List.drop_eq_nil_of_le hp, mRow_nil]; simp [addP]
theorem c_other (ha : ns[a]? = some (.mk k s nmi nma nnu v q, kvv, ks)) (hk : k ≠ 1 ∧ k ≠ 2 ∧ k ≠ 3 ∧ k ≠ 4 ∧ k ≠ 5 ∧ k ≠ 6 ∧ k ≠ 7) : addP (fun _ => false) i = Sp x ns (kv ⟨a, p, mi, ma, i⟩) := by
  funext j
  rw [spec_at ha, if_neg hk.2.1, if_neg hk.2.2.2.1, mM_mk, if_neg hk.1, if_neg hk.2.2.2.2.2.1, if_neg hk.2.2.2.2.2.2, if_neg hk.2.1, if_neg hk.2.2.1, if_neg hk.2.2.2.2.1, if_neg hk.2.2.2.1]; simp [addP]
theorem c_grp {qq : Value} (ha : ns[a]? = some (.mk 5 s nmi nma nnu v q, kvv, ks)) (h : Sp x ns qq = mKid x q i) : orP (fun _ => false) (Sp x ns qq) = Sp x ns (kv ⟨a, p, mi, ma, i⟩) := by
  funext j
  rw [h, spec_at ha, if_neg (by decide), if_neg (by decide), mM_mk, if_neg (by decide), if_neg (by decide), if_neg (by decide), if_neg (by decide), if_neg (by decide), if_pos rfl]; simp [orP]
def eiP (x : Tx) (q : List MT) (i m : Nat) : Nat → Bool := fun j => mAny x (q.take m) i j
theorem eiP_zero : (fun _ => false) = eiP x q i 0 := by funext j; unfold eiP; rw [List.take_zero, mAny_nil]
theorem mAny_append : ∀ {q r : List MT} {i j : Nat}, mAny x (q ++ r) i j = (mAny x q i j || mAny x r i j)
  | [], r, i, j => by rw [mAny_nil, Bool.false_or]; rfl
  | t :: q, r, i, j => by rw [List.cons_append, mAny_cons, mAny_cons, mAny_append, Bool.or_assoc]
theorem eiP_next {m : Nat} {t : MT} (h : q[m]? = some t) : orP (eiP x q i m) (mM x t i) = eiP x q i (m + 1) := by
  funext j
  unfold eiP orP
  rw [List.take_add_one, h, mAny_append];show _ = (_ || mAny x [t] i j)
  rw [mAny_cons, mAny_nil, Bool.or_false]
theorem c_ei (ha : ns[a]? = some (.mk 3 s nmi nma nnu v q, kvv, ks)) {m : Nat} (hm : q.length ≤ m) : eiP x q i m = Sp x ns (kv ⟨a, p, mi, ma, i⟩) := by
  funext j
  rw [spec_at ha, if_neg (by decide), if_neg (by decide), mM_mk, if_neg (by decide), if_neg (by decide), if_neg (by decide), if_neg (by decide), if_pos rfl];unfold eiP; rw [List.take_of_length_le hm]
theorem any_wide {n m : Nat} {f : Nat → Bool} (h : n ≤ m) (hf : ∀ k, n ≤ k → k < m → f k = false) : (List.range m).any f = (List.range n).any f := by
  rw [Bool.eq_iff_iff, any_range, any_range];constructor
  · rintro ⟨k, h1, h2⟩;by_cases hk : k < n
    · exact ⟨k, hk, h2⟩
    · rw [hf k (by omega) h1] at h2; cases h2
  · rintro ⟨k, h1, h2⟩; exact ⟨k, by omega, h2⟩
theorem c_row {t : MT} (ha : ns[a]? = some (.mk 2 s nmi nma nnu v q, kvv, ks)) (ht : q[p]? = some t) (hi : i ≤ x.n) {qb : Value} (hb : Sp x ns qb = mM x t i) {n : Nat} (hn : x.n + 1 ≤ n) : foldP (Sp x ns qb) (fun k => Sp x ns (kv ⟨a, p + 1, 0, 0, k⟩)) (fun _ => false) i n = Sp x ns (kv ⟨a, p, mi, ma, i⟩) := by
  funext j
  have hp := (List.getElem?_eq_some_iff.1 ht);rw [spec_at ha, if_pos rfl, List.drop_eq_getElem_cons hp.1, hp.2, mRow_cons];unfold foldP
  rw [Bool.false_or, any_wide hn (fun k h1 h2 => by
    rw [hb];cases h : mM x t i k with
    | false => simp
    | true => have := mM_in t hi h; omega)]
  congr 1
  funext k
  dsimp only;rw [hb, spec_at ha, if_pos rfl]
theorem c_rep0 (ha : ns[a]? = some (.mk 4 s nmi nma nnu v q, kvv, ks)) (hi : i ≤ x.n) {qb : Value} (hb : Sp x ns qb = mKid x q i) (hma : ma = 0) (c : Nat → Bool) (h : c = if mi = 0 ∨ Sp x ns qb i = true then addP (fun _ => false) i else fun _ => false) : c = Sp x ns (kv ⟨a, p, mi, ma, i⟩) := by
  subst hma;funext j
  rw [spec_at ha, if_neg (by decide), if_pos rfl, rep_step hi, h, hb];by_cases h1 : mi = 0 <;> by_cases h2 : mKid x q i i = true <;> simp [h1, h2, addP]
theorem c_rep (ha : ns[a]? = some (.mk 4 s nmi nma nnu v q, kvv, ks)) (hi : i ≤ x.n) {qb : Value} (hb : Sp x ns qb = mKid x q i) (hma : ma ≠ 0) (c : Nat → Bool) (h : c = if mi = 0 ∨ Sp x ns qb i = true then addP (fun _ => false) i else fun _ => false) {n : Nat} (hn : x.n + 1 ≤ n) :
    foldP (Sp x ns qb) (fun k => Sp x ns (kv (round ⟨a, p, mi, ma, i⟩ k))) c (i + 1) n = Sp x ns (kv ⟨a, p, mi, ma, i⟩) := by
  funext j
  rw [spec_at ha, if_neg (by decide), if_pos rfl, rep_step hi];unfold foldP
  rw [h]
  rw [any_wide hn (fun k h1 h2 => by
    rw [hb];cases h : mKid x q i k with
    | false => simp
    | true => have := mKid_in q hi h; omega)]
  have e1 : (if mi = 0 ∨ Sp x ns qb i = true then addP (fun _ => false) i else fun _ => false) j = (decide (j = i) && (decide (mi = 0) || mKid x q i i)) := by
    rw [hb];by_cases h1 : mi = 0 <;> by_cases h2 : mKid x q i i = true <;> simp [h1, h2, addP]
  rw [e1];congr 1
  rw [decide_eq_true hma, Bool.true_and];congr 1
  funext k
  have e2 : decide (i + 1 ≤ k) = decide (i < k) := rfl;rw [hb, e2];unfold round
  dsimp only;rw [spec_at ha, if_neg (by decide), if_pos rfl]
end
end Go.Proofs.YtjdmdpjbijkjaaaGreat

namespace Go.Proofs.YtjdmdpjbijkjaaaGreat
open Go Go.RowKit
set_option maxHeartbeats 8000000 in
set_option maxRecDepth 100000 in
theorem all_miss (C : Cx) (k : Int) (s : Nat → Int) (nmi nma nnu : Int) (v1 u1 : Option Addr) (v2 v3 u3 : Nat) (a p i : Nat) (mi ma : Int) (q : List MT) (ks : List Nat) (ha : C.ns[a]? = some (.mk k s nmi nma nnu (.slice v1 v2 v3) q, .slice u1 ks.length u3, ks)) (hgk : 0 < ks.length → ∃ gk, u1 = some ⟨gk, 0, none⟩) (hi : i ≤ C.x.n) (hr : okS ⟨a, p, mi, ma, i⟩) (hrow : k = 2 → p ≤ ks.length) (hlq : k ≠ 5 → k ≠ 4 → laidL C.ns q ks) (hkid : k = 5 ∨ k = 4 → KidOk C [.int .i64 k, .int .u64 (s 0), .int .u64 (s 1), .int .u64 (s 2), .int .u64 (s 3), .int .i64 nmi, .int .i64 nma, .int .i64 nnu, .slice v1 v2 v3, .slice u1 ks.length u3] q i) (hbeg : ∀ t kk, t ∈ q → laidT C.ns t kk → AllOk C (beg C.x C.ns kk i)) (hnext : k = 2 → p < ks.length → ∀ j, i ≤ j → j ≤ C.x.n → AllOk C ⟨a, p + 1, 0, 0, j⟩) (hrnd : k = 4 → ma ≠ 0 → ∀ j, i < j → j ≤ C.x.n → AllOk C (round ⟨a, p, mi, ma, i⟩ j)) (M : Value → Option Nat) (E : List (Value × Nat)) (F : List Nat) (w : World) (hM : M (kv ⟨a, p, mi, ma, i⟩) = none) (hS0 : St w F [C.mt, C.nd, .kids C.ns, C.mo M E] w) :
    Calls Tryz.prog 49 #[.pointer (some ⟨C.b, 0, none⟩), .agg ([.int .i64 (a : Int), .int .i64 (p : Int), .int .i64 mi, .int .i64 ma, .int .i64 (i : Int)]).toArray] w fun e w' => ∃ y : {y : (Value → Option Nat) × List (Value × Nat) × Nat // (∀ p, p ∈ E → p ∈ y.2.1) ∧ (kv ⟨a, p, mi, ma, i⟩, y.2.2) ∈ y.2.1}, e = .returned (slW C.W y.1.2.2) ∧ St w F [C.mt, C.nd, .kids C.ns, C.mo y.1.1 y.1.2.1] w' := by
 have hx := C.hx;have hW := C.hW;obtain ⟨r1, r2, r3, r4, r5, r6, r7⟩ := id hr;dsimp only at r1 r2 r3 r4 r5 r6 r7;have hal := (List.getElem?_eq_some_iff.1 ha).1;have hle : ks.length ≤ maxLen := (kid_sl (hS0.get (i := 2) rfl) ha).1;have hmx : maxLen = 9223372036854775807 := rfl;have hnl := C.hl;refine fn_intro_own Tryz.func49 rfl Tryz.ntmps49 rfl rfl hS0 (s_ (o_ ?_));refine g_box rfl rfl rfl rfl (fun b1 => (g_box rfl rfl rfl rfl (fun b2 => ?_)));refine xg 1 [] rfl rfl (n_ (t_ (s_ (s_ ?_))));refine g_quiet (by kernel_rfl) (by kernel_rfl) (xq 5 [1,2,0] rfl (by omega) ?_);refine q_val (v := .tuple #[.slice none 0 0, .bool false]) rfl rfl rfl (y_memo0 5 rfl rfl Tryz.underlying133 st_law Tryz.zeroValue104 rfl (fun _ h => h) (kv_key hr) hM) (q_val rfl rfl rfl (y_move rfl) ?_);refine q_val rfl rfl rfl (y_extract rfl rfl) (q_val rfl rfl rfl (y_extract rfl rfl) ?_);refine xq 2 [] rfl rfl (q_nil (t_ (s_ (o_ ?_))));refine xg 1 [] rfl rfl (n_ (t_ (g_cond_f rfl (g_skip (t_ (s_ (o_ ?_)))))));refine xg 4 [1,2] rfl (by omega) (g_val (v := .int .i64 (C.x.n : Int)) rfl rfl rfl (y_val (y_slen rfl Tryz.underlying9) (by rw [size_mk]; rfl)) ?_);refine g_val (v := .int .i64 ((C.x.n / 64 : Nat) : Int)) rfl rfl rfl (y_val (y_iquo rfl rfl (by decide)) (by rw [quo64, wrap_in (by omega)])) (g_val (v := .int .i64 (C.W : Int)) rfl rfl rfl (y_val (y_iadd rfl rfl) (by rw [wrap_in (by omega)]; rfl)) ?_);refine g_makeWords rfl rfl rfl rfl Tryz.underlying104 rfl rfl rfl rfl C.hW (fun gp => (g_alloc rfl rfl Tryz.zeroValue104 rfl (fun b3 => ?_)));refine xg 1 [0] rfl (by omega) (n_ (t_ (s_ (s_ ?_))));refine k_go [3,2,0,1,1,1,1,0] rfl (by kernel_rfl) (fun _ _ _ _ _ h => h) fun hQ => (k_xc 0 [3,2,0,1,1,1,1,0] [0] hQ (by kernel_rfl) rfl rfl rfl rfl rfl rfl (by omega) ?_);refine k_x 1 [3,2,0,1,1,1,1,0] [] hQ (by kernel_rfl) rfl rfl rfl rfl rfl rfl (k_x 2 [3,2,0,1,1,1,1,0] [] hQ (by kernel_rfl) rfl rfl rfl rfl rfl rfl ?_);refine k_xc 3 [3,2,0,1,1,1,1,0] [3] hQ (by kernel_rfl) rfl rfl rfl rfl rfl rfl (by omega) (k_x 4 [3,2,0,1,1,1,1,0] [] hQ (by kernel_rfl) rfl rfl rfl rfl rfl rfl ?_);refine k_xc 5 [3,2,0,1,1,1,1,0] [1] hQ (by kernel_rfl) rfl rfl rfl rfl rfl rfl (by omega) (k_take 6 rfl (by kernel_rfl) hQ rfl rfl rfl (zpk [3,2,0,1,1,1,1,0] rfl) (y_idxAddr (m := a * 10) rfl rfl Tryz.underlying134 Tryz.sizeOf140 (by omega) (by omega) (by omega)) ?_);refine k_take (v := .agg ([.int .i64 k, .int .u64 (s 0), .int .u64 (s 1), .int .u64 (s 2), .int .u64 (s 3), .int .i64 nmi, .int .i64 nma, .int .i64 nnu, .slice v1 v2 v3, .slice u1 ks.length u3]).toArray) 7 rfl (by kernel_rfl) hQ rfl rfl rfl (zpk [3,2,0,1,1,1,1,0] rfl) (y_val (y_ldRN (k := 10) (off := a * 10) (vs := fC (.mk k s nmi nma nnu (.slice v1 v2 v3) q, .slice u1 ks.length u3, ks)) 4 rfl Tryz.isAgg140 Tryz.sizeOf140 rfl (fm_elem fC 10 fC_len C.ns a _ ha) (fC_len _)) rfl) (k_one 8 (by kernel_rfl) ?_);refine k_op 8 rfl (g_alloc rfl rfl Tryz.zeroValue140 rfl (fun b4 => ?_));refine n_ (k_end (zpk [4,3,1,2,2,2,2,1] rfl) ?_);refine k_one 9 (by kernel_rfl) (k_op 9 rfl ?_);refine xg 1 [0] rfl (by omega) (n_ ?_);refine k_end (zpk [4,3,1,2,2,2,2,1] rfl) (k_done (by kernel_rfl) ?_);refine t_ (s_ (o_ (xg 3 [0] rfl (by omega) ?_)));refine n_ (t_ (g_block (s_ (o_ (xg 2 [0] rfl rfl ?_)))));refine n_ (t_ (g_casep 46 rfl (fun h1 => ?_) fun h1 => ?_))
 ·refine g_cond_t rfl (s_ ?_);obtain rfl : k = 1 := by assumption
  have hxn : C.x.n = C.x.l.length := rfl;have hsz := size_mk C.x.l;by_cases hin : i < C.x.n
  ·obtain ⟨ch, hch, hch8⟩ := st8_get (l := C.x.l) (i := i) (by omega);have hch9 := ch.toNat_lt;refine g_quiet (by kernel_rfl) (by kernel_rfl) (xq 6 [3,4,5] rfl (by omega) ?_);refine q_val (v := .int .i64 (C.x.n : Int)) rfl rfl rfl (y_val (y_slen rfl Tryz.underlying9) (by rw [size_mk]; rfl)) (xq 11 [1,0,4,5,3] rfl (by omega) ?_);refine q_val rfl rfl rfl (y_sidx (i := i) rfl rfl Tryz.underlying9 hch8) (q_c1 (m_chas s ch.toNat (by omega)) any_I rfl rfl rfl ?_);refine xq 1 [] rfl rfl (q_nil (t_ ?_));first | refine g_casep 68 rfl (fun h2 => ?_) fun h2 => ?_ | refine g_caseb 68 rfl (fun h2 => ?_) fun h2 => ?_
   ·refine g_cond_t rfl (o_ (xg 4 [1,3] rfl (by omega) ?_));refine g_ahead [2] rfl ?_;simp only [zc0,zc1];refine g_add (k := (i + 1)) (by unfold Cx.W; omega) rfl rfl rfl (n_ (g_in_normal (t_ (s_ ?_))));refine g_ahead [8,0] rfl ?_;simp only [zc0,zc1];refine g_memoAdd (q := kv ⟨a, p, mi, ma, i⟩) (c_one ha hch _ (by first | exact (if_pos (show hasB s ch.toNat = true from decide_eq_true (by assumption))).symm | exact (if_neg (show ¬ hasB s ch.toNat = true from fun h8 => absurd (of_decide_eq_true h8) (by assumption))).symm)) (k_go [4,3,2,2,2,2] rfl (by kernel_rfl) (fun _ _ _ _ _ h => h) fun hQ => ?_);refine k_xc 0 [4,3,2,2,2,2] [0] hQ (by kernel_rfl) rfl rfl rfl rfl rfl rfl (by omega) (k_x 1 [4,3,2,2,2,2] [] hQ (by kernel_rfl) rfl rfl rfl rfl rfl rfl ?_);refine k_x 2 [4,3,2,2,2,2] [] hQ (by kernel_rfl) rfl rfl rfl rfl rfl rfl (k_xc 3 [4,3,2,2,2,2] [3] hQ (by kernel_rfl) rfl rfl rfl rfl rfl rfl (by omega) ?_);refine k_xc 4 [4,3,2,2,2,2] [1] hQ (by kernel_rfl) rfl rfl rfl rfl rfl rfl (by omega) (k_xc 5 [4,3,2,2,2,2] [2] hQ (by kernel_rfl) rfl rfl rfl rfl rfl rfl (by omega) ?_);refine k_one 6 (by kernel_rfl) (k_op 6 rfl ?_);refine g_memoPut 0 rfl rfl rfl rfl Tryz.underlying133 st_law (fun _ h => h) (kv_key hr) (List.mem_cons_self ..) rfl ?_;simp only [zs0,zs1];refine n_ (k_end (zpk [4,3,2,2,2,2] rfl) ?_);refine k_done (by kernel_rfl) (t_ (s_ (o_ ?_)));refine xg 2 [2] rfl (by omega) (n_ (t_ (g_ret ?_)));refine g_end1 Tryz.results49 rfl ?_;exact fun w hS => ⟨⟨(mput M _ gp, (kv ⟨a, p, mi, ma, i⟩, gp) :: E, gp), fun p0 hp0 => List.mem_cons_of_mem _ (hp0), List.mem_cons_self ..⟩, rfl, hS.pick [5,5,5,0] rfl⟩
   refine g_cond_f rfl (g_skip (g_in_normal (t_ (s_ (g_ahead [8,2] rfl ?_)))));simp only [zc0,zc1];refine g_memoAdd (q := kv ⟨a, p, mi, ma, i⟩) (c_one ha hch _ (by first | exact (if_pos (show hasB s ch.toNat = true from decide_eq_true (by assumption))).symm | exact (if_neg (show ¬ hasB s ch.toNat = true from fun h8 => absurd (of_decide_eq_true h8) (by assumption))).symm)) (k_go [4,3,2,2,2,2] rfl (by kernel_rfl) (fun _ _ _ _ _ h => h) fun hQ => ?_);refine k_xc 0 [4,3,2,2,2,2] [0] hQ (by kernel_rfl) rfl rfl rfl rfl rfl rfl (by omega) (k_x 1 [4,3,2,2,2,2] [] hQ (by kernel_rfl) rfl rfl rfl rfl rfl rfl ?_);refine k_x 2 [4,3,2,2,2,2] [] hQ (by kernel_rfl) rfl rfl rfl rfl rfl rfl (k_xc 3 [4,3,2,2,2,2] [3] hQ (by kernel_rfl) rfl rfl rfl rfl rfl rfl (by omega) ?_);refine k_xc 4 [4,3,2,2,2,2] [1] hQ (by kernel_rfl) rfl rfl rfl rfl rfl rfl (by omega) (k_xc 5 [4,3,2,2,2,2] [2] hQ (by kernel_rfl) rfl rfl rfl rfl rfl rfl (by omega) ?_);refine k_one 6 (by kernel_rfl) (k_op 6 rfl ?_);refine g_memoPut 0 rfl rfl rfl rfl Tryz.underlying133 st_law (fun _ h => h) (kv_key hr) (List.mem_cons_self ..) rfl ?_;simp only [zs0,zs1];refine n_ (k_end (zpk [4,3,2,2,2,2] rfl) ?_);refine k_done (by kernel_rfl) (t_ (s_ (o_ ?_)));refine xg 2 [2] rfl (by omega) (n_ (t_ (g_ret ?_)));refine g_end1 Tryz.results49 rfl ?_;exact fun w hS => ⟨⟨(mput M _ gp, (kv ⟨a, p, mi, ma, i⟩, gp) :: E, gp), fun p0 hp0 => List.mem_cons_of_mem _ (hp0), List.mem_cons_self ..⟩, rfl, hS.pick [5,5,5,0] rfl⟩
  refine g_quiet (by kernel_rfl) (by kernel_rfl) (xq 6 [3,4,5] rfl (by omega) ?_);refine q_val (v := .int .i64 (C.x.n : Int)) rfl rfl rfl (y_val (y_slen rfl Tryz.underlying9) (by rw [size_mk]; rfl)) (xq 14 [2] rfl (by omega) ?_);refine q_nil (t_ (g_cond_f rfl (g_skip (g_in_normal (t_ (s_ (g_ahead [8,2] rfl ?_)))))));simp only [zc0,zc1];refine g_memoAdd (q := kv ⟨a, p, mi, ma, i⟩) (c_one0 ha hin) (k_go [4,3,2,2,2,2] rfl (by kernel_rfl) (fun _ _ _ _ _ h => h) fun hQ => ?_);refine k_xc 0 [4,3,2,2,2,2] [0] hQ (by kernel_rfl) rfl rfl rfl rfl rfl rfl (by omega) (k_x 1 [4,3,2,2,2,2] [] hQ (by kernel_rfl) rfl rfl rfl rfl rfl rfl ?_);refine k_x 2 [4,3,2,2,2,2] [] hQ (by kernel_rfl) rfl rfl rfl rfl rfl rfl (k_xc 3 [4,3,2,2,2,2] [3] hQ (by kernel_rfl) rfl rfl rfl rfl rfl rfl (by omega) ?_);refine k_xc 4 [4,3,2,2,2,2] [1] hQ (by kernel_rfl) rfl rfl rfl rfl rfl rfl (by omega) (k_xc 5 [4,3,2,2,2,2] [2] hQ (by kernel_rfl) rfl rfl rfl rfl rfl rfl (by omega) ?_);refine k_one 6 (by kernel_rfl) (k_op 6 rfl ?_);refine g_memoPut 0 rfl rfl rfl rfl Tryz.underlying133 st_law (fun _ h => h) (kv_key hr) (List.mem_cons_self ..) rfl ?_;simp only [zs0,zs1];refine n_ (k_end (zpk [4,3,2,2,2,2] rfl) ?_);refine k_done (by kernel_rfl) (t_ (s_ (o_ ?_)));refine xg 2 [2] rfl (by omega) (n_ (t_ (g_ret ?_)));refine g_end1 Tryz.results49 rfl ?_;exact fun w hS => ⟨⟨(mput M _ gp, (kv ⟨a, p, mi, ma, i⟩, gp) :: E, gp), fun p0 hp0 => List.mem_cons_of_mem _ (hp0), List.mem_cons_self ..⟩, rfl, hS.pick [5,5,5,0] rfl⟩
 refine g_cond_f rfl (s_ (o_ (xg 2 [0] rfl rfl ?_)));refine n_ (t_ (g_casep 74 rfl (fun h3 => ?_) fun h3 => ?_))
 ·refine g_cond_t rfl (s_ ?_);obtain rfl : k = 6 := by assumption
  refine o_ (xg 4 [3,0] rfl (by omega) ?_);refine g_casep 79 rfl (fun h4 => ?_) fun h4 => ?_
  ·refine xg 5 [4,5] rfl (by omega) (n_ (t_ ?_));first | refine g_casep 84 rfl (fun h5 => ?_) fun h5 => ?_ | refine g_caseb 84 rfl (fun h5 => ?_) fun h5 => ?_
   ·refine g_cond_t rfl (o_ (xg 1 [1] rfl (by omega) ?_));refine g_ahead [2] rfl ?_;simp only [zc0,zc1];refine g_add (k := 0) (by unfold Cx.W; omega) rfl rfl rfl (n_ (g_in_normal (t_ (s_ ?_))));refine g_ahead [8,0] rfl ?_;simp only [zc0,zc1];refine g_memoAdd (q := kv ⟨a, p, mi, ma, i⟩) (c_beg ha _ (by first | exact (if_pos ⟨by omega, by assumption⟩).symm | exact (if_neg (fun h8 => by first | (have := h8.1; omega) | (have h9 := h8.2; rw [show C.x.bg = false by assumption] at h9; cases h9))).symm)) (k_go [4,3,2,2,2,2] rfl (by kernel_rfl) (fun _ _ _ _ _ h => h) fun hQ => ?_);refine k_xc 0 [4,3,2,2,2,2] [0] hQ (by kernel_rfl) rfl rfl rfl rfl rfl rfl (by omega) (k_x 1 [4,3,2,2,2,2] [] hQ (by kernel_rfl) rfl rfl rfl rfl rfl rfl ?_);refine k_x 2 [4,3,2,2,2,2] [] hQ (by kernel_rfl) rfl rfl rfl rfl rfl rfl (k_xc 3 [4,3,2,2,2,2] [3] hQ (by kernel_rfl) rfl rfl rfl rfl rfl rfl (by omega) ?_);refine k_xc 4 [4,3,2,2,2,2] [1] hQ (by kernel_rfl) rfl rfl rfl rfl rfl rfl (by omega) (k_xc 5 [4,3,2,2,2,2] [2] hQ (by kernel_rfl) rfl rfl rfl rfl rfl rfl (by omega) ?_);refine k_one 6 (by kernel_rfl) (k_op 6 rfl ?_);refine g_memoPut 0 rfl rfl rfl rfl Tryz.underlying133 st_law (fun _ h => h) (kv_key hr) (List.mem_cons_self ..) rfl ?_;simp only [zs0,zs1];refine n_ (k_end (zpk [4,3,2,2,2,2] rfl) ?_);refine k_done (by kernel_rfl) (t_ (s_ (o_ ?_)));refine xg 2 [2] rfl (by omega) (n_ (t_ (g_ret ?_)));refine g_end1 Tryz.results49 rfl ?_;exact fun w hS => ⟨⟨(mput M _ gp, (kv ⟨a, p, mi, ma, i⟩, gp) :: E, gp), fun p0 hp0 => List.mem_cons_of_mem _ (hp0), List.mem_cons_self ..⟩, rfl, hS.pick [5,5,5,0] rfl⟩
   refine g_cond_f rfl (g_skip (g_in_normal (t_ (s_ (g_ahead [8,2] rfl ?_)))));simp only [zc0,zc1];refine g_memoAdd (q := kv ⟨a, p, mi, ma, i⟩) (c_beg ha _ (by first | exact (if_pos ⟨by omega, by assumption⟩).symm | exact (if_neg (fun h8 => by first | (have := h8.1; omega) | (have h9 := h8.2; rw [show C.x.bg = false by assumption] at h9; cases h9))).symm)) (k_go [4,3,2,2,2,2] rfl (by kernel_rfl) (fun _ _ _ _ _ h => h) fun hQ => ?_);refine k_xc 0 [4,3,2,2,2,2] [0] hQ (by kernel_rfl) rfl rfl rfl rfl rfl rfl (by omega) (k_x 1 [4,3,2,2,2,2] [] hQ (by kernel_rfl) rfl rfl rfl rfl rfl rfl ?_);refine k_x 2 [4,3,2,2,2,2] [] hQ (by kernel_rfl) rfl rfl rfl rfl rfl rfl (k_xc 3 [4,3,2,2,2,2] [3] hQ (by kernel_rfl) rfl rfl rfl rfl rfl rfl (by omega) ?_);refine k_xc 4 [4,3,2,2,2,2] [1] hQ (by kernel_rfl) rfl rfl rfl rfl rfl rfl (by omega) (k_xc 5 [4,3,2,2,2,2] [2] hQ (by kernel_rfl) rfl rfl rfl rfl rfl rfl (by omega) ?_);refine k_one 6 (by kernel_rfl) (k_op 6 rfl ?_);refine g_memoPut 0 rfl rfl rfl rfl Tryz.underlying133 st_law (fun _ h => h) (kv_key hr) (List.mem_cons_self ..) rfl ?_;simp only [zs0,zs1];refine n_ (k_end (zpk [4,3,2,2,2,2] rfl) ?_);refine k_done (by kernel_rfl) (t_ (s_ (o_ ?_)));refine xg 2 [2] rfl (by omega) (n_ (t_ (g_ret ?_)));refine g_end1 Tryz.results49 rfl ?_;exact fun w hS => ⟨⟨(mput M _ gp, (kv ⟨a, p, mi, ma, i⟩, gp) :: E, gp), fun p0 hp0 => List.mem_cons_of_mem _ (hp0), List.mem_cons_self ..⟩, rfl, hS.pick [5,5,5,0] rfl⟩
  refine xg 5 [] rfl rfl (n_ (t_ (g_cond_f rfl (g_skip (g_in_normal (t_ (s_ ?_)))))));refine g_ahead [8,2] rfl ?_;simp only [zc0,zc1];refine g_memoAdd (q := kv ⟨a, p, mi, ma, i⟩) (c_beg ha _ (by first | exact (if_pos ⟨by omega, by assumption⟩).symm | exact (if_neg (fun h8 => by first | (have := h8.1; omega) | (have h9 := h8.2; rw [show C.x.bg = false by assumption] at h9; cases h9))).symm)) (k_go [4,3,2,2,2,2] rfl (by kernel_rfl) (fun _ _ _ _ _ h => h) fun hQ => ?_);refine k_xc 0 [4,3,2,2,2,2] [0] hQ (by kernel_rfl) rfl rfl rfl rfl rfl rfl (by omega) (k_x 1 [4,3,2,2,2,2] [] hQ (by kernel_rfl) rfl rfl rfl rfl rfl rfl ?_);refine k_x 2 [4,3,2,2,2,2] [] hQ (by kernel_rfl) rfl rfl rfl rfl rfl rfl (k_xc 3 [4,3,2,2,2,2] [3] hQ (by kernel_rfl) rfl rfl rfl rfl rfl rfl (by omega) ?_);refine k_xc 4 [4,3,2,2,2,2] [1] hQ (by kernel_rfl) rfl rfl rfl rfl rfl rfl (by omega) (k_xc 5 [4,3,2,2,2,2] [2] hQ (by kernel_rfl) rfl rfl rfl rfl rfl rfl (by omega) ?_);refine k_one 6 (by kernel_rfl) (k_op 6 rfl ?_);refine g_memoPut 0 rfl rfl rfl rfl Tryz.underlying133 st_law (fun _ h => h) (kv_key hr) (List.mem_cons_self ..) rfl ?_;simp only [zs0,zs1];refine n_ (k_end (zpk [4,3,2,2,2,2] rfl) ?_);refine k_done (by kernel_rfl) (t_ (s_ (o_ ?_)));refine xg 2 [2] rfl (by omega) (n_ (t_ (g_ret ?_)));refine g_end1 Tryz.results49 rfl ?_;exact fun w hS => ⟨⟨(mput M _ gp, (kv ⟨a, p, mi, ma, i⟩, gp) :: E, gp), fun p0 hp0 => List.mem_cons_of_mem _ (hp0), List.mem_cons_self ..⟩, rfl, hS.pick [5,5,5,0] rfl⟩
 refine g_cond_f rfl (s_ (o_ (xg 2 [0] rfl rfl ?_)));refine n_ (t_ (g_casep 87 rfl (fun h6 => ?_) fun h6 => ?_))
 ·refine g_cond_t rfl (s_ ?_);obtain rfl : k = 7 := by assumption
  refine g_quiet (by kernel_rfl) (by kernel_rfl) (xq 6 [3,4,5] rfl (by omega) ?_);refine q_val (v := .int .i64 (C.x.n : Int)) rfl rfl rfl (y_val (y_slen rfl Tryz.underlying9) (by rw [size_mk]; rfl)) (xq 1 [0] rfl rfl ?_);refine q_nil (t_ (g_casep 96 rfl (fun h7 => ?_) fun h7 => ?_))
  ·refine g_cond_t rfl (o_ (xg 3 [1,3] rfl (by omega) ?_));refine g_ahead [2] rfl ?_;simp only [zc0,zc1];refine g_add (k := i) (by unfold Cx.W; omega) rfl rfl rfl (n_ (g_in_normal (t_ (s_ ?_))));refine g_ahead [8,0] rfl ?_;simp only [zc0,zc1];refine g_memoAdd (q := kv ⟨a, p, mi, ma, i⟩) (c_end ha _ (by first | exact (if_pos (by omega)).symm | exact (if_neg (by omega)).symm)) (k_go [4,3,2,2,2,2] rfl (by kernel_rfl) (fun _ _ _ _ _ h => h) fun hQ => ?_);refine k_xc 0 [4,3,2,2,2,2] [0] hQ (by kernel_rfl) rfl rfl rfl rfl rfl rfl (by omega) (k_x 1 [4,3,2,2,2,2] [] hQ (by kernel_rfl) rfl rfl rfl rfl rfl rfl ?_);refine k_x 2 [4,3,2,2,2,2] [] hQ (by kernel_rfl) rfl rfl rfl rfl rfl rfl (k_xc 3 [4,3,2,2,2,2] [3] hQ (by kernel_rfl) rfl rfl rfl rfl rfl rfl (by omega) ?_);refine k_xc 4 [4,3,2,2,2,2] [1] hQ (by kernel_rfl) rfl rfl rfl rfl rfl rfl (by omega) (k_xc 5 [4,3,2,2,2,2] [2] hQ (by kernel_rfl) rfl rfl rfl rfl rfl rfl (by omega) ?_);refine k_one 6 (by kernel_rfl) (k_op 6 rfl ?_);refine g_memoPut 0 rfl rfl rfl rfl Tryz.underlying133 st_law (fun _ h => h) (kv_key hr) (List.mem_cons_self ..) rfl ?_;simp only [zs0,zs1];refine n_ (k_end (zpk [4,3,2,2,2,2] rfl) ?_);refine k_done (by kernel_rfl) (t_ (s_ (o_ ?_)));refine xg 2 [2] rfl (by omega) (n_ (t_ (g_ret ?_)));refine g_end1 Tryz.results49 rfl ?_;exact fun w hS => ⟨⟨(mput M _ gp, (kv ⟨a, p, mi, ma, i⟩, gp) :: E, gp), fun p0 hp0 => List.mem_cons_of_mem _ (hp0), List.mem_cons_self ..⟩, rfl, hS.pick [5,5,5,0] rfl⟩
  refine g_cond_f rfl (g_skip (g_in_normal (t_ (s_ (g_ahead [8,2] rfl ?_)))));simp only [zc0,zc1];refine g_memoAdd (q := kv ⟨a, p, mi, ma, i⟩) (c_end ha _ (by first | exact (if_pos (by omega)).symm | exact (if_neg (by omega)).symm)) (k_go [4,3,2,2,2,2] rfl (by kernel_rfl) (fun _ _ _ _ _ h => h) fun hQ => ?_);refine k_xc 0 [4,3,2,2,2,2] [0] hQ (by kernel_rfl) rfl rfl rfl rfl rfl rfl (by omega) (k_x 1 [4,3,2,2,2,2] [] hQ (by kernel_rfl) rfl rfl rfl rfl rfl rfl ?_);refine k_x 2 [4,3,2,2,2,2] [] hQ (by kernel_rfl) rfl rfl rfl rfl rfl rfl (k_xc 3 [4,3,2,2,2,2] [3] hQ (by kernel_rfl) rfl rfl rfl rfl rfl rfl (by omega) ?_);refine k_xc 4 [4,3,2,2,2,2] [1] hQ (by kernel_rfl) rfl rfl rfl rfl rfl rfl (by omega) (k_xc 5 [4,3,2,2,2,2] [2] hQ (by kernel_rfl) rfl rfl rfl rfl rfl rfl (by omega) ?_);refine k_one 6 (by kernel_rfl) (k_op 6 rfl ?_);refine g_memoPut 0 rfl rfl rfl rfl Tryz.underlying133 st_law (fun _ h => h) (kv_key hr) (List.mem_cons_self ..) rfl ?_;simp only [zs0,zs1];refine n_ (k_end (zpk [4,3,2,2,2,2] rfl) ?_);refine k_done (by kernel_rfl) (t_ (s_ (o_ ?_)));refine xg 2 [2] rfl (by omega) (n_ (t_ (g_ret ?_)));refine g_end1 Tryz.results49 rfl ?_;exact fun w hS => ⟨⟨(mput M _ gp, (kv ⟨a, p, mi, ma, i⟩, gp) :: E, gp), fun p0 hp0 => List.mem_cons_of_mem _ (hp0), List.mem_cons_self ..⟩, rfl, hS.pick [5,5,5,0] rfl⟩
 refine g_cond_f rfl (s_ (o_ (xg 2 [0] rfl rfl ?_)));refine n_ (t_ (g_casep 101 rfl (fun h8 => ?_) fun h8 => ?_))
 ·refine g_cond_t rfl (s_ (s_ ?_));obtain rfl : k = 2 := by assumption
  replace hlq := hlq (by decide) (by decide)
  have hpk := hrow rfl;refine o_ (xg 4 [3,0] rfl (by omega) ?_);refine g_val (v := .int .i64 ((ks.length : Nat) : Int)) rfl rfl rfl (y_llen rfl Tryz.underlying138) (xg 1 [0] rfl rfl ?_);refine n_ (t_ (g_casep 108 rfl (fun h9 => ?_) fun h9 => ?_))
  ·refine g_cond_t rfl (s_ (o_ (xg 3 [1,3] rfl (by omega) ?_)));refine g_ahead [2] rfl ?_;simp only [zc0,zc1];refine g_add (k := i) (by unfold Cx.W; omega) rfl rfl rfl (n_ (t_ (g_exit (g_then_exit (g_in_exit (t_ (s_ ?_)))))));refine g_ahead [8,0] rfl ?_;simp only [zc0,zc1];refine g_memoAdd (q := kv ⟨a, p, mi, ma, i⟩) (c_row0 ha (by have := laidL_len hlq; omega)) (k_go [4,3,2,2,2,2] rfl (by kernel_rfl) (fun _ _ _ _ _ h => h) fun hQ => ?_);refine k_xc 0 [4,3,2,2,2,2] [0] hQ (by kernel_rfl) rfl rfl rfl rfl rfl rfl (by omega) (k_x 1 [4,3,2,2,2,2] [] hQ (by kernel_rfl) rfl rfl rfl rfl rfl rfl ?_);refine k_x 2 [4,3,2,2,2,2] [] hQ (by kernel_rfl) rfl rfl rfl rfl rfl rfl (k_xc 3 [4,3,2,2,2,2] [3] hQ (by kernel_rfl) rfl rfl rfl rfl rfl rfl (by omega) ?_);refine k_xc 4 [4,3,2,2,2,2] [1] hQ (by kernel_rfl) rfl rfl rfl rfl rfl rfl (by omega) (k_xc 5 [4,3,2,2,2,2] [2] hQ (by kernel_rfl) rfl rfl rfl rfl rfl rfl (by omega) ?_);refine k_one 6 (by kernel_rfl) (k_op 6 rfl ?_);refine g_memoPut 0 rfl rfl rfl rfl Tryz.underlying133 st_law (fun _ h => h) (kv_key hr) (List.mem_cons_self ..) rfl ?_;simp only [zs0,zs1];refine n_ (k_end (zpk [4,3,2,2,2,2] rfl) ?_);refine k_done (by kernel_rfl) (t_ (s_ (o_ ?_)));refine xg 2 [2] rfl (by omega) (n_ (t_ (g_ret ?_)));refine g_end1 Tryz.results49 rfl ?_;exact fun w hS => ⟨⟨(mput M _ gp, (kv ⟨a, p, mi, ma, i⟩, gp) :: E, gp), fun p0 hp0 => List.mem_cons_of_mem _ (hp0), List.mem_cons_self ..⟩, rfl, hS.pick [5,5,5,0] rfl⟩
  refine g_cond_f rfl (g_skip (t_ ?_));obtain ⟨gk, rfl⟩ := hgk (by omega);obtain ⟨t2, kk, hqp, hkk, hl2⟩ := laidL_get hlq (p := p) (by omega);obtain ⟨k2, s2, mi2, ma2, nu2, v12, u12, v22, v32, u22, u32, q2, ks2, rfl, hb, _, _⟩ := Cx.node hl2;refine k_go [4,3,1,0,1,1,1] rfl (by kernel_rfl) (fun _ _ _ _ _ h => h) fun hQ => (k_xc 0 [4,3,1,0,1,1,1] [0] hQ (by kernel_rfl) rfl rfl rfl rfl rfl rfl (by omega) ?_);refine k_xc 1 [4,3,1,0,1,1,1] [0] hQ (by kernel_rfl) rfl rfl rfl rfl rfl rfl (by omega) (k_x 2 [4,3,1,0,1,1,1] [] hQ (by kernel_rfl) rfl rfl rfl rfl rfl rfl ?_);refine k_xc 3 [4,3,1,0,1,1,1] [3] hQ (by kernel_rfl) rfl rfl rfl rfl rfl rfl (by omega) (k_x 4 [4,3,1,0,1,1,1] [] hQ (by kernel_rfl) rfl rfl rfl rfl rfl rfl ?_);refine k_xc 5 [4,3,1,0,1,1,1] [1] hQ (by kernel_rfl) rfl rfl rfl rfl rfl rfl (by omega) (k_take 6 rfl (by kernel_rfl) hQ rfl rfl rfl (zpk [4,3,1,0,1,1,1] rfl) (y_idxAddr (m := p) rfl rfl Tryz.underlying138 Tryz.sizeOf3 (by omega) (by omega) (by omega)) ?_);refine k_take (v := .int .i64 (kk : Int)) 7 rfl (by kernel_rfl) hQ rfl rfl rfl (zpk [4,3,1,0,1,1,1] rfl) (y_ldK (p := p) 6 rfl ha hkk rfl Tryz.isAgg3) (k_x 8 [4,3,1,0,1,1,1] [] hQ (by kernel_rfl) rfl rfl rfl rfl rfl rfl ?_);refine k_xc 9 [4,3,1,0,1,1,1] [1] hQ (by kernel_rfl) rfl rfl rfl rfl rfl rfl (by omega) (k_call 10 (m_begin C.b C.mp kk i _ C.x C.ns k2 s2 mi2 ma2 nu2 v12 u12 v22 v32 u22 u32 q2 ks2 hb C.hx) (fun w hS => Cx.mi hS (i := 4) (j := 5) rfl rfl) rfl (by kernel_rfl) hQ rfl rfl rfl (zpk [4,3,1,0,1,1,1] rfl) ?_);refine k_x 12 [4,3,1,0,1,1,1] [] hQ (by kernel_rfl) rfl rfl rfl rfl rfl rfl (k_xc 13 [4,3,1,0,1,1,1] [1] hQ (by kernel_rfl) rfl rfl rfl rfl rfl rfl (by omega) ?_);refine k_take 14 rfl (by kernel_rfl) hQ rfl rfl rfl (zpk [4,3,1,0,1,1,1] rfl) (y_makeFunc rfl) (k_one 11 (by kernel_rfl) ?_);refine k_op 11 rfl (g_ahead [5,5,5,5] rfl ?_);simp only [zc0,zc1];refine g_all (hbeg _ kk (List.mem_of_getElem? hqp) hl2) rfl rfl rfl (fun M1 E1 g1 hs1 hm1 => (n_ ?_));refine k_end (zpk [8,7,5,4,0,0,0] rfl) (k_one 15 (by kernel_rfl) ?_);refine k_op 15 rfl (g_ahead [5,7,6,0,0,0,0,1] rfl ?_);simp only [zc0,zc1];refine g_each (fr := i) (fun k => Sp C.x C.ns (kv ⟨a, p + 1, 0, 0, k⟩)) hm1 (fun k h1 h2 h3 c M E F w hS => clo1_any C _ _ _ _ k a p i mi ma c hr (hnext rfl (by omega) k h1 (mM_in _ hi (by rw [Sp_kv, spec_beg hl2] at h3; exact h3)).2) M E F w hS) Tryz.call76 (by unfold Cx.W; omega) rfl rfl rfl (fun M2 E2 hs2 => (n_ ?_));refine k_end (zpk [1,1,0,5,0,0,0] rfl) (k_done (by kernel_rfl) ?_);refine g_in_normal (t_ (s_ (g_ahead [6,6] rfl ?_)));simp only [zc0,zc1];refine g_memoAdd (q := kv ⟨a, p, mi, ma, i⟩) (c_row ha hqp hi (by rw [Sp_kv, spec_beg hl2]) (by unfold Cx.W; omega)) (k_go [2,2,1,1,1,1] rfl (by kernel_rfl) (fun _ _ _ _ _ h => h) fun hQ => ?_);refine k_xc 0 [2,2,1,1,1,1] [0] hQ (by kernel_rfl) rfl rfl rfl rfl rfl rfl (by omega) (k_x 1 [2,2,1,1,1,1] [] hQ (by kernel_rfl) rfl rfl rfl rfl rfl rfl ?_);refine k_x 2 [2,2,1,1,1,1] [] hQ (by kernel_rfl) rfl rfl rfl rfl rfl rfl (k_xc 3 [2,2,1,1,1,1] [3] hQ (by kernel_rfl) rfl rfl rfl rfl rfl rfl (by omega) ?_);refine k_xc 4 [2,2,1,1,1,1] [1] hQ (by kernel_rfl) rfl rfl rfl rfl rfl rfl (by omega) (k_xc 5 [2,2,1,1,1,1] [2] hQ (by kernel_rfl) rfl rfl rfl rfl rfl rfl (by omega) ?_);refine k_one 6 (by kernel_rfl) (k_op 6 rfl ?_);refine g_memoPut 0 rfl rfl rfl rfl Tryz.underlying133 st_law (fun _ h => h) (kv_key hr) (List.mem_cons_self ..) rfl ?_;simp only [zs0,zs1];refine n_ (k_end (zpk [2,2,1,1,1,1] rfl) ?_);refine k_done (by kernel_rfl) (t_ (s_ (o_ ?_)));refine xg 2 [1] rfl (by omega) (n_ (t_ (g_ret ?_)));refine g_end1 Tryz.results49 rfl ?_;exact fun w hS => ⟨⟨(mput M2 _ gp, (kv ⟨a, p, mi, ma, i⟩, gp) :: E2, gp), fun p0 hp0 => List.mem_cons_of_mem _ (hs2 _ (hs1 _ (hp0))), List.mem_cons_self ..⟩, rfl, hS.pick [4,4,4,0] rfl⟩
 refine g_cond_f rfl (s_ (o_ (xg 2 [0] rfl rfl ?_)));refine n_ (t_ (g_casep 129 rfl (fun h10 => ?_) fun h10 => ?_))
 ·refine g_cond_t rfl (s_ ?_);obtain rfl : k = 3 := by assumption
  replace hlq := hlq (by decide) (by decide)
  rw [eiP_zero (x := C.x) (q := q) (i := i)];refine o_ (xg 2 [0] rfl (by omega) ?_);refine g_val (v := .int .i64 ((ks.length : Nat) : Int)) rfl rfl rfl (y_llen rfl Tryz.underlying138) (xg 1 [] rfl rfl ?_);refine n_ (t_ (g_block (g_loop (α := {x : Nat × (Value → Option Nat) × List (Value × Nat) // x.1 ≤ ks.length ∧ ∀ p, p ∈ E → p ∈ x.2.2}) (fun x => [(2, .pointer (some ⟨b1, 0, none⟩)), (3, .pointer (some ⟨b2, 0, none⟩)), (7, .pointer (some ⟨b3, 0, none⟩)), (132, .slice u1 ks.length u3), (133, .int .i64 ((ks.length : Nat) : Int)), (134, .int .i64 (x.1.1 : Int))]) (fun x => St w F [.cells b3 104 [slW C.W gp], .cells b1 97 [.pointer (some ⟨C.b, 0, none⟩)], .cells b2 101 [.int .i64 (a : Int), .int .i64 (p : Int), .int .i64 mi, .int .i64 ma, .int .i64 (i : Int)], C.mt, C.nd, .kids C.ns, C.mo x.1.2.1 x.1.2.2, .row 26 1 (slW C.W gp) C.W (wcs C.W (eiP C.x q i x.1.1))]) (fun x => ks.length - x.1.1) ⟨(0, M, E), Nat.zero_le _, fun _ h => h⟩ [2, 3, 7, 132, 133, 134] rfl (zpk [1,3,2,2,2,2,2,1] rfl) ?_)));rintro ⟨⟨m, M3, E3⟩, hm, hs3⟩;dsimp only;dsimp only at hm hs3;refine s_ (o_ (xg 1 [0] rfl rfl ?_));refine n_ (t_ (s_ (g_casep 135 rfl (fun h11 => ?_) fun h11 => ?_)))
  ·refine g_cond_t rfl (g_skip (t_ (s_ (g_block (s_ ?_)))));obtain ⟨gk, rfl⟩ := hgk (by omega);obtain ⟨t2, kk, hqm, hkk, hl2⟩ := laidL_get hlq (p := m) (by omega);obtain ⟨k2, s2, mi2, ma2, nu2, v12, u12, v22, v32, u22, u32, q2, ks2, rfl, hb, _, _⟩ := Cx.node hl2;refine o_ (g_val rfl rfl rfl (y_idxAddr (m := m) rfl rfl Tryz.underlying138 Tryz.sizeOf3 (by omega) (by omega) (by omega)) ?_);refine g_val (v := .int .i64 (kk : Int)) rfl rfl rfl (y_ldK (p := m) 5 rfl ha hkk rfl Tryz.isAgg3) (xg 1 [] rfl rfl ?_);refine n_ (t_ (k_go [1,1,0,0,0,0] rfl (by kernel_rfl) (fun _ _ _ _ _ h => h) fun hQ => ?_));refine k_xc 0 [1,1,0,0,0,0] [2] hQ (by kernel_rfl) rfl rfl rfl rfl rfl rfl (by omega) (k_xc 1 [1,1,0,0,0,0] [0] hQ (by kernel_rfl) rfl rfl rfl rfl rfl rfl (by omega) ?_);refine k_xc 2 [1,1,0,0,0,0] [0] hQ (by kernel_rfl) rfl rfl rfl rfl rfl rfl (by omega) (k_x 3 [1,1,0,0,0,0] [] hQ (by kernel_rfl) rfl rfl rfl rfl rfl rfl ?_);refine k_x 4 [1,1,0,0,0,0] [] hQ (by kernel_rfl) rfl rfl rfl rfl rfl rfl (k_xc 5 [1,1,0,0,0,0] [1] hQ (by kernel_rfl) rfl rfl rfl rfl rfl rfl (by omega) ?_);refine k_call 6 (m_begin C.b C.mp kk i _ C.x C.ns k2 s2 mi2 ma2 nu2 v12 u12 v22 v32 u22 u32 q2 ks2 hb C.hx) (fun w hS => Cx.mi hS (i := 3) (j := 4) rfl rfl) rfl (by kernel_rfl) hQ rfl rfl rfl (zpk [1,1,0,0,0,0] rfl) (k_one 7 (by kernel_rfl) ?_);refine k_op 7 rfl (g_ahead [3,3,3,3] rfl ?_);simp only [zc0,zc1];refine g_all (hbeg _ kk (List.mem_of_getElem? hqm) hl2) rfl rfl rfl (fun M1 E1 g1 hs1 hm1 => (n_ ?_));refine k_end (zpk [5,5,4,0,0,0] rfl) (k_one 8 (by kernel_rfl) ?_);refine k_op 8 rfl (g_ahead [7] rfl ?_);simp only [zc0,zc1];refine g_joinM 3 rfl rfl rfl rfl hm1 ?_;rw [show Sp C.x C.ns (kv (beg C.x C.ns kk i)) = mM C.x _ i from (Sp_kv _ _ _).trans (spec_beg hl2), eiP_next hqm];refine n_ (k_end (zpk [6,6,5,1,1,1] rfl) ?_);refine k_done (by kernel_rfl) (g_in_normal (t_ (o_ ?_)));refine xg 2 [] rfl (by omega) (n_ ?_);exact g_again ⟨(m + 1, M1, E1), by dsimp only; omega, fun p hp => hs1 p (hs3 p hp)⟩ [2, 3, 7, 132, 133, 134] (by dsimp only; omega) rfl (zpk [5,5,5,1,1,1,1,0] rfl)
  refine g_cond_f rfl (g_exit (g_then_exit (g_then_exit (g_in_exit (g_in_normal (t_ (s_ (g_ahead [6,6] rfl ?_))))))));simp only [zc0,zc1];refine g_memoAdd (q := kv ⟨a, p, mi, ma, i⟩) (c_ei ha (by have := laidL_len hlq; omega)) (k_go [2,2,1,1,1,1] rfl (by kernel_rfl) (fun _ _ _ _ _ h => h) fun hQ => ?_);refine k_xc 0 [2,2,1,1,1,1] [0] hQ (by kernel_rfl) rfl rfl rfl rfl rfl rfl (by omega) (k_x 1 [2,2,1,1,1,1] [] hQ (by kernel_rfl) rfl rfl rfl rfl rfl rfl ?_);refine k_x 2 [2,2,1,1,1,1] [] hQ (by kernel_rfl) rfl rfl rfl rfl rfl rfl (k_xc 3 [2,2,1,1,1,1] [3] hQ (by kernel_rfl) rfl rfl rfl rfl rfl rfl (by omega) ?_);refine k_xc 4 [2,2,1,1,1,1] [1] hQ (by kernel_rfl) rfl rfl rfl rfl rfl rfl (by omega) (k_xc 5 [2,2,1,1,1,1] [2] hQ (by kernel_rfl) rfl rfl rfl rfl rfl rfl (by omega) ?_);refine k_one 6 (by kernel_rfl) (k_op 6 rfl ?_);refine g_memoPut 0 rfl rfl rfl rfl Tryz.underlying133 st_law (fun _ h => h) (kv_key hr) (List.mem_cons_self ..) rfl ?_;simp only [zs0,zs1];refine n_ (k_end (zpk [2,2,1,1,1,1] rfl) ?_);refine k_done (by kernel_rfl) (t_ (s_ (o_ ?_)));refine xg 2 [1] rfl (by omega) (n_ (t_ (g_ret ?_)));refine g_end1 Tryz.results49 rfl ?_;exact fun w hS => ⟨⟨(mput M3 _ gp, (kv ⟨a, p, mi, ma, i⟩, gp) :: E3, gp), fun p0 hp0 => List.mem_cons_of_mem _ (hs3 _ (hp0)), List.mem_cons_self ..⟩, rfl, hS.pick [4,4,4,0] rfl⟩
 refine g_cond_f rfl (s_ (o_ (xg 2 [0] rfl rfl ?_)));refine n_ (t_ (g_casep 148 rfl (fun h12 => ?_) fun h12 => ?_))
 ·refine g_cond_t rfl ?_;obtain rfl : k = 5 := by assumption
  refine k_go [4,3,1,0,1,1,1] rfl (by kernel_rfl) (fun _ _ _ _ _ h => h) fun hQ => (k_xc 0 [4,3,1,0,1,1,1] [2] hQ (by kernel_rfl) rfl rfl rfl rfl rfl rfl (by omega) ?_);refine k_xc 1 [4,3,1,0,1,1,1] [0] hQ (by kernel_rfl) rfl rfl rfl rfl rfl rfl (by omega) (k_xc 2 [4,3,1,0,1,1,1] [3] hQ (by kernel_rfl) rfl rfl rfl rfl rfl rfl (by omega) ?_);refine k_x 3 [4,3,1,0,1,1,1] [] hQ (by kernel_rfl) rfl rfl rfl rfl rfl rfl (k_xc 4 [4,3,1,0,1,1,1] [1] hQ (by kernel_rfl) rfl rfl rfl rfl rfl rfl (by omega) ?_);refine k_one 5 (by kernel_rfl) (k_op 5 rfl ?_);refine g_ahead [5,5,5,5] rfl ?_;simp only [zc0,zc1];refine g_kid (hkid (by omega)) rfl rfl rfl (fun M1 E1 q1 g1 hs1 hm1 hq1 => (n_ ?_));refine k_end (zpk [8,7,5,4,0,0,0] rfl) (k_one 6 (by kernel_rfl) ?_);refine k_op 6 rfl (g_ahead [6] rfl ?_);simp only [zc0,zc1];refine g_joinM 3 rfl rfl rfl rfl hm1 (n_ ?_);refine k_end (zpk [8,7,6,5,1,1,1] rfl) (k_done (by kernel_rfl) ?_);refine g_in_normal (t_ (s_ (g_ahead [4,0] rfl ?_)));simp only [zc0,zc1];refine g_memoAdd (q := kv ⟨a, p, mi, ma, i⟩) (c_grp ha hq1) (k_go [7,6,5,1,1,1] rfl (by kernel_rfl) (fun _ _ _ _ _ h => h) fun hQ => ?_);refine k_xc 0 [7,6,5,1,1,1] [0] hQ (by kernel_rfl) rfl rfl rfl rfl rfl rfl (by omega) (k_x 1 [7,6,5,1,1,1] [] hQ (by kernel_rfl) rfl rfl rfl rfl rfl rfl ?_);refine k_x 2 [7,6,5,1,1,1] [] hQ (by kernel_rfl) rfl rfl rfl rfl rfl rfl (k_xc 3 [7,6,5,1,1,1] [3] hQ (by kernel_rfl) rfl rfl rfl rfl rfl rfl (by omega) ?_);refine k_xc 4 [7,6,5,1,1,1] [1] hQ (by kernel_rfl) rfl rfl rfl rfl rfl rfl (by omega) (k_xc 5 [7,6,5,1,1,1] [2] hQ (by kernel_rfl) rfl rfl rfl rfl rfl rfl (by omega) ?_);refine k_one 6 (by kernel_rfl) (k_op 6 rfl ?_);refine g_memoPut 0 rfl rfl rfl rfl Tryz.underlying133 st_law (fun _ h => h) (kv_key hr) (List.mem_cons_self ..) rfl ?_;simp only [zs0,zs1];refine n_ (k_end (zpk [7,6,5,1,1,1] rfl) ?_);refine k_done (by kernel_rfl) (t_ (s_ (o_ ?_)));refine xg 2 [5] rfl (by omega) (n_ (t_ (g_ret ?_)));refine g_end1 Tryz.results49 rfl ?_;exact fun w hS => ⟨⟨(mput M1 _ gp, (kv ⟨a, p, mi, ma, i⟩, gp) :: E1, gp), fun p0 hp0 => List.mem_cons_of_mem _ (hs1 _ (hp0)), List.mem_cons_self ..⟩, rfl, hS.pick [1,1,1,0] rfl⟩
 refine g_cond_f rfl (s_ (o_ (xg 2 [0] rfl rfl ?_)));refine n_ (t_ (g_casep 157 rfl (fun h13 => ?_) fun h13 => ?_))
 ·refine g_cond_t rfl (s_ ?_);obtain rfl : k = 4 := by assumption
  refine o_ (xg 4 [4,0,3] rfl (by omega) ?_);refine g_ahead [5,5,5,5] rfl ?_;simp only [zc0,zc1];refine g_kid (hkid (by omega)) rfl rfl rfl (fun M1 E1 q1 g1 hs1 hm1 hq1 => (xg 1 [] rfl rfl ?_));refine n_ (t_ (s_ (s_ (o_ (xg 4 [7,0] rfl (by omega) ?_)))));refine g_casep 167 rfl (fun h14 => ?_) fun h14 => ?_
  ·refine xg 5 [] rfl rfl (n_ (t_ (g_cond_t rfl (o_ ?_))));refine xg 3 [5,7] rfl (by omega) (g_ahead [6] rfl ?_);simp only [zc0,zc1];refine g_add (k := i) (by unfold Cx.W; omega) rfl rfl rfl (ntso_ ?_);refine xg 3 [7,0] rfl (by omega) (n_ (t_ ?_));refine g_casep 179 rfl (fun h15 => ?_) fun h15 => ?_
   ·refine g_cond_t rfl (o_ (xg 4 [7] rfl (by omega) ?_));refine g_val rfl rfl rfl (y_makeFunc rfl) (g_ahead [6,7,6,1,1,1,1,0] rfl ?_);simp only [zc0,zc1];refine g_each (fr := i + 1) (fun k => Sp C.x C.ns (kv (round ⟨a, p, mi, ma, i⟩ k))) hm1 (fun k h1 h2 h3 c M E F w hS => clo2_any C _ _ _ _ k a p i mi ma c hr (hrnd rfl (by assumption) k (by omega) (mKid_in _ hi (by rw [hq1] at h3; exact h3)).2) M E F w hS) Tryz.call80 (by unfold Cx.W; omega) rfl rfl rfl (fun M2 E2 hs2 => (n_ (g_in_normal (t_ (s_ ?_)))));refine g_ahead [6,6] rfl ?_;simp only [zc0,zc1];refine g_memoAdd (q := kv ⟨a, p, mi, ma, i⟩) (c_rep ha hi hq1 (by omega) _ (by first | exact (if_pos (.inl (by omega))).symm | exact (if_pos (.inr (by assumption))).symm | exact (if_neg (fun h8 => h8.elim (fun h9 => by omega) (fun h9 => by rw [show Sp C.x C.ns q1 i = false by assumption] at h9; cases h9))).symm) (by unfold Cx.W; omega)) (k_go [2,2,1,1,1,1] rfl (by kernel_rfl) (fun _ _ _ _ _ h => h) fun hQ => ?_);refine k_xc 0 [2,2,1,1,1,1] [0] hQ (by kernel_rfl) rfl rfl rfl rfl rfl rfl (by omega) (k_x 1 [2,2,1,1,1,1] [] hQ (by kernel_rfl) rfl rfl rfl rfl rfl rfl ?_);refine k_x 2 [2,2,1,1,1,1] [] hQ (by kernel_rfl) rfl rfl rfl rfl rfl rfl (k_xc 3 [2,2,1,1,1,1] [3] hQ (by kernel_rfl) rfl rfl rfl rfl rfl rfl (by omega) ?_);refine k_xc 4 [2,2,1,1,1,1] [1] hQ (by kernel_rfl) rfl rfl rfl rfl rfl rfl (by omega) (k_xc 5 [2,2,1,1,1,1] [2] hQ (by kernel_rfl) rfl rfl rfl rfl rfl rfl (by omega) ?_);refine k_one 6 (by kernel_rfl) (k_op 6 rfl ?_);refine g_memoPut 0 rfl rfl rfl rfl Tryz.underlying133 st_law (fun _ h => h) (kv_key hr) (List.mem_cons_self ..) rfl ?_;simp only [zs0,zs1];refine n_ (k_end (zpk [2,2,1,1,1,1] rfl) ?_);refine k_done (by kernel_rfl) (t_ (s_ (o_ ?_)));refine xg 2 [1] rfl (by omega) (n_ (t_ (g_ret ?_)));refine g_end1 Tryz.results49 rfl ?_;exact fun w hS => ⟨⟨(mput M2 _ gp, (kv ⟨a, p, mi, ma, i⟩, gp) :: E2, gp), fun p0 hp0 => List.mem_cons_of_mem _ (hs2 _ (hs1 _ (hp0))), List.mem_cons_self ..⟩, rfl, hS.pick [4,4,4,0] rfl⟩
   refine g_cond_f rfl (g_skip (g_in_normal (t_ (s_ (g_ahead [4,0] rfl ?_)))));simp only [zc0,zc1];refine g_memoAdd (q := kv ⟨a, p, mi, ma, i⟩) (c_rep0 ha hi hq1 (by omega) _ (by first | exact (if_pos (.inl (by omega))).symm | exact (if_pos (.inr (by assumption))).symm | exact (if_neg (fun h8 => h8.elim (fun h9 => by omega) (fun h9 => by rw [show Sp C.x C.ns q1 i = false by assumption] at h9; cases h9))).symm)) (k_go [7,6,5,1,1,1] rfl (by kernel_rfl) (fun _ _ _ _ _ h => h) fun hQ => ?_);refine k_xc 0 [7,6,5,1,1,1] [0] hQ (by kernel_rfl) rfl rfl rfl rfl rfl rfl (by omega) (k_x 1 [7,6,5,1,1,1] [] hQ (by kernel_rfl) rfl rfl rfl rfl rfl rfl ?_);refine k_x 2 [7,6,5,1,1,1] [] hQ (by kernel_rfl) rfl rfl rfl rfl rfl rfl (k_xc 3 [7,6,5,1,1,1] [3] hQ (by kernel_rfl) rfl rfl rfl rfl rfl rfl (by omega) ?_);refine k_xc 4 [7,6,5,1,1,1] [1] hQ (by kernel_rfl) rfl rfl rfl rfl rfl rfl (by omega) (k_xc 5 [7,6,5,1,1,1] [2] hQ (by kernel_rfl) rfl rfl rfl rfl rfl rfl (by omega) ?_);refine k_one 6 (by kernel_rfl) (k_op 6 rfl ?_);refine g_memoPut 0 rfl rfl rfl rfl Tryz.underlying133 st_law (fun _ h => h) (kv_key hr) (List.mem_cons_self ..) rfl ?_;simp only [zs0,zs1];refine n_ (k_end (zpk [7,6,5,1,1,1] rfl) ?_);refine k_done (by kernel_rfl) (t_ (s_ (o_ ?_)));refine xg 2 [5] rfl (by omega) (n_ (t_ (g_ret ?_)));refine g_end1 Tryz.results49 rfl ?_;exact fun w hS => ⟨⟨(mput M1 _ gp, (kv ⟨a, p, mi, ma, i⟩, gp) :: E1, gp), fun p0 hp0 => List.mem_cons_of_mem _ (hs1 _ (hp0)), List.mem_cons_self ..⟩, rfl, hS.pick [1,1,1,0] rfl⟩
  refine xg 3 [7] rfl (by omega) (g_call1 (v := .bool (Sp C.x C.ns q1 i)) rfl rfl rfl Tryz.call79 (fun w hS => has_any (Sp C.x C.ns q1) g1 C.W i (by unfold Cx.W; omega) C.hW w (memo_rd (hS.get (i := 3) rfl) hm1)) ?_);refine xg 1 [] rfl rfl (n_ (t_ ?_));first | refine g_casep 172 rfl (fun h16 => ?_) fun h16 => ?_ | refine g_caseb 172 rfl (fun h16 => ?_) fun h16 => ?_
  ·refine g_cond_t rfl (o_ (xg 3 [5,7] rfl (by omega) ?_));refine g_ahead [6] rfl ?_;simp only [zc0,zc1];refine g_add (k := i) (by unfold Cx.W; omega) rfl rfl rfl (ntso_ ?_);refine xg 3 [7,0] rfl (by omega) (n_ (t_ ?_));refine g_casep 179 rfl (fun h17 => ?_) fun h17 => ?_
   ·refine g_cond_t rfl (o_ (xg 4 [7] rfl (by omega) ?_));refine g_val rfl rfl rfl (y_makeFunc rfl) (g_ahead [6,7,6,1,1,1,1,0] rfl ?_);simp only [zc0,zc1];refine g_each (fr := i + 1) (fun k => Sp C.x C.ns (kv (round ⟨a, p, mi, ma, i⟩ k))) hm1 (fun k h1 h2 h3 c M E F w hS => clo2_any C _ _ _ _ k a p i mi ma c hr (hrnd rfl (by assumption) k (by omega) (mKid_in _ hi (by rw [hq1] at h3; exact h3)).2) M E F w hS) Tryz.call80 (by unfold Cx.W; omega) rfl rfl rfl (fun M2 E2 hs2 => (n_ (g_in_normal (t_ (s_ ?_)))));refine g_ahead [6,6] rfl ?_;simp only [zc0,zc1];refine g_memoAdd (q := kv ⟨a, p, mi, ma, i⟩) (c_rep ha hi hq1 (by omega) _ (by first | exact (if_pos (.inl (by omega))).symm | exact (if_pos (.inr (by assumption))).symm | exact (if_neg (fun h8 => h8.elim (fun h9 => by omega) (fun h9 => by rw [show Sp C.x C.ns q1 i = false by assumption] at h9; cases h9))).symm) (by unfold Cx.W; omega)) (k_go [2,2,1,1,1,1] rfl (by kernel_rfl) (fun _ _ _ _ _ h => h) fun hQ => ?_);refine k_xc 0 [2,2,1,1,1,1] [0] hQ (by kernel_rfl) rfl rfl rfl rfl rfl rfl (by omega) (k_x 1 [2,2,1,1,1,1] [] hQ (by kernel_rfl) rfl rfl rfl rfl rfl rfl ?_);refine k_x 2 [2,2,1,1,1,1] [] hQ (by kernel_rfl) rfl rfl rfl rfl rfl rfl (k_xc 3 [2,2,1,1,1,1] [3] hQ (by kernel_rfl) rfl rfl rfl rfl rfl rfl (by omega) ?_);refine k_xc 4 [2,2,1,1,1,1] [1] hQ (by kernel_rfl) rfl rfl rfl rfl rfl rfl (by omega) (k_xc 5 [2,2,1,1,1,1] [2] hQ (by kernel_rfl) rfl rfl rfl rfl rfl rfl (by omega) ?_);refine k_one 6 (by kernel_rfl) (k_op 6 rfl ?_);refine g_memoPut 0 rfl rfl rfl rfl Tryz.underlying133 st_law (fun _ h => h) (kv_key hr) (List.mem_cons_self ..) rfl ?_;simp only [zs0,zs1];refine n_ (k_end (zpk [2,2,1,1,1,1] rfl) ?_);refine k_done (by kernel_rfl) (t_ (s_ (o_ ?_)));refine xg 2 [1] rfl (by omega) (n_ (t_ (g_ret ?_)));refine g_end1 Tryz.results49 rfl ?_;exact fun w hS => ⟨⟨(mput M2 _ gp, (kv ⟨a, p, mi, ma, i⟩, gp) :: E2, gp), fun p0 hp0 => List.mem_cons_of_mem _ (hs2 _ (hs1 _ (hp0))), List.mem_cons_self ..⟩, rfl, hS.pick [4,4,4,0] rfl⟩
   refine g_cond_f rfl (g_skip (g_in_normal (t_ (s_ (g_ahead [4,0] rfl ?_)))));simp only [zc0,zc1];refine g_memoAdd (q := kv ⟨a, p, mi, ma, i⟩) (c_rep0 ha hi hq1 (by omega) _ (by first | exact (if_pos (.inl (by omega))).symm | exact (if_pos (.inr (by assumption))).symm | exact (if_neg (fun h8 => h8.elim (fun h9 => by omega) (fun h9 => by rw [show Sp C.x C.ns q1 i = false by assumption] at h9; cases h9))).symm)) (k_go [7,6,5,1,1,1] rfl (by kernel_rfl) (fun _ _ _ _ _ h => h) fun hQ => ?_);refine k_xc 0 [7,6,5,1,1,1] [0] hQ (by kernel_rfl) rfl rfl rfl rfl rfl rfl (by omega) (k_x 1 [7,6,5,1,1,1] [] hQ (by kernel_rfl) rfl rfl rfl rfl rfl rfl ?_);refine k_x 2 [7,6,5,1,1,1] [] hQ (by kernel_rfl) rfl rfl rfl rfl rfl rfl (k_xc 3 [7,6,5,1,1,1] [3] hQ (by kernel_rfl) rfl rfl rfl rfl rfl rfl (by omega) ?_);refine k_xc 4 [7,6,5,1,1,1] [1] hQ (by kernel_rfl) rfl rfl rfl rfl rfl rfl (by omega) (k_xc 5 [7,6,5,1,1,1] [2] hQ (by kernel_rfl) rfl rfl rfl rfl rfl rfl (by omega) ?_);refine k_one 6 (by kernel_rfl) (k_op 6 rfl ?_);refine g_memoPut 0 rfl rfl rfl rfl Tryz.underlying133 st_law (fun _ h => h) (kv_key hr) (List.mem_cons_self ..) rfl ?_;simp only [zs0,zs1];refine n_ (k_end (zpk [7,6,5,1,1,1] rfl) ?_);refine k_done (by kernel_rfl) (t_ (s_ (o_ ?_)));refine xg 2 [5] rfl (by omega) (n_ (t_ (g_ret ?_)));refine g_end1 Tryz.results49 rfl ?_;exact fun w hS => ⟨⟨(mput M1 _ gp, (kv ⟨a, p, mi, ma, i⟩, gp) :: E1, gp), fun p0 hp0 => List.mem_cons_of_mem _ (hs1 _ (hp0)), List.mem_cons_self ..⟩, rfl, hS.pick [1,1,1,0] rfl⟩
  refine g_cond_f rfl (g_skip (t_ (s_ (o_ (xg 3 [7,0] rfl (by omega) ?_)))));refine n_ (t_ (g_casep 179 rfl (fun h18 => ?_) fun h18 => ?_))
  ·refine g_cond_t rfl (o_ (xg 4 [7] rfl (by omega) ?_));refine g_val rfl rfl rfl (y_makeFunc rfl) (g_ahead [5,7,6,0,0,0,0,1] rfl ?_);simp only [zc0,zc1];refine g_each (fr := i + 1) (fun k => Sp C.x C.ns (kv (round ⟨a, p, mi, ma, i⟩ k))) hm1 (fun k h1 h2 h3 c M E F w hS => clo2_any C _ _ _ _ k a p i mi ma c hr (hrnd rfl (by assumption) k (by omega) (mKid_in _ hi (by rw [hq1] at h3; exact h3)).2) M E F w hS) Tryz.call80 (by unfold Cx.W; omega) rfl rfl rfl (fun M2 E2 hs2 => (n_ (g_in_normal (t_ (s_ ?_)))));refine g_ahead [6,6] rfl ?_;simp only [zc0,zc1];refine g_memoAdd (q := kv ⟨a, p, mi, ma, i⟩) (c_rep ha hi hq1 (by omega) _ (by first | exact (if_pos (.inl (by omega))).symm | exact (if_pos (.inr (by assumption))).symm | exact (if_neg (fun h8 => h8.elim (fun h9 => by omega) (fun h9 => by rw [show Sp C.x C.ns q1 i = false by assumption] at h9; cases h9))).symm) (by unfold Cx.W; omega)) (k_go [2,2,1,1,1,1] rfl (by kernel_rfl) (fun _ _ _ _ _ h => h) fun hQ => ?_);refine k_xc 0 [2,2,1,1,1,1] [0] hQ (by kernel_rfl) rfl rfl rfl rfl rfl rfl (by omega) (k_x 1 [2,2,1,1,1,1] [] hQ (by kernel_rfl) rfl rfl rfl rfl rfl rfl ?_);refine k_x 2 [2,2,1,1,1,1] [] hQ (by kernel_rfl) rfl rfl rfl rfl rfl rfl (k_xc 3 [2,2,1,1,1,1] [3] hQ (by kernel_rfl) rfl rfl rfl rfl rfl rfl (by omega) ?_);refine k_xc 4 [2,2,1,1,1,1] [1] hQ (by kernel_rfl) rfl rfl rfl rfl rfl rfl (by omega) (k_xc 5 [2,2,1,1,1,1] [2] hQ (by kernel_rfl) rfl rfl rfl rfl rfl rfl (by omega) ?_);refine k_one 6 (by kernel_rfl) (k_op 6 rfl ?_);refine g_memoPut 0 rfl rfl rfl rfl Tryz.underlying133 st_law (fun _ h => h) (kv_key hr) (List.mem_cons_self ..) rfl ?_;simp only [zs0,zs1];refine n_ (k_end (zpk [2,2,1,1,1,1] rfl) ?_);refine k_done (by kernel_rfl) (t_ (s_ (o_ ?_)));refine xg 2 [1] rfl (by omega) (n_ (t_ (g_ret ?_)));refine g_end1 Tryz.results49 rfl ?_;exact fun w hS => ⟨⟨(mput M2 _ gp, (kv ⟨a, p, mi, ma, i⟩, gp) :: E2, gp), fun p0 hp0 => List.mem_cons_of_mem _ (hs2 _ (hs1 _ (hp0))), List.mem_cons_self ..⟩, rfl, hS.pick [4,4,4,0] rfl⟩
  refine g_cond_f rfl (g_skip (g_in_normal (t_ (s_ (g_ahead [3,5] rfl ?_)))));simp only [zc0,zc1];refine g_memoAdd (q := kv ⟨a, p, mi, ma, i⟩) (c_rep0 ha hi hq1 (by omega) _ (by first | exact (if_pos (.inl (by omega))).symm | exact (if_pos (.inr (by assumption))).symm | exact (if_neg (fun h8 => h8.elim (fun h9 => by omega) (fun h9 => by rw [show Sp C.x C.ns q1 i = false by assumption] at h9; cases h9))).symm)) (k_go [7,6,5,1,1,1] rfl (by kernel_rfl) (fun _ _ _ _ _ h => h) fun hQ => ?_);refine k_xc 0 [7,6,5,1,1,1] [0] hQ (by kernel_rfl) rfl rfl rfl rfl rfl rfl (by omega) (k_x 1 [7,6,5,1,1,1] [] hQ (by kernel_rfl) rfl rfl rfl rfl rfl rfl ?_);refine k_x 2 [7,6,5,1,1,1] [] hQ (by kernel_rfl) rfl rfl rfl rfl rfl rfl (k_xc 3 [7,6,5,1,1,1] [3] hQ (by kernel_rfl) rfl rfl rfl rfl rfl rfl (by omega) ?_);refine k_xc 4 [7,6,5,1,1,1] [1] hQ (by kernel_rfl) rfl rfl rfl rfl rfl rfl (by omega) (k_xc 5 [7,6,5,1,1,1] [2] hQ (by kernel_rfl) rfl rfl rfl rfl rfl rfl (by omega) ?_);refine k_one 6 (by kernel_rfl) (k_op 6 rfl ?_);refine g_memoPut 0 rfl rfl rfl rfl Tryz.underlying133 st_law (fun _ h => h) (kv_key hr) (List.mem_cons_self ..) rfl ?_;simp only [zs0,zs1];refine n_ (k_end (zpk [7,6,5,1,1,1] rfl) ?_);refine k_done (by kernel_rfl) (t_ (s_ (o_ ?_)));refine xg 2 [5] rfl (by omega) (n_ (t_ (g_ret ?_)));refine g_end1 Tryz.results49 rfl ?_;exact fun w hS => ⟨⟨(mput M1 _ gp, (kv ⟨a, p, mi, ma, i⟩, gp) :: E1, gp), fun p0 hp0 => List.mem_cons_of_mem _ (hs1 _ (hp0)), List.mem_cons_self ..⟩, rfl, hS.pick [1,1,1,0] rfl⟩
 refine g_cond_f rfl (o_ (xg 3 [1,3] rfl (by omega) ?_));refine g_ahead [2] rfl ?_;simp only [zc0,zc1];refine g_add (k := i) (by unfold Cx.W; omega) rfl rfl rfl (n_ (g_in_normal (t_ (s_ ?_))));refine g_ahead [8,0] rfl ?_;simp only [zc0,zc1];refine g_memoAdd (q := kv ⟨a, p, mi, ma, i⟩) (c_other ha (by omega)) (k_go [4,3,2,2,2,2] rfl (by kernel_rfl) (fun _ _ _ _ _ h => h) fun hQ => ?_);refine k_xc 0 [4,3,2,2,2,2] [0] hQ (by kernel_rfl) rfl rfl rfl rfl rfl rfl (by omega) (k_x 1 [4,3,2,2,2,2] [] hQ (by kernel_rfl) rfl rfl rfl rfl rfl rfl ?_);refine k_x 2 [4,3,2,2,2,2] [] hQ (by kernel_rfl) rfl rfl rfl rfl rfl rfl (k_xc 3 [4,3,2,2,2,2] [3] hQ (by kernel_rfl) rfl rfl rfl rfl rfl rfl (by omega) ?_);refine k_xc 4 [4,3,2,2,2,2] [1] hQ (by kernel_rfl) rfl rfl rfl rfl rfl rfl (by omega) (k_xc 5 [4,3,2,2,2,2] [2] hQ (by kernel_rfl) rfl rfl rfl rfl rfl rfl (by omega) ?_);refine k_one 6 (by kernel_rfl) (k_op 6 rfl ?_);refine g_memoPut 0 rfl rfl rfl rfl Tryz.underlying133 st_law (fun _ h => h) (kv_key hr) (List.mem_cons_self ..) rfl ?_;simp only [zs0,zs1];refine n_ (k_end (zpk [4,3,2,2,2,2] rfl) ?_);refine k_done (by kernel_rfl) (t_ (s_ (o_ ?_)));refine xg 2 [2] rfl (by omega) (n_ (t_ (g_ret ?_)));refine g_end1 Tryz.results49 rfl ?_;exact fun w hS => ⟨⟨(mput M _ gp, (kv ⟨a, p, mi, ma, i⟩, gp) :: E, gp), fun p0 hp0 => List.mem_cons_of_mem _ (hp0), List.mem_cons_self ..⟩, rfl, hS.pick [5,5,5,0] rfl⟩
end Go.Proofs.YtjdmdpjbijkjaaaGreat

namespace Go.Proofs.YtjdmdpjbijkjaaaGreat
open Go Go.RowKit
set_option maxRecDepth 100000 in
theorem all_hit (C : Cx) (a p i : Nat) (mi ma : Int) (hr : okS ⟨a, p, mi, ma, i⟩) (M : Value → Option Nat) (E : List (Value × Nat)) (g0 : Nat) (F : List Nat) (w : World) (hM : M (kv ⟨a, p, mi, ma, i⟩) = some g0) (hS0 : St w F [C.mt, C.nd, .kids C.ns, C.mo M E] w) :
    Calls Tryz.prog 49 #[.pointer (some ⟨C.b, 0, none⟩), .agg ([.int .i64 (a : Int), .int .i64 (p : Int), .int .i64 mi, .int .i64 ma, .int .i64 (i : Int)]).toArray] w fun e w' => ∃ y : {y : (Value → Option Nat) × List (Value × Nat) × Nat // (∀ p, p ∈ E → p ∈ y.2.1) ∧ (kv ⟨a, p, mi, ma, i⟩, y.2.2) ∈ y.2.1}, e = .returned (slW C.W y.1.2.2) ∧ St w F [C.mt, C.nd, .kids C.ns, C.mo y.1.1 y.1.2.1] w' := by
 obtain ⟨r1, r2, r3, r4, r5, r6, r7⟩ := id hr;dsimp only at r1 r2 r3 r4 r5 r6 r7
 have hmem : (kv ⟨a, p, mi, ma, i⟩, g0) ∈ E := by
   obtain ⟨⟨es, clock, _, _, _, h2⟩, _⟩ : memoOk _ _ _ _ _ _ _ w := hS0.get (i := 3) rfl;exact (h2 _ g0 hM).1
 refine fn_intro_own Tryz.func49 rfl Tryz.ntmps49 rfl rfl hS0 (s_ (o_ ?_));refine g_box rfl rfl rfl rfl (fun b1 => (g_box rfl rfl rfl rfl (fun b2 => ?_)));refine xg 1 [] rfl rfl (n_ (t_ (s_ (s_ ?_))));refine g_quiet (by kernel_rfl) (by kernel_rfl) (xq 5 [1,2,0] rfl (by omega) ?_);refine q_val (v := .tuple #[slW C.W g0, .bool true]) rfl rfl rfl (y_memo1 5 rfl rfl Tryz.underlying133 st_law rfl (fun _ h => h) (kv_key hr) hM) (q_val rfl rfl rfl (y_move rfl) ?_);refine q_val rfl rfl rfl (y_extract rfl rfl) (q_val rfl rfl rfl (y_extract rfl rfl) ?_);refine xq 2 [] rfl rfl (q_nil (t_ (s_ (o_ ?_))));refine xg 1 [] rfl rfl (n_ (t_ (g_cond_t rfl (s_ (o_ ?_)))));refine xg 2 [] rfl rfl (n_ (t_ (g_ret (g_then_ret ?_))));refine g_end1 Tryz.results49 rfl ?_;exact fun w hS => ⟨⟨(M, E, g0), fun p hp => hp, hmem⟩, rfl, hS.pick [2,2,2,2] rfl⟩
theorem kid_sl2 {C : Cx} {w : World} {W0 : World} {F : List Nat} {L : List Ent} {i a : Nat} {t : MT} {u1 : Option Addr} {u2 u3 : Nat} {ks : List Nat} (hS : St W0 F L w) (hi : L[i]? = some (.kids C.ns)) (ha : C.ns[a]? = some (t, .slice u1 u2 u3, ks)) : u2 = ks.length ∧ (0 < ks.length → ∃ gk, u1 = some ⟨gk, 0, none⟩) := by
  obtain ⟨_, ⟨h1, h2⟩ | ⟨g, c, h2⟩⟩ := kid_sl (hS.get hi) ha
  · cases h2; subst h1; exact ⟨rfl, fun h => absurd h (by decide)⟩
  · cases h2; exact ⟨rfl, fun _ => ⟨g, rfl⟩⟩
theorem kid_ok2 {C : Cx} {k : Int} {s : Nat → Int} {nmi nma nnu : Int} {v1 u1 : Option Addr} {v2 v3 u2 u3 i a : Nat} {q : List MT} {ks : List Nat} (hi : i ≤ C.x.n) {t : MT} (ha : C.ns[a]? = some (t, .slice u1 u2 u3, ks)) (hl : laidH C.ns q ks) (hall : ∀ u r c, q = u :: r → laidT C.ns u c → AllOk C (beg C.x C.ns c i)) : KidOk C [.int .i64 k, .int .u64 (s 0), .int .u64 (s 1), .int .u64 (s 2), .int .u64 (s 3), .int .i64 nmi, .int .i64 nma, .int .i64 nnu, .slice v1 v2 v3, .slice u1 u2 u3] q i := kid_ok hi ha hl hall
def VS (C : Cx) (t : MT) (a : Nat) (s : Sta) : Prop := s.a = a ∧ s.i ≤ C.x.n ∧ 0 ≤ s.mi ∧ s.mi ≤ C.x.n + 1 ∧ -1 ≤ s.ma ∧ s.ma ≤ C.x.n + 1 ∧ s.p ≤ t.kids.length ∧ (t.k ≠ 2 → s.p = 0)
theorem VS_beg {C : Cx} {t : MT} {a i : Nat} (h : laidT C.ns t a) (hi : i ≤ C.x.n) : VS C t a (beg C.x C.ns a i) := by
  cases t with | mk k s mi ma nu v q =>
  obtain ⟨kv, ks, h1, _⟩ := laidT_mk.1 h;unfold beg VS
  rw [h1];dsimp only;split
  · dsimp only; exact ⟨rfl, hi, by unfold cLo; omega, by unfold cLo; omega, by unfold cHi; omega, by unfold cHi; omega, Nat.zero_le _, fun _ => rfl⟩
  · dsimp only; exact ⟨rfl, hi, by omega, by omega, by omega, by omega, Nat.zero_le _, fun _ => rfl⟩
theorem allok (C : Cx) : ∀ (D : Nat) (t : MT) (a : Nat), wT t ≤ D → laidT C.ns t a → ∀ (m : Nat) (s : Sta), VS C t a s → (t.kids.length - s.p) + (C.x.n - s.i) ≤ m → AllOk C s := by
  intro D;induction D with
  | zero => intro t a h; cases t; rw [wT_mk] at h; omega
  | succ D ihD =>
    intro t a hD hl m;obtain ⟨k, cs, nmi, nma, nnu, v1, u1, v2, v3, u2, u3, q, ks, rfl, ha, hlt, hlk⟩ := Cx.node hl
    have hkid : ∀ u c j, u ∈ q → laidT C.ns u c → j ≤ C.x.n → AllOk C (beg C.x C.ns c j) := fun u c j hu hc hj => by
      have := wT_mem hu;rw [wT_mk] at hD;exact ihD u c (by omega) hc _ _ (VS_beg hc hj) (Nat.le_refl _)
    induction m using Nat.strongRecOn with
    | _ m ihm =>
    rintro ⟨a', p, mi, ma, i⟩ ⟨haa, hi, h1, h2, h3, h4, h5, h6⟩ hm M E F w hS0;dsimp only at haa hi h1 h2 h3 h4 h5 h6 hm;subst haa;have hx := C.hx;have hal := (List.getElem?_eq_some_iff.1 ha).1;have hnl := C.hl;obtain ⟨rfl, hgk⟩ := kid_sl2 hS0 (i := 2) rfl ha;have h5' : p ≤ q.length := h5;have hmax : maxLen = 9223372036854775807 := rfl;have hkl := (kid_sl (hS0.get (i := 2) rfl) ha).1
    have hpb : p < 4611686018427387904 := by
      by_cases h2k : k = 2
      · rw [if_neg (by omega)] at hlk;have := laidL_len hlk;have : ks.length ≤ 1000000 := C.hn _ (List.mem_of_getElem? ha);omega
      · have := h6 h2k; omega
    have hr : okS ⟨a', p, mi, ma, i⟩ := by unfold okS; dsimp only; omega
    cases hM : M (kv ⟨a', p, mi, ma, i⟩) with
    | some g => exact all_hit C a' p i mi ma hr M E g F w hM hS0
    | none =>
      refine all_miss C k cs nmi nma nnu v1 u1 v2 v3 u3 a' p i mi ma q ks ha hgk hi hr ?_ ?_ ?_ ?_ ?_ ?_ M E F w hM hS0
      · intro hk;rw [if_neg (by omega)] at hlk;rw [laidL_len hlk]; exact h5'
      · intro k5 k4;rw [if_neg (by omega)] at hlk;exact hlk
      · intro hk;rw [if_pos hk] at hlk;exact kid_ok2 hi ha hlk fun u r c hq hc => hkid u c i (by rw [hq]; exact List.mem_cons_self ..) hc hi
      · exact fun t kk ht hc => hkid t kk i ht hc hi
      · intro hk hp j hj1 hj2;rw [if_neg (by omega)] at hlk;have hlen := laidL_len hlk;refine ihm ((q.length - (p + 1)) + (C.x.n - j)) (by show _ < m; have : q.length - p + (C.x.n - i) ≤ m := hm; omega) _ ⟨rfl, hj2, by show (0 : Int) ≤ 0; omega, by show (0 : Int) ≤ _; omega, by show (-1 : Int) ≤ 0; omega, by show (0 : Int) ≤ _; omega, by show p + 1 ≤ q.length; omega, fun h => absurd hk h⟩ (Nat.le_refl _)
      · intro hk hma j hj1 hj2;refine ihm ((q.length - p) + (C.x.n - j)) (by have : q.length - p + (C.x.n - i) ≤ m := hm; omega) _ ⟨rfl, hj2, by show (0 : Int) ≤ max (mi - 1) 0; omega, by show max (mi - 1) 0 ≤ _; omega, ?_, ?_, h5, h6⟩ (Nat.le_refl _)
        · show -1 ≤ (if 0 < ma then ma - 1 else ma); split <;> omega
        · show (if 0 < ma then ma - 1 else ma) ≤ _; split <;> omega
end Go.Proofs.YtjdmdpjbijkjaaaGreat

namespace Go.Proofs.YtjdmdpjbijkjaaaGreat
open Go Go.RowKit
def lastP (c : Nat → Bool) (W : Nat) (v : Int) : Prop := (v = -1 ∧ ∀ j, j < 64 * W → c j = false) ∨ ∃ i : Nat, v = i ∧ i < 64 * W ∧ c i = true ∧ ∀ j, i < j → j < 64 * W → c j = false
theorem top_bit {x : Nat} (h0 : x ≠ 0) (h : x < 18446744073709551616) : 1 ≤ Lib.bitLen x ∧ Lib.bitLen x ≤ 64 ∧ x.testBit (Lib.bitLen x - 1) = true ∧ ∀ j, Lib.bitLen x ≤ j → x.testBit j = false := by
  obtain ⟨h1, h2, h3⟩ := Lib.bitLenAux_bounds 64 x (by omega) h0;have h4 : Lib.bitLen x ≤ 64 := Lib.bitLen_le x 64 (Nat.le_refl _) (by omega);have e : Lib.bitLenAux 64 x = Lib.bitLen x := rfl;rw [e] at h1 h2 h3;refine ⟨h1, h4, ?_, fun j hj => ?_⟩
  · rw [Nat.testBit_eq_decide_div_mod_eq]
    have e2 : x / 2 ^ (Lib.bitLen x - 1) = 1 := by
      have hp : 2 ^ Lib.bitLen x = 2 * 2 ^ (Lib.bitLen x - 1) := by
        rw [show Lib.bitLen x = (Lib.bitLen x - 1) + 1 by omega, Nat.pow_succ];simp; omega
      rw [Nat.div_eq_iff (Nat.two_pow_pos _)];omega
    rw [e2]; rfl
  · exact Nat.testBit_lt_two_pow (Nat.lt_of_lt_of_le h3 (Nat.pow_le_pow_right (by decide) hj))
theorem last_word {c : Nat → Bool} {W m : Nat} (hm : m < W) (hz : ∀ j, 64 * (m + 1) ≤ j → j < 64 * W → c j = false) (h : wd c m ≠ 0) : lastP c W (64 * (m : Int) + (Lib.bitLen (wd c m) : Int) - 1) := by
  obtain ⟨h1, h2, h3, h4⟩ := top_bit h (wd_lt c m);refine .inr ⟨64 * m + (Lib.bitLen (wd c m) - 1), by omega, by omega, ?_, fun j hj hj2 => ?_⟩
  · have := wd_bit c m (Lib.bitLen (wd c m) - 1);rw [h3, decide_eq_true (by omega), Bool.true_and] at this;exact this.symm
  · by_cases hb : 64 * (m + 1) ≤ j
    · exact hz j hb hj2
    · have := wd_bit c m (j - 64 * m);rw [h4 _ (by omega), decide_eq_true (by omega), Bool.true_and, show 64 * m + (j - 64 * m) = j by omega] at this;exact this.symm
set_option maxRecDepth 100000 in
theorem last_any (c : Nat → Bool) (g W : Nat) (hW : W ≤ 1000000) (w : World) (hr : RdSl w (some ⟨g, 0, none⟩) W 1 (fun k _ => .int .u64 (wd c k : Int))) :
    Calls Tryz.prog 50 #[slW W g] w fun e w' => ∃ x : {v : Int // lastP c W v}, e = .returned (.int .i64 x.1) ∧ Below w.heap.size w w' := by
 refine fn_intro Tryz.func50 rfl Tryz.ntmps50 rfl rfl (s_ (o_ ?_));refine xg 1 [] rfl rfl (n_ (t_ (s_ (s_ (o_ ?_)))));refine xg 1 [] rfl rfl (g_val (v := .int .i64 (W : Int)) rfl rfl rfl (y_llen rfl Tryz.underlying104) ?_);refine xg 2 [] rfl (by omega) (n_ (t_ (g_block ?_)));refine g_loop (α := {x : Nat // x ≤ W ∧ ∀ j, 64 * x ≤ j → j < 64 * W → c j = false}) (fun x => [(0, slW W g), (3, .int .i64 ((x.1 : Int) - 1))]) (fun x => St w [] []) (fun x => x.1) ⟨W, Nat.le_refl _, fun j h1 h2 => by omega⟩ [0, 3] rfl (zpk [] rfl) ?_;rintro ⟨k, hk, hz⟩;dsimp only;refine s_ (s_ (o_ (xg 2 [0] rfl rfl ?_)));refine n_ (t_ (g_casep 8 rfl (fun h1 => ?_) fun h1 => ?_))
 ·refine g_cond_t rfl (g_skip (t_ (s_ (g_block (s_ ?_)))));obtain ⟨m, hmk⟩ : ∃ m : Nat, k = m + 1 := ⟨k - 1, by omega⟩;refine o_ (xg 2 [] rfl rfl ?_);refine g_val (v := .pointer (some (((some ⟨g, 0, none⟩ : Option Addr).getD default).add m))) rfl rfl rfl (y_val (y_rdAddr hr rfl rfl Tryz.underlying104 Tryz.sizeOf26 (by omega) (by omega)) (by rw [show ((k : Int) - 1).toNat = m by omega, Nat.mul_one])) (g_val (v := .int .u64 (wd c m : Int)) rfl rfl rfl (y_val (y_rdFieldF (i := (m : Int)) (j := 0) hr List.not_mem_nil rfl (by rw [Int.toNat_natCast]; omega) Tryz.isAgg26 (by omega) (by omega) (by decide)) rfl) ?_);refine xg 1 [0] rfl rfl (n_ (t_ ?_));refine g_casep 15 rfl (fun h2 => ?_) fun h2 => ?_
  ·refine g_cond_t rfl (s_ ?_);have hb64 : Lib.bitLen (wd c m) ≤ 64 := Lib.bitLen_le _ 64 (Nat.le_refl _) (by have := wd_lt c m; omega);refine o_ (xg 1 [] rfl rfl ?_);refine g_val (v := .int .i64 (64 * (m : Int))) rfl rfl rfl (y_val (y_shl rfl rfl (by decide)) (by rw [show ((k : Int) - 1) = m by omega, show min (6 : Int).toNat IntKind.i64.bits = 6 from rfl, wrap_in (by omega)]; congr 1; omega)) (xg 2 [] rfl rfl ?_);refine g_val (v := .pointer (some (((some ⟨g, 0, none⟩ : Option Addr).getD default).add m))) rfl rfl rfl (y_val (y_rdAddr hr rfl rfl Tryz.underlying104 Tryz.sizeOf26 (by omega) (by omega)) (by rw [show ((k : Int) - 1).toNat = m by omega, Nat.mul_one])) (g_val (v := .int .u64 (wd c m : Int)) rfl rfl rfl (y_val (y_rdFieldF (i := (m : Int)) (j := 0) hr List.not_mem_nil rfl (by rw [Int.toNat_natCast]; omega) Tryz.isAgg26 (by omega) (by omega) (by decide)) rfl) ?_);refine g_call1 (v := .int .i64 (Lib.bitLen (wd c m) : Int)) rfl rfl rfl Tryz.call82 (fun w hS => ((Tryz.bits_Len64 _ w (by omega) (by have := wd_lt c m; omega)).mono fun e w1 ⟨h8, h9⟩ => ⟨by rw [h8, Int.toNat_natCast], by rw [h9]; exact (St.refl w).below⟩)) (xg 3 [] rfl (by omega) ?_);refine n_ (t_ (g_ret (g_in_ret (g_then_ret (g_then_ret (g_in_ret (g_then_ret (g_end1 Tryz.results50 rfl ?_))))))));exact fun w hS => ⟨⟨_, last_word (m := m) (by omega) (fun j h1 h2 => hz j (by omega) h2) (by omega)⟩, by rfl, hS.below⟩
  refine g_cond_f rfl (g_skip (g_in_normal (t_ (o_ (xg 3 [] rfl (by omega) ?_)))));refine n_ ?_
  exact g_again ⟨m, by omega, fun j h1 h2 => by
    by_cases h3 : 64 * k ≤ j
    · exact hz j h3 h2
    · have h4 := wd_zero' (c := c) (k := m) (by omega) (j - 64 * m) (by omega);rwa [show 64 * m + (j - 64 * m) = j by omega] at h4⟩ [0, 3] (by dsimp only; omega) (by rw [show ((k : Int) - 1 - 1) = (m : Int) - 1 by omega]; rfl) (zpk [] rfl)
 refine g_cond_f rfl (g_exit (g_then_exit (g_then_exit (g_in_exit (t_ (s_ (o_ (xg 1 [] rfl rfl ?_))))))));refine n_ (t_ (g_ret (g_end1 Tryz.results50 rfl ?_)));exact fun w hS => ⟨⟨-1, .inl ⟨rfl, fun j hj => hz j (by omega) hj⟩⟩, rfl, hS.below⟩
end Go.Proofs.YtjdmdpjbijkjaaaGreat

namespace Go.Proofs.YtjdmdpjbijkjaaaGreat
open Go Go.RowKit
theorem g_memoSp {N : Nat} {R : Regs} {W0 : World} {F : List Nat} {Lr : List Ent} {X : Act → World → Prop} {e : TypeId} {b W W' : Nat} {Sp Sp' : Value → Nat → Bool} {Ks : Value → Prop} (h : G N R (St W0 F (.memo e b W' Sp' Ks (fun _ => none) [] :: Lr)) X) : G N R (St W0 F (.memo e b W Sp Ks (fun _ => none) [] :: Lr)) X := by
  refine g_nilRow 3 1 (g_perm (.swap _ _ _) (g_merge (.memo e b W' Sp' Ks (fun _ => none) []) (fun w h1 _ => ?_) (fun k hk => .inl hk) h));obtain ⟨⟨es, clock, a1, a2, a3, a4⟩, _⟩ := h1;refine ⟨⟨es, clock, a1, a2, fun x hx => ?_, fun q g hq => by cases hq⟩, fun p hp => by cases hp⟩;obtain ⟨_, g, _, hg⟩ := a3 x hx;cases hg
theorem g_kids0 {N : Nat} {R : Regs} {W0 : World} {F : List Nat} {Lr : List Ent} {X : Act → World → Prop} (h : G N R (St W0 F (.kids [] :: Lr)) X) : G N R (St W0 F Lr) X := h.weaken fun w hS =>
  ⟨hS.os, hS.tape, hS.output, hS.size, hS.keep, fun x hx => (List.mem_cons.1 hx).elim (fun q => by subst q; exact (show kidsOk [] w from fun d hd => by cases hd)) (hS.ok x), fun x hx k hk => (List.mem_cons.1 hx).elim (fun q => by subst q; cases (show k ∈ ([] : List Nat) from hk)) (fun q => hS.own x q k hk),
    List.pairwise_cons.2 ⟨fun y _ k hk => (by cases (show k ∈ ([] : List Nat) from hk)), hS.apart⟩⟩
theorem laid_pos {ns : List Nd} {t : MT} (h : laidT ns t 0) : 0 < ns.length := by
  cases t with | mk k s mi ma nu v q =>
  obtain ⟨kv, ks, h1, _⟩ := laidT_mk.1 h;exact (List.getElem?_eq_some_iff.1 h1).1
set_option maxRecDepth 100000 in
theorem laid_any (tx : Tx) (k : Int) (s : Nat → Int) (nmi nma nnu : Int) (pq : Option Addr) (cq : Nat) (q : List MT) (hx : tx.n ≤ 1000000) (hle : wT (MT.mk k s nmi nma nnu (Value.slice pq q.length cq) q) ≤ 1000000) (w : World) (hok : MT.rd w (MT.mk k s nmi nma nnu (Value.slice pq q.length cq) q)) :
    Calls Tryz.prog 47 #[.agg (nC (MT.mk k s nmi nma nnu (Value.slice pq q.length cq) q)).toArray, st8 tx.l, .bool tx.bg] w fun e w' => ∃ y : {C : Cx // C.x = tx ∧ laidT C.ns (MT.mk k s nmi nma nnu (Value.slice pq q.length cq) q) 0}, e = .returned (.tuple #[.pointer (some ⟨y.1.b, 0, none⟩), .int .i64 0]) ∧ St w [] [y.1.mt, y.1.nd, .kids y.1.ns, y.1.mo (fun _ => none) []] w' := by
 refine fn_intro Tryz.func47 rfl Tryz.ntmps47 rfl rfl (s_ (o_ ?_));refine g_box rfl rfl rfl rfl (fun b1 => (g_val rfl rfl rfl (y_assign rfl) ?_));refine xg 1 [] rfl rfl (ntso_ ?_);refine xg 2 [] rfl rfl (g_makeMemo rfl rfl 26 0 (fun _ _ => false) Kp (fun mp => ?_));refine g_val (v := .agg ([.slice none 0 0, st8 tx.l, .bool tx.bg, .map (some mp)] : List Value).toArray) rfl rfl rfl (y_builtE (z := [.slice none 0 0, st8 tx.l, .bool tx.bg, .map (some mp)]) rfl (by kernel_rfl)) (g_box rfl rfl rfl rfl (fun b2 => ?_));refine xg 1 [] rfl rfl (ntso_ ?_);refine xg 3 [2] rfl (by omega) (g_nilRow 140 10 ?_);refine g_kids0 (g_ahead [2,1,0] rfl ?_);simp only [zc0,zc1];refine g_callOwn (L0 := [.cells b2 136 [.slice none 0 0, st8 tx.l, .bool tx.bg, .map (some mp)], .row 140 10 (.slice none 0 0) ([] : List Nd).length (([] : List Nd).flatMap fC), .kids []]) (fun _ : {y : Value × List Nd // laidT (([] : List Nd) ++ y.2) (MT.mk k s nmi nma nnu (Value.slice pq q.length cq) q) ([] : List Nd).length ∧ y.2.length ≤ wT (MT.mk k s nmi nma nnu (Value.slice pq q.length cq) q) ∧ ∀ d ∈ y.2, Nice d} => .int .i64 ((([] : List Nd).length : Nat) : Int)) (fun y => [.cells b2 136 [y.1.1, st8 tx.l, .bool tx.bg, .map (some mp)], .row 140 10 y.1.1 (([] : List Nd) ++ y.1.2).length ((([] : List Nd) ++ y.1.2).flatMap fC), .kids (([] : List Nd) ++ y.1.2)]) rfl rfl rfl Tryz.call72 (fun w' hS => lay_ok b2 mp tx _ _ (Nat.le_refl _) [] _ _ w' (hS.okOf hok (fun _ _ => List.not_mem_nil)) (hS.outOf hok (fun _ _ => List.not_mem_nil)) (by rw [List.length_nil]; omega) hS.part) ?_;rintro ⟨⟨vn, ns⟩, hl, hm, hn⟩;dsimp only at hl hm hn;simp only [List.cons_append, List.nil_append, List.length_nil] at hl ⊢;have hpos : 0 < ns.length := laid_pos hl;refine g_rowCase 1 rfl hpos (fun gn cn hvn => ?_);subst hvn;refine g_ahead [3] rfl ?_;simp only [zc0,zc1];refine g_memoSp (W' := tx.n / 64 + 1) (Sp' := Sp tx ns) (xg 2 [] rfl rfl ?_);refine n_ (t_ (g_ret (g_end2 Tryz.results47 rfl rfl ?_)));exact fun w hS => ⟨⟨⟨b2, mp, gn, cn, tx, ns, hx, fun d hd => (hn d hd).1, fun d hd => (hn d hd).2.1, by omega, fun d hd => (hn d hd).2.2⟩, rfl, hl⟩, rfl, hS.pick [1,1,1,0] rfl⟩
end Go.Proofs.YtjdmdpjbijkjaaaGreat

namespace Go.Proofs.YtjdmdpjbijkjaaaGreat
open Go Go.RowKit
def topK (p : Nat → Bool) (lo : Nat) : Nat → Option Nat
  | 0 => none
  | c + 1 => if decide (lo ≤ c) && p c then some c else topK p lo c
theorem topK_some {p : Nat → Bool} {lo k : Nat} : ∀ {c : Nat}, lo ≤ k → k < c → p k = true → (∀ j, k < j → j < c → p j = false) → topK p lo c = some k
  | 0, _, h, _, _ => by omega
  | c + 1, h1, h2, h3, h4 => by
    rw [topK];by_cases e : k = c
    · subst e; rw [if_pos (by simp [h1, h3])]
    · rw [if_neg (by simp [h4 c (by omega) (by omega)])];exact topK_some h1 (by omega) h3 fun j a b => h4 j a (by omega)
theorem topK_none {p : Nat → Bool} {lo : Nat} : ∀ {c : Nat}, (∀ j, lo ≤ j → j < c → p j = false) → topK p lo c = none
  | 0, _ => rfl
  | c + 1, h => by
    rw [topK, if_neg, topK_none fun j a b => h j a (by omega)];by_cases hc : lo ≤ c
    · simp [h c hc (by omega)]
    · simp [hc]
theorem topK_is {p : Nat → Bool} {lo k : Nat} : ∀ {c : Nat}, topK p lo c = some k → lo ≤ k ∧ k < c ∧ p k = true
  | 0, h => by cases h
  | c + 1, h => by
    rw [topK] at h;split at h
    · rename_i hh
      simp only [Bool.and_eq_true, decide_eq_true_eq] at hh;cases h; exact ⟨hh.1, by omega, hh.2⟩
    · have := topK_is h; exact ⟨this.1, by omega, this.2.2⟩
abbrev Spn := Nat → Int × Int
def spC (m : Spn) : List Value := [.int .i64 (m 0).1, .int .i64 (m 0).2, .int .i64 (m 1).1, .int .i64 (m 1).2, .int .i64 (m 2).1, .int .i64 (m 2).2, .int .i64 (m 3).1, .int .i64 (m 3).2, .int .i64 (m 4).1, .int .i64 (m 4).2, .int .i64 (m 5).1, .int .i64 (m 5).2, .int .i64 (m 6).1, .int .i64 (m 6).2, .int .i64 (m 7).1, .int .i64 (m 7).2, .int .i64 (m 8).1, .int .i64 (m 8).2, .int .i64 (m 9).1, .int .i64 (m 9).2]
def setS (m : Spn) (k : Nat) (p : Int × Int) : Spn := fun j => if j = k then p else m j
theorem spC_put (m : Spn) (a b : Int) : ∀ k, k < 10 → putE (k * 2) (spC m) [.int .i64 a, .int .i64 b] = some (spC (setS m k (a, b)))
  | 0, _ => rfl
  | 1, _ => rfl
  | 2, _ => rfl
  | 3, _ => rfl
  | 4, _ => rfl
  | 5, _ => rfl
  | 6, _ => rfl
  | 7, _ => rfl
  | 8, _ => rfl
  | 9, _ => rfl
  | k + 10, h => by omega
def gRep (n : Nat) (K : Nat → Nat → Bool) (g : Nat → Nat → Spn → Spn) : Nat → Int → Int → Nat → Nat → Spn → Spn
  | 0, _, _, _, _, m => m
  | f + 1, lo, hi, i, j, m => if i = j then (if 0 < lo then g j j m else m) else match topK (fun k => K i k && rep n K (n + 1) (max (lo - 1) 0) (if 0 < hi then hi - 1 else hi) k j) (i + 1) (j + 1) with
    | some k => gRep n K g f (max (lo - 1) 0) (if 0 < hi then hi - 1 else hi) k j (g i k m)
    | none => m
mutual
def gM (x : Tx) : MT → Nat → Nat → Spn → Spn
  | .mk k _ mi ma nu _ q, i, j, m =>
    if k = 2 then gRow x q i j m
    else if k = 3 then gAny x q i j m
    else if k = 5 then gKid x q i j (if 1 ≤ nu ∧ nu < 10 then setS m nu.toNat (i, j) else m)
    else if k = 4 then gRep x.n (fun a b => mKid x q a b) (fun a b m => gKid x q a b m) (x.n + 1) (cLo x.n mi) (cHi x.n ma) i j m
    else m
def gRow (x : Tx) : List MT → Nat → Nat → Spn → Spn
  | [], _, _, m => m
  | t :: q, i, j, m => match topK (fun k => mM x t i k && mRow x q k j) i (j + 1) with
    | some k => gRow x q k j (gM x t i k m)
    | none => m
def gAny (x : Tx) : List MT → Nat → Nat → Spn → Spn
  | [], _, _, m => m
  | t :: q, i, j, m => if mM x t i j then gM x t i j m else gAny x q i j m
def gKid (x : Tx) : List MT → Nat → Nat → Spn → Spn
  | [], _, _, m => m
  | t :: _, i, j, m => gM x t i j m
end
theorem gM_mk {x : Tx} {k : Int} {s : Nat → Int} {mi ma nu : Int} {v : Value} {q : List MT} {i j : Nat} {m : Spn} : gM x (.mk k s mi ma nu v q) i j m = (if k = 2 then gRow x q i j m
    else if k = 3 then gAny x q i j m
    else if k = 5 then gKid x q i j (if 1 ≤ nu ∧ nu < 10 then setS m nu.toNat (i, j) else m)
    else if k = 4 then gRep x.n (fun a b => mKid x q a b) (fun a b m => gKid x q a b m) (x.n + 1) (cLo x.n mi) (cHi x.n ma) i j m
    else m) := by rw [gM]
theorem gRow_nil {x : Tx} {i j : Nat} {m : Spn} : gRow x [] i j m = m := by rw [gRow]
theorem gRow_cons {x : Tx} {t : MT} {q : List MT} {i j : Nat} {m : Spn} : gRow x (t :: q) i j m = (match topK (fun k => mM x t i k && mRow x q k j) i (j + 1) with
    | some k => gRow x q k j (gM x t i k m)
    | none => m) := by rw [gRow]
theorem gAny_nil {x : Tx} {i j : Nat} {m : Spn} : gAny x [] i j m = m := by rw [gAny]
theorem gAny_cons {x : Tx} {t : MT} {q : List MT} {i j : Nat} {m : Spn} : gAny x (t :: q) i j m = if mM x t i j then gM x t i j m else gAny x q i j m := by rw [gAny]
theorem gKid_nil {x : Tx} {i j : Nat} {m : Spn} : gKid x [] i j m = m := by rw [gKid]
theorem gKid_cons {x : Tx} {t : MT} {q : List MT} {i j : Nat} {m : Spn} : gKid x (t :: q) i j m = gM x t i j m := by rw [gKid]
theorem gRep_fuel {n : Nat} {K : Nat → Nat → Bool} {g : Nat → Nat → Spn → Spn} : ∀ (f f' : Nat) (lo hi : Int) (i j : Nat) (m : Spn), j + 1 ≤ f + i → j + 1 ≤ f' + i → i ≤ j → gRep n K g f lo hi i j m = gRep n K g f' lo hi i j m := by
  intro f;induction f with
  | zero => intro f' lo hi i j m h _ h3; omega
  | succ f ih =>
    intro f' lo hi i j m h h2 h3;cases f' with
    | zero => omega
    | succ f' =>
      rw [gRep, gRep];split
      · rfl
      · split
        · rename_i k hk
          obtain ⟨h4, h5, _⟩ := topK_is hk;exact ih f' _ _ k j _ (by omega) (by omega) (by omega)
        · rfl
def gS (x : Tx) (ns : List Nd) (s : Sta) (j : Nat) (m : Spn) : Spn := match ns[s.a]? with
  | some (.mk k c mi ma nu v q, _, _) => if k = 2 then gRow x (q.drop s.p) s.i j m else if k = 4 then gRep x.n (fun a b => mKid x q a b) (fun a b m => gKid x q a b m) (x.n + 1) s.mi s.ma s.i j m else gM x (.mk k c mi ma nu v q) s.i j m
  | none => m
theorem gS_beg {x : Tx} {ns : List Nd} {t : MT} {a i j : Nat} {m : Spn} (h : laidT ns t a) : gS x ns (beg x ns a i) j m = gM x t i j m := by
  cases t with | mk k s mi ma nu v q =>
  obtain ⟨kv, ks, h1, _⟩ := laidT_mk.1 h;unfold beg gS
  rw [h1];dsimp only;by_cases h4 : k = 4
  · rw [if_pos h4]; dsimp only; rw [h1]; dsimp only;rw [if_neg (by omega), if_pos h4, gM_mk, if_neg (by omega), if_neg (by omega), if_neg (by omega), if_pos h4]
  · rw [if_neg h4]; dsimp only; rw [h1]; dsimp only;by_cases h2 : k = 2
    · rw [if_pos h2, gM_mk, if_pos h2]; rfl
    · rw [if_neg h2, if_neg h4]
section
variable {x : Tx} {ns : List Nd} {a p i j : Nat} {mi ma : Int} {k : Int} {s : Nat → Int} {nmi nma nnu : Int} {v kvv : Value} {q : List MT} {ks : List Nat} {m : Spn}
theorem gs_at (ha : ns[a]? = some (.mk k s nmi nma nnu v q, kvv, ks)) : gS x ns ⟨a, p, mi, ma, i⟩ j m = (if k = 2 then gRow x (q.drop p) i j m else if k = 4 then gRep x.n (fun a b => mKid x q a b) (fun a b m => gKid x q a b m) (x.n + 1) mi ma i j m else gM x (.mk k s nmi nma nnu v q) i j m) := by
  unfold gS; dsimp only; rw [ha]
theorem gs_row0 (ha : ns[a]? = some (.mk 2 s nmi nma nnu v q, kvv, ks)) (hp : q.length ≤ p) : gS x ns ⟨a, p, mi, ma, i⟩ j m = m := by
  rw [gs_at ha, if_pos rfl, List.drop_eq_nil_of_le hp, gRow_nil]
theorem gs_rowS {t : MT} {c k0 : Nat} (ha : ns[a]? = some (.mk 2 s nmi nma nnu v q, kvv, ks)) (ht : q[p]? = some t) (hl : laidT ns t c) (h1 : i ≤ k0) (h2 : k0 ≤ j) (h3 : Sp x ns (kv (beg x ns c i)) k0 = true) (h4 : Sp x ns (kv ⟨a, p + 1, 0, 0, k0⟩) j = true)
    (h5 : ∀ b, k0 < b → b ≤ j → (Sp x ns (kv (beg x ns c i)) b && Sp x ns (kv ⟨a, p + 1, 0, 0, b⟩) j) = false) : gS x ns ⟨a, p, mi, ma, i⟩ j m = gS x ns ⟨a, p + 1, 0, 0, k0⟩ j (gS x ns (beg x ns c i) k0 m) := by
  have hp := (List.getElem?_eq_some_iff.1 ht);have e : ∀ b, Sp x ns (kv ⟨a, p + 1, 0, 0, b⟩) j = mRow x (q.drop (p + 1)) b j := fun b => by rw [spec_at ha, if_pos rfl]
  rw [gs_at ha, if_pos rfl, List.drop_eq_getElem_cons hp.1, hp.2, gRow_cons, topK_some h1 (by omega) (by rw [← e, h4, ← spec_beg hl, ← Sp_kv, h3]; rfl) (fun b b1 b2 => by have := h5 b b1 (by omega); rw [e, Sp_kv, spec_beg hl] at this; exact this)];dsimp only;rw [gs_at ha, if_pos rfl, gS_beg hl]
theorem gs_rowN {t : MT} {c : Nat} (ha : ns[a]? = some (.mk 2 s nmi nma nnu v q, kvv, ks)) (ht : q[p]? = some t) (hl : laidT ns t c) (h5 : ∀ b, i ≤ b → b ≤ j → (Sp x ns (kv (beg x ns c i)) b && Sp x ns (kv ⟨a, p + 1, 0, 0, b⟩) j) = false) : gS x ns ⟨a, p, mi, ma, i⟩ j m = m := by
  have hp := (List.getElem?_eq_some_iff.1 ht);have e : ∀ b, Sp x ns (kv ⟨a, p + 1, 0, 0, b⟩) j = mRow x (q.drop (p + 1)) b j := fun b => by rw [spec_at ha, if_pos rfl]
  rw [gs_at ha, if_pos rfl, List.drop_eq_getElem_cons hp.1, hp.2, gRow_cons, topK_none (fun b b1 b2 => by have := h5 b b1 (by omega); rw [e, Sp_kv, spec_beg hl] at this; exact this)]
theorem gAny_drop : ∀ {q : List MT} {n : Nat}, (∀ t, t ∈ q.take n → mM x t i j = false) → gAny x q i j m = gAny x (q.drop n) i j m
  | [], n, _ => by rw [List.drop_nil]
  | t :: q, 0, _ => rfl
  | t :: q, n + 1, h => by
    rw [gAny_cons, if_neg (by rw [h t (by simp)]; decide), List.drop_succ_cons];exact gAny_drop fun u hu => h u (by simp [hu])
theorem gs_eiS {t : MT} {c n : Nat} (ha : ns[a]? = some (.mk 3 s nmi nma nnu v q, kvv, ks)) (ht : q[n]? = some t) (hl : laidT ns t c) (h3 : Sp x ns (kv (beg x ns c i)) j = true) (h5 : ∀ u, u ∈ q.take n → mM x u i j = false) : gS x ns ⟨a, p, mi, ma, i⟩ j m = gS x ns (beg x ns c i) j m := by
  have hp := (List.getElem?_eq_some_iff.1 ht);rw [gs_at ha, if_neg (by decide), if_neg (by decide), gM_mk, if_neg (by decide), if_pos rfl, gAny_drop h5, List.drop_eq_getElem_cons hp.1, hp.2, gAny_cons, if_pos (by rw [← spec_beg hl, ← Sp_kv]; exact h3), gS_beg hl]
theorem gs_eiN (ha : ns[a]? = some (.mk 3 s nmi nma nnu v q, kvv, ks)) {n : Nat} (hn : q.length ≤ n) (h5 : ∀ u, u ∈ q.take n → mM x u i j = false) : gS x ns ⟨a, p, mi, ma, i⟩ j m = m := by
  rw [gs_at ha, if_neg (by decide), if_neg (by decide), gM_mk, if_neg (by decide), if_pos rfl, gAny_drop h5, List.drop_eq_nil_of_le hn, gAny_nil]
theorem ei_more {n : Nat} {t : MT} (ht : q[n]? = some t) (h5 : ∀ u, u ∈ q.take n → mM x u i j = false) (h : mM x t i j = false) : ∀ u, u ∈ q.take (n + 1) → mM x u i j = false := fun u hu => by
  rw [List.take_add_one, ht] at hu;rcases List.mem_append.1 hu with h1 | h1
  · exact h5 u h1
  · have : u = t := by simpa using h1
    rw [this]; exact h
theorem gs_grp (ha : ns[a]? = some (.mk 5 s nmi nma nnu v q, kvv, ks)) : gS x ns ⟨a, p, mi, ma, i⟩ j m = gKid x q i j (if 1 ≤ nnu ∧ nnu < 10 then setS m nnu.toNat (i, j) else m) := by
  rw [gs_at ha, if_neg (by decide), if_neg (by decide), gM_mk, if_neg (by decide), if_neg (by decide), if_pos rfl]
theorem gs_other (ha : ns[a]? = some (.mk k s nmi nma nnu v q, kvv, ks)) (h : k ≠ 2 ∧ k ≠ 3 ∧ k ≠ 5 ∧ k ≠ 4) : gS x ns ⟨a, p, mi, ma, i⟩ j m = m := by
  rw [gs_at ha, if_neg h.1, if_neg h.2.2.2, gM_mk, if_neg h.1, if_neg h.2.1, if_neg h.2.2.1, if_neg h.2.2.2]
theorem gs_rep0 (ha : ns[a]? = some (.mk 4 s nmi nma nnu v q, kvv, ks)) : gS x ns ⟨a, p, mi, ma, i⟩ i m = if 0 < mi then gKid x q i i m else m := by
  rw [gs_at ha, if_neg (by decide), if_pos rfl, gRep, if_pos rfl]
theorem gs_repS {k0 : Nat} (ha : ns[a]? = some (.mk 4 s nmi nma nnu v q, kvv, ks)) (hij : i ≠ j) (hj : j ≤ x.n) (h1 : i < k0) (h2 : k0 ≤ j) (h3 : mKid x q i k0 = true) (h4 : Sp x ns (kv (round ⟨a, p, mi, ma, i⟩ k0)) j = true)
    (h5 : ∀ b, k0 < b → b ≤ j → (mKid x q i b && Sp x ns (kv (round ⟨a, p, mi, ma, i⟩ b)) j) = false) : gS x ns ⟨a, p, mi, ma, i⟩ j m = gS x ns (round ⟨a, p, mi, ma, i⟩ k0) j (gKid x q i k0 m) := by
  have e : ∀ b, Sp x ns (kv (round ⟨a, p, mi, ma, i⟩ b)) j = rep x.n (fun a b => mKid x q a b) (x.n + 1) (max (mi - 1) 0) (if 0 < ma then ma - 1 else ma) b j := fun b => by unfold round; rw [spec_at ha, if_neg (by decide), if_pos rfl]
  rw [gs_at ha, if_neg (by decide), if_pos rfl, gRep, if_neg hij, topK_some (show i + 1 ≤ k0 by omega) (by omega) (by rw [← e, h4, h3]; rfl) (fun b b1 b2 => by have := h5 b b1 (by omega); rw [e] at this; exact this)];dsimp only;unfold round
  rw [gs_at ha, if_neg (show ¬ (4 : Int) = 2 by decide), if_pos (show (4 : Int) = 4 from rfl)];exact gRep_fuel _ _ _ _ _ _ _ (by omega) (by omega) (by omega)
theorem gs_repN (ha : ns[a]? = some (.mk 4 s nmi nma nnu v q, kvv, ks)) (hij : i ≠ j) (h5 : ∀ b, i < b → b ≤ j → (mKid x q i b && Sp x ns (kv (round ⟨a, p, mi, ma, i⟩ b)) j) = false) : gS x ns ⟨a, p, mi, ma, i⟩ j m = m := by
  have e : ∀ b, Sp x ns (kv (round ⟨a, p, mi, ma, i⟩ b)) j = rep x.n (fun a b => mKid x q a b) (x.n + 1) (max (mi - 1) 0) (if 0 < ma then ma - 1 else ma) b j := fun b => by unfold round; rw [spec_at ha, if_neg (by decide), if_pos rfl]
  rw [gs_at ha, if_neg (by decide), if_pos rfl, gRep, if_neg hij, topK_none (fun b b1 b2 => by have := h5 b (by omega) (by omega); rw [e] at this; exact this)]
end
end Go.Proofs.YtjdmdpjbijkjaaaGreat

namespace Go.Proofs.YtjdmdpjbijkjaaaGreat
open Go Go.RowKit
def GrOk (C : Cx) (s : Sta) (j : Nat) : Prop := ∀ (M : Value → Option Nat) (E : List (Value × Nat)) (bo : Nat) (m : Spn) (F : List Nat) (w : World), St w F [C.mt, C.nd, .kids C.ns, C.mo M E, .cells bo 59 (spC m)] w →
  Calls Tryz.prog 51 #[.pointer (some ⟨C.b, 0, none⟩), kv s, .int .i64 (j : Int), .pointer (some ⟨bo, 0, none⟩)] w fun e w' => ∃ y : {y : (Value → Option Nat) × List (Value × Nat) // ∀ p, p ∈ E → p ∈ y.2}, e = .returned (.tuple #[]) ∧ St w F [C.mt, C.nd, .kids C.ns, C.mo y.1.1 y.1.2, .cells bo 59 (spC (gS C.x C.ns s j m))] w'
def InOk (C : Cx) (cs : List Value) (q : List MT) (i j : Nat) : Prop := ∀ (M : Value → Option Nat) (E : List (Value × Nat)) (bo bn bm bq : Nat) (m : Spn) (F : List Nat) (w : World), St w F [.cells bn 140 cs, .cells bm 97 [.pointer (some ⟨C.b, 0, none⟩)], .cells bq 107 [.pointer (some ⟨bo, 0, none⟩)], C.mt, C.nd, .kids C.ns, C.mo M E, .cells bo 59 (spC m)] w →
  Calls Tryz.prog 83 #[.int .i64 (i : Int), .int .i64 (j : Int), .pointer (some ⟨bn, 0, none⟩), .pointer (some ⟨bm, 0, none⟩), .pointer (some ⟨bq, 0, none⟩)] w fun e w' => ∃ y : {y : (Value → Option Nat) × List (Value × Nat) // ∀ p, p ∈ E → p ∈ y.2}, e = .returned (.tuple #[]) ∧ St w F [.cells bn 140 cs, .cells bm 97 [.pointer (some ⟨C.b, 0, none⟩)], .cells bq 107 [.pointer (some ⟨bo, 0, none⟩)], C.mt, C.nd, .kids C.ns, C.mo y.1.1 y.1.2, .cells bo 59 (spC (gKid C.x q i j m))] w'
section
variable {N : Nat} {R : Regs} {S : World → Prop} {Q : Exit → Act → World → Prop} {X : Act → World → Prop} {ops : Array Oper} {rest : List Oper} {W0 : World} {F : List Nat} {L Lr : List Ent}
variable {ty t t' : TypeId} {pos : String} {af : Array Edge} {gd : Option (Nat × Bool)} {C : Cx} {M : Value → Option Nat} {E : List (Value × Nat)} {d bo bn bm bq : Nat} {x y : Operand} {xs : List Operand} {ats : Array TypeId} {m : Spn}
theorem g_grp {s : Sta} {j : Nat} (hgr : GrOk C s j) (hw : want ops R ⟨some d, .call { callee := .value (.func 51), args := xs.toArray, argTypes := ats }, ty, pos, af, gd⟩ = some true) (hN : Nat.blt d N = true) (hx : xs.mapM (ev R) = some [.pointer (some ⟨C.b, 0, none⟩), kv s, .int .i64 (j : Int), .pointer (some ⟨bo, 0, none⟩)])
    (h : ∀ M' E', (∀ p, p ∈ E → p ∈ E') → G N ((d, .tuple #[]) :: R) (St W0 F (C.mt :: C.nd :: .kids C.ns :: C.mo M' E' :: .cells bo 59 (spC (gS C.x C.ns s j m)) :: Lr)) (wpList Tryz.prog ops Q rest)) :
    G N R (St W0 F (C.mt :: C.nd :: .kids C.ns :: C.mo M E :: .cells bo 59 (spC m) :: Lr)) (wpList Tryz.prog ops Q (⟨some d, .call { callee := .value (.func 51), args := xs.toArray, argTypes := ats }, ty, pos, af, gd⟩ :: rest)) :=
  g_callOwn (L0 := [C.mt, C.nd, .kids C.ns, C.mo M E, .cells bo 59 (spC m)]) (fun _ : {y : (Value → Option Nat) × List (Value × Nat) // ∀ p, p ∈ E → p ∈ y.2} => .tuple #[]) (fun y => [C.mt, C.nd, .kids C.ns, C.mo y.1.1 y.1.2, .cells bo 59 (spC (gS C.x C.ns s j m))]) hw hN hx Tryz.call51 (fun w hS => hgr M E bo m _ w hS.part) fun y => h y.1.1 y.1.2 y.2
theorem g_inner {cs : List Value} {q : List MT} {i j : Nat} (hin : InOk C cs q i j) (hw : want ops R ⟨some d, .call { callee := .value x, args := xs.toArray, argTypes := ats }, ty, pos, af, gd⟩ = some true) (hN : Nat.blt d N = true) (hx : xs.mapM (ev R) = some [.int .i64 (i : Int), .int .i64 (j : Int)])
    (hxf : ev R x = some (.func (.func 83) #[] #[.pointer (some ⟨bn, 0, none⟩), .pointer (some ⟨bm, 0, none⟩), .pointer (some ⟨bq, 0, none⟩)]))
    (h : ∀ M' E', (∀ p, p ∈ E → p ∈ E') → G N ((d, .tuple #[]) :: R) (St W0 F (.cells bn 140 cs :: .cells bm 97 [.pointer (some ⟨C.b, 0, none⟩)] :: .cells bq 107 [.pointer (some ⟨bo, 0, none⟩)] :: C.mt :: C.nd :: .kids C.ns :: C.mo M' E' :: .cells bo 59 (spC (gKid C.x q i j m)) :: Lr)) (wpList Tryz.prog ops Q rest)) :
    G N R (St W0 F (.cells bn 140 cs :: .cells bm 97 [.pointer (some ⟨C.b, 0, none⟩)] :: .cells bq 107 [.pointer (some ⟨bo, 0, none⟩)] :: C.mt :: C.nd :: .kids C.ns :: C.mo M E :: .cells bo 59 (spC m) :: Lr)) (wpList Tryz.prog ops Q (⟨some d, .call { callee := .value x, args := xs.toArray, argTypes := ats }, ty, pos, af, gd⟩ :: rest)) := by
  refine g_callV (α := {y : (Value → Option Nat) × List (Value × Nat) // ∀ p, p ∈ E → p ∈ y.2}) (fun _ => .tuple #[]) (fun y => St W0 F (.cells bn 140 cs :: .cells bm 97 [.pointer (some ⟨C.b, 0, none⟩)] :: .cells bq 107 [.pointer (some ⟨bo, 0, none⟩)] :: C.mt :: C.nd :: .kids C.ns :: C.mo y.1.1 y.1.2 :: .cells bo 59 (spC (gKid C.x q i j m)) :: Lr)) hw hN hx hxf Tryz.call83 (fun w hS => ?_) fun y => h y.1.1 y.1.2 y.2;refine (hin M E bo bn bm bq m _ w (St.part (L0 := [.cells bn 140 cs, .cells bm 97 [.pointer (some ⟨C.b, 0, none⟩)], .cells bq 107 [.pointer (some ⟨bo, 0, none⟩)], C.mt, C.nd, .kids C.ns, C.mo M E, .cells bo 59 (spC m)]) hS)).mono fun e w' ⟨y, he, hb⟩ => ⟨y, he, ?_⟩;exact St.join (L0 := [.cells bn 140 cs, .cells bm 97 [.pointer (some ⟨C.b, 0, none⟩)], .cells bq 107 [.pointer (some ⟨bo, 0, none⟩)], C.mt, C.nd, .kids C.ns, C.mo M E, .cells bo 59 (spC m)]) hS (fun k hk => by obtain ⟨u, hu, hk⟩ := List.mem_flatMap.1 hk; exact ⟨u, hu, hk⟩) hb
theorem g_eqv (d : Nat) {v : Value} (u : Value) (hd : R.lookup d = some v) (e : v = u) (h : G N ((d, u) :: R) S X) : G N R S X := fun a w hR hS => h a w (hR.sub (lookup_over R (e ▸ hd))) hS
theorem g_stSp {k : Nat} {a b : Int} (i : Nat) (hk : k < 10) (hw : want ops R ⟨none, .store t x y, ty, pos, af, gd⟩ = some true) (hx : ev R x = some (.pointer (some ⟨bo, k * 2, none⟩))) (hy : ev R y = some (.agg #[.int .i64 a, .int .i64 b])) (hz : ∀ w, (sizeOf t).run Tryz.prog w = .ok 2 w)
    (hi : L[i]? = some (.cells bo 59 (spC m))) (h : G N R (St W0 F (L.set i (.cells bo 59 (spC (setS m k (a, b)))))) (wpList Tryz.prog ops Q rest)) : G N R (St W0 F L) (wpList Tryz.prog ops Q (⟨none, .store t x y, ty, pos, af, gd⟩ :: rest)) :=
  g_stAt i hw hx hy hz rfl hi rfl (spC_put m a b k hk) h
end
set_option maxRecDepth 100000 in
theorem in_nil (C : Cx) (k : Int) (s : Nat → Int) (nmi nma nnu : Int) (v1 : Option Addr) (v2 v3 i j : Nat) (u1 : Option Addr) (u3 : Nat) (M : Value → Option Nat) (E : List (Value × Nat)) (bo bn bm bq : Nat) (m : Spn) (F : List Nat) (w : World) (hS0 : St w F [.cells bn 140 [.int .i64 k, .int .u64 (s 0), .int .u64 (s 1), .int .u64 (s 2), .int .u64 (s 3), .int .i64 nmi, .int .i64 nma, .int .i64 nnu, .slice v1 v2 v3, .slice u1 0 u3], .cells bm 97 [.pointer (some ⟨C.b, 0, none⟩)], .cells bq 107 [.pointer (some ⟨bo, 0, none⟩)], C.mt, C.nd, .kids C.ns, C.mo M E, .cells bo 59 (spC m)] w) :
    Calls Tryz.prog 83 #[.int .i64 (i : Int), .int .i64 (j : Int), .pointer (some ⟨bn, 0, none⟩), .pointer (some ⟨bm, 0, none⟩), .pointer (some ⟨bq, 0, none⟩)] w fun e w' => ∃ y : {y : (Value → Option Nat) × List (Value × Nat) // ∀ p, p ∈ E → p ∈ y.2}, e = .returned (.tuple #[]) ∧ St w F [.cells bn 140 [.int .i64 k, .int .u64 (s 0), .int .u64 (s 1), .int .u64 (s 2), .int .u64 (s 3), .int .i64 nmi, .int .i64 nma, .int .i64 nnu, .slice v1 v2 v3, .slice u1 0 u3], .cells bm 97 [.pointer (some ⟨C.b, 0, none⟩)], .cells bq 107 [.pointer (some ⟨bo, 0, none⟩)], C.mt, C.nd, .kids C.ns, C.mo y.1.1 y.1.2, .cells bo 59 (spC (gKid C.x [] i j m))] w' := by
 simp only [gKid_nil];refine fn_intro_own Tryz.func83 rfl Tryz.ntmps83 rfl rfl hS0 (s_ (o_ ?_));refine xg 2 [0] rfl (by omega) (g_val (v := .int .i64 0) rfl rfl rfl (y_llen rfl Tryz.underlying138) ?_);refine xg 1 [2] rfl (by omega) (n_ (t_ (g_cond_f rfl (g_skip (g_end_normal ?_)))));refine g_end0 Tryz.results83 ?_;exact fun w hS => ⟨⟨(M, E), fun p hp => hp⟩, rfl, hS.pick [0,0,0,0,0,0,0,0] rfl⟩
set_option maxRecDepth 100000 in
theorem in_some (C : Cx) (k : Int) (s : Nat → Int) (nmi nma nnu : Int) (v1 : Option Addr) (v2 v3 i j : Nat) (gk ck a kk : Nat) (ks : List Nat) (t u : MT) (r : List MT) (ha : C.ns[a]? = some (t, .slice (some ⟨gk, 0, none⟩) ks.length ck, ks)) (hkk : ks[0]? = some kk) (hlen : 0 < ks.length ∧ ks.length ≤ maxLen) (hlu : laidT C.ns u kk) (hgr : GrOk C (beg C.x C.ns kk i) j) (M : Value → Option Nat) (E : List (Value × Nat)) (bo bn bm bq : Nat) (m : Spn) (F : List Nat) (w : World) (hS0 : St w F [.cells bn 140 [.int .i64 k, .int .u64 (s 0), .int .u64 (s 1), .int .u64 (s 2), .int .u64 (s 3), .int .i64 nmi, .int .i64 nma, .int .i64 nnu, .slice v1 v2 v3, .slice (some ⟨gk, 0, none⟩) ks.length ck], .cells bm 97 [.pointer (some ⟨C.b, 0, none⟩)], .cells bq 107 [.pointer (some ⟨bo, 0, none⟩)], C.mt, C.nd, .kids C.ns, C.mo M E, .cells bo 59 (spC m)] w) :
    Calls Tryz.prog 83 #[.int .i64 (i : Int), .int .i64 (j : Int), .pointer (some ⟨bn, 0, none⟩), .pointer (some ⟨bm, 0, none⟩), .pointer (some ⟨bq, 0, none⟩)] w fun e w' => ∃ y : {y : (Value → Option Nat) × List (Value × Nat) // ∀ p, p ∈ E → p ∈ y.2}, e = .returned (.tuple #[]) ∧ St w F [.cells bn 140 [.int .i64 k, .int .u64 (s 0), .int .u64 (s 1), .int .u64 (s 2), .int .u64 (s 3), .int .i64 nmi, .int .i64 nma, .int .i64 nnu, .slice v1 v2 v3, .slice (some ⟨gk, 0, none⟩) ks.length ck], .cells bm 97 [.pointer (some ⟨C.b, 0, none⟩)], .cells bq 107 [.pointer (some ⟨bo, 0, none⟩)], C.mt, C.nd, .kids C.ns, C.mo y.1.1 y.1.2, .cells bo 59 (spC (gKid C.x (u :: r) i j m))] w' := by
 have hx := C.hx;have hW := C.hW;simp only [gKid_cons, ← gS_beg hlu];obtain ⟨k2, s2, mi2, ma2, nu2, v12, u12, v22, v32, u22, u32, q2, ks2, rfl, hb, _, _⟩ := Cx.node hlu;refine fn_intro_own Tryz.func83 rfl Tryz.ntmps83 rfl rfl hS0 (s_ (o_ ?_));refine xg 2 [0] rfl (by omega) (g_val (v := .int .i64 ((ks.length : Nat) : Int)) rfl rfl rfl (y_llen rfl Tryz.underlying138) ?_);refine xg 1 [1] rfl (by omega) (n_ (t_ (g_cond_t rfl ?_)));refine k_go [0,0,0,0,0,0] rfl (by kernel_rfl) (fun _ _ _ _ _ h => h) fun hQ => (k_xc 0 [0,0,0,0,0,0] [1] hQ (by kernel_rfl) rfl rfl rfl rfl rfl rfl (by omega) ?_);refine k_xc 1 [0,0,0,0,0,0] [1] hQ (by kernel_rfl) rfl rfl rfl rfl rfl rfl (by omega) (k_x 2 [0,0,0,0,0,0] [] hQ (by kernel_rfl) rfl rfl rfl rfl rfl rfl ?_);refine k_xc 3 [0,0,0,0,0,0] [0] hQ (by kernel_rfl) rfl rfl rfl rfl rfl rfl (by omega) (k_take 4 rfl (by kernel_rfl) hQ rfl rfl rfl (zpk [0,0,0,0,0,0] rfl) (y_idxAddr (m := 0) rfl rfl Tryz.underlying138 Tryz.sizeOf3 (by decide) (by omega) rfl) ?_);refine k_take (v := .int .i64 (kk : Int)) 5 rfl (by kernel_rfl) hQ rfl rfl rfl (zpk [0,0,0,0,0,0] rfl) (y_ldK (p := 0) 5 rfl ha hkk rfl Tryz.isAgg3) (k_x 6 [0,0,0,0,0,0] [] hQ (by kernel_rfl) rfl rfl rfl rfl rfl rfl ?_);refine k_call 7 (m_begin C.b C.mp kk i _ C.x C.ns k2 s2 mi2 ma2 nu2 v12 u12 v22 v32 u22 u32 q2 ks2 hb C.hx) (fun w hS => Cx.mi hS (i := 3) (j := 4) rfl rfl) rfl (by kernel_rfl) hQ rfl rfl rfl (zpk [0,0,0,0,0,0] rfl) (k_x 8 [0,0,0,0,0,0] [] hQ (by kernel_rfl) rfl rfl rfl rfl rfl rfl ?_);refine k_xc 9 [0,0,0,0,0,0] [2] hQ (by kernel_rfl) rfl rfl rfl rfl rfl rfl (by omega) (k_one 10 (by kernel_rfl) ?_);refine k_op 10 rfl (g_ahead [3,3,3,3,3] rfl ?_);simp only [zc0,zc1];refine g_grp (hgr) rfl rfl rfl (fun M1 E1 hs1 => (n_ ?_));refine k_end (zpk [5,5,5,0,0,0] rfl) (k_done (by kernel_rfl) ?_);refine g_end_normal (g_end0 Tryz.results83 ?_);exact fun w hS => ⟨⟨(M1, E1), hs1⟩, rfl, hS.pick [5,5,5,0,0,0,0,0] rfl⟩
set_option maxRecDepth 100000 in
theorem in_ok {C : Cx} {k : Int} {s : Nat → Int} {nmi nma nnu : Int} {v1 : Option Addr} {v2 v3 i j a : Nat} {q : List MT} {ks : List Nat} {u1 : Option Addr} {u2 u3 : Nat} {t : MT} (ha : C.ns[a]? = some (t, .slice u1 u2 u3, ks)) (hl : laidH C.ns q ks) (hgr : ∀ u r c, q = u :: r → laidT C.ns u c → GrOk C (beg C.x C.ns c i) j) :
    InOk C [.int .i64 k, .int .u64 (s 0), .int .u64 (s 1), .int .u64 (s 2), .int .u64 (s 3), .int .i64 nmi, .int .i64 nma, .int .i64 nnu, .slice v1 v2 v3, .slice u1 u2 u3] q i j := fun M E bo bn bm bq m F w hS0 => by
  obtain ⟨hle, ⟨h1, h2⟩ | ⟨g, c, h2⟩⟩ := kid_sl (hS0.get (i := 5) rfl) ha
  · cases h2;subst h1;cases q with
    | nil => exact in_nil C k s nmi nma nnu v1 v2 v3 i j none 0 M E bo bn bm bq m F w hS0
    | cons u r => obtain ⟨b, h, _⟩ := laidH_cons.1 hl; cases h
  · cases h2;cases q with
    | nil =>
      obtain rfl := laidH_nil.1 hl;exact in_nil C k s nmi nma nnu v1 v2 v3 i j (some ⟨g, 0, none⟩) _ M E bo bn bm bq m F w hS0
    | cons u r =>
      obtain ⟨b, rfl, h3⟩ := laidH_cons.1 hl;exact in_some C k s nmi nma nnu v1 v2 v3 i j g _ a b [b] t u r ha rfl ⟨by simp, hle⟩ h3 (hgr u r b rfl h3) M E bo bn bm bq m F w hS0
end Go.Proofs.YtjdmdpjbijkjaaaGreat

namespace Go.Proofs.YtjdmdpjbijkjaaaGreat
open Go Go.RowKit
theorem down_step {p : Nat → Bool} {k0 j : Nat} (hp : ∀ b, k0 + 1 ≤ b → b ≤ j → p b = false) (h0 : p k0 = false) : ∀ b, k0 ≤ b → b ≤ j → p b = false := fun b h1 h2 => by
  by_cases e : b = k0
  · rw [e]; exact h0
  · exact hp b (by omega) h2
set_option maxHeartbeats 8000000 in
set_option maxRecDepth 100000 in
theorem gr_any (C : Cx) (k : Int) (s : Nat → Int) (nmi nma nnu : Int) (v1 u1 : Option Addr) (v2 v3 u3 : Nat) (a p i j : Nat) (mi ma : Int) (q : List MT) (ks : List Nat) (ha : C.ns[a]? = some (.mk k s nmi nma nnu (.slice v1 v2 v3) q, .slice u1 ks.length u3, ks)) (hgk : 0 < ks.length → ∃ gk, u1 = some ⟨gk, 0, none⟩) (hi : i ≤ C.x.n) (hj : j ≤ C.x.n) (hr : okS ⟨a, p, mi, ma, i⟩) (hrow : k = 2 → p ≤ ks.length) (hlq : k ≠ 5 → k ≠ 4 → laidL C.ns q ks) (hkid : k = 5 ∨ k = 4 → KidOk C [.int .i64 k, .int .u64 (s 0), .int .u64 (s 1), .int .u64 (s 2), .int .u64 (s 3), .int .i64 nmi, .int .i64 nma, .int .i64 nnu, .slice v1 v2 v3, .slice u1 ks.length u3] q i) (hbeg : ∀ t kk, t ∈ q → laidT C.ns t kk → AllOk C (beg C.x C.ns kk i)) (hnext : k = 2 → p < ks.length → ∀ j, i ≤ j → j ≤ C.x.n → AllOk C ⟨a, p + 1, 0, 0, j⟩) (hrnd : k = 4 → ∀ j, i < j → j ≤ C.x.n → AllOk C (round ⟨a, p, mi, ma, i⟩ j)) (ginn : k = 5 ∨ k = 4 → ∀ i' j', i' ≤ C.x.n → j' ≤ C.x.n → InOk C [.int .i64 k, .int .u64 (s 0), .int .u64 (s 1), .int .u64 (s 2), .int .u64 (s 3), .int .i64 nmi, .int .i64 nma, .int .i64 nnu, .slice v1 v2 v3, .slice u1 ks.length u3] q i' j') (gbeg : ∀ t kk, t ∈ q → laidT C.ns t kk → ∀ j', j' ≤ C.x.n → GrOk C (beg C.x C.ns kk i) j') (gnext : k = 2 → p < ks.length → ∀ b, i ≤ b → b ≤ C.x.n → GrOk C ⟨a, p + 1, 0, 0, b⟩ j) (grnd : k = 4 → ∀ b, i < b → b ≤ C.x.n → GrOk C (round ⟨a, p, mi, ma, i⟩ b) j) (M : Value → Option Nat) (E : List (Value × Nat)) (bo : Nat) (m : Spn) (F : List Nat) (w : World) (hS0 : St w F [C.mt, C.nd, .kids C.ns, C.mo M E, .cells bo 59 (spC m)] w) :
    Calls Tryz.prog 51 #[.pointer (some ⟨C.b, 0, none⟩), .agg ([.int .i64 (a : Int), .int .i64 (p : Int), .int .i64 mi, .int .i64 ma, .int .i64 (i : Int)]).toArray, .int .i64 (j : Int), .pointer (some ⟨bo, 0, none⟩)] w fun e w' => ∃ y : {y : (Value → Option Nat) × List (Value × Nat) // ∀ p, p ∈ E → p ∈ y.2}, e = .returned (.tuple #[]) ∧ St w F [C.mt, C.nd, .kids C.ns, C.mo y.1.1 y.1.2, .cells bo 59 (spC (gS C.x C.ns ⟨a, p, mi, ma, i⟩ j m))] w' := by
 have hx := C.hx;have hW := C.hW;obtain ⟨r1, r2, r3, r4, r5, r6, r7⟩ := id hr;dsimp only at r1 r2 r3 r4 r5 r6 r7;have hal := (List.getElem?_eq_some_iff.1 ha).1;have hle : ks.length ≤ maxLen := (kid_sl (hS0.get (i := 2) rfl) ha).1;have hmx : maxLen = 9223372036854775807 := rfl;have hnl := C.hl;refine fn_intro_own Tryz.func51 rfl Tryz.ntmps51 rfl rfl hS0 (s_ (o_ ?_));refine g_box rfl rfl rfl rfl (fun b1 => (g_box rfl rfl rfl rfl (fun b2 => ?_)));refine g_box rfl rfl rfl rfl (fun b3 => (n_ (t_ (s_ ?_))));refine k_go [2,1,0,0,0,0,0,0] rfl (by kernel_rfl) (fun _ _ _ _ _ h => h) fun hQ => (k_xc 0 [2,1,0,0,0,0,0,0] [0] hQ (by kernel_rfl) rfl rfl rfl rfl rfl rfl (by omega) ?_);refine k_x 1 [2,1,0,0,0,0,0,0] [] hQ (by kernel_rfl) rfl rfl rfl rfl rfl rfl (k_x 2 [2,1,0,0,0,0,0,0] [] hQ (by kernel_rfl) rfl rfl rfl rfl rfl rfl ?_);refine k_xc 3 [2,1,0,0,0,0,0,0] [3] hQ (by kernel_rfl) rfl rfl rfl rfl rfl rfl (by omega) (k_x 4 [2,1,0,0,0,0,0,0] [] hQ (by kernel_rfl) rfl rfl rfl rfl rfl rfl ?_);refine k_xc 5 [2,1,0,0,0,0,0,0] [1] hQ (by kernel_rfl) rfl rfl rfl rfl rfl rfl (by omega) (k_take 6 rfl (by kernel_rfl) hQ rfl rfl rfl (zpk [2,1,0,0,0,0,0,0] rfl) (y_idxAddr (m := a * 10) rfl rfl Tryz.underlying134 Tryz.sizeOf140 (by omega) (by omega) (by omega)) ?_);refine k_take (v := .agg ([.int .i64 k, .int .u64 (s 0), .int .u64 (s 1), .int .u64 (s 2), .int .u64 (s 3), .int .i64 nmi, .int .i64 nma, .int .i64 nnu, .slice v1 v2 v3, .slice u1 ks.length u3]).toArray) 7 rfl (by kernel_rfl) hQ rfl rfl rfl (zpk [2,1,0,0,0,0,0,0] rfl) (y_val (y_ldRN (k := 10) (off := a * 10) (vs := fC (.mk k s nmi nma nnu (.slice v1 v2 v3) q, .slice u1 ks.length u3, ks)) 4 rfl Tryz.isAgg140 Tryz.sizeOf140 rfl (fm_elem fC 10 fC_len C.ns a _ ha) (fC_len _)) rfl) (k_one 8 (by kernel_rfl) ?_);refine k_op 8 rfl (g_alloc rfl rfl Tryz.zeroValue140 rfl (fun b4 => ?_));refine n_ (k_end (zpk [3,2,1,1,1,1,1,1] rfl) ?_);refine k_one 9 (by kernel_rfl) (k_op 9 rfl ?_);refine xg 1 [0] rfl (by omega) (n_ ?_);refine k_end (zpk [3,2,1,1,1,1,1,1] rfl) (k_done (by kernel_rfl) ?_);refine t_ (s_ (o_ (g_val rfl rfl rfl (y_makeFunc rfl) ?_)));refine xg 1 [] rfl rfl (ntso_ ?_);refine xg 3 [0] rfl (by omega) (n_ (t_ (g_block (s_ (o_ ?_)))));refine xg 2 [0] rfl rfl (n_ (t_ ?_));refine g_casep 30 rfl (fun h1 => ?_) fun h1 => ?_
 ·refine g_cond_t rfl (s_ (s_ ?_));obtain rfl : k = 2 := by assumption
  replace hlq := hlq (by decide) (by decide)
  have hpk := hrow rfl;refine o_ (xg 4 [2,0] rfl (by omega) ?_);refine g_val (v := .int .i64 ((ks.length : Nat) : Int)) rfl rfl rfl (y_llen rfl Tryz.underlying138) (xg 1 [0] rfl rfl ?_);refine n_ (t_ (g_casep 37 rfl (fun h2 => ?_) fun h2 => ?_))
  ·refine g_cond_t rfl (g_ret (g_then_ret (g_in_ret (g_end0 Tryz.results51 ?_))));rw [gs_row0 ha (by have := laidL_len hlq; omega)];exact fun w hS => ⟨⟨(M, E), fun p0 hp0 => hp0⟩, rfl, hS.pick [4,4,4,4,4] rfl⟩
  refine g_cond_f rfl (g_skip (t_ (s_ ?_)));obtain ⟨gk, rfl⟩ := hgk (by omega);obtain ⟨t2, kk, hqp, hkk, hl2⟩ := laidL_get hlq (p := p) (by omega);have hlb := hl2;obtain ⟨k2, s2, mi2, ma2, nu2, v12, u12, v22, v32, u22, u32, q2, ks2, rfl, hb, _, _⟩ := Cx.node hl2;refine k_go [3,2,1,0,0,0,0,0,0] rfl (by kernel_rfl) (fun _ _ _ _ _ h => h) fun hQ => (k_xc 0 [3,2,1,0,0,0,0,0,0] [0] hQ (by kernel_rfl) rfl rfl rfl rfl rfl rfl (by omega) ?_);refine k_x 1 [3,2,1,0,0,0,0,0,0] [] hQ (by kernel_rfl) rfl rfl rfl rfl rfl rfl (k_xc 2 [3,2,1,0,0,0,0,0,0] [3] hQ (by kernel_rfl) rfl rfl rfl rfl rfl rfl (by omega) ?_);refine k_x 3 [3,2,1,0,0,0,0,0,0] [] hQ (by kernel_rfl) rfl rfl rfl rfl rfl rfl (k_xc 4 [3,2,1,0,0,0,0,0,0] [1] hQ (by kernel_rfl) rfl rfl rfl rfl rfl rfl (by omega) ?_);refine k_take 5 rfl (by kernel_rfl) hQ rfl rfl rfl (zpk [3,2,1,0,0,0,0,0,0] rfl) (y_idxAddr (m := p) rfl rfl Tryz.underlying138 Tryz.sizeOf3 (by omega) (by omega) (by omega)) (k_take (v := .int .i64 (kk : Int)) 6 rfl (by kernel_rfl) hQ rfl rfl rfl (zpk [3,2,1,0,0,0,0,0,0] rfl) (y_ldK (p := p) 6 rfl ha hkk rfl Tryz.isAgg3) ?_);refine k_x 7 [3,2,1,0,0,0,0,0,0] [] hQ (by kernel_rfl) rfl rfl rfl rfl rfl rfl (k_xc 8 [3,2,1,0,0,0,0,0,0] [1] hQ (by kernel_rfl) rfl rfl rfl rfl rfl rfl (by omega) ?_);refine k_call 9 (m_begin C.b C.mp kk i _ C.x C.ns k2 s2 mi2 ma2 nu2 v12 u12 v22 v32 u22 u32 q2 ks2 hb C.hx) (fun w hS => Cx.mi hS (i := 4) (j := 5) rfl rfl) rfl (by kernel_rfl) hQ rfl rfl rfl (zpk [3,2,1,0,0,0,0,0,0] rfl) (k_one 10 (by kernel_rfl) ?_);refine k_op 10 rfl (g_alloc rfl rfl Tryz.zeroValue101 rfl (fun b5 => ?_));refine n_ (k_end (zpk [4,3,2,1,1,1,1,1,1] rfl) ?_);refine k_one 11 (by kernel_rfl) (k_op 11 rfl ?_);refine xg 1 [0] rfl (by omega) (n_ ?_);refine k_end (zpk [4,3,2,1,1,1,1,1,1] rfl) (k_done (by kernel_rfl) ?_);refine t_ (s_ (o_ (xg 2 [] rfl rfl ?_)));refine n_ (t_ (g_block (g_loop (α := {x : Nat × (Value → Option Nat) × List (Value × Nat) // x.1 ≤ j + 1 ∧ (∀ p, p ∈ E → p ∈ x.2.2) ∧ (∀ b, x.1 ≤ b → b ≤ j → (Sp C.x C.ns (kv (beg C.x C.ns kk i)) b && Sp C.x C.ns (kv ⟨a, p + 1, 0, 0, b⟩) j) = false)}) (fun x => [(2, .int .i64 (j : Int)), (4, .pointer (some ⟨b1, 0, none⟩)), (5, .pointer (some ⟨b2, 0, none⟩)), (7, .pointer (some ⟨b3, 0, none⟩)), (10, .pointer (some ⟨b5, 0, none⟩)), (11, .int .i64 ((x.1.1 : Int) - 1))]) (fun x => St w F [.cells b1 97 [.pointer (some ⟨C.b, 0, none⟩)], .cells b2 101 [.int .i64 (a : Int), .int .i64 (p : Int), .int .i64 mi, .int .i64 ma, .int .i64 (i : Int)], .cells b3 107 [.pointer (some ⟨bo, 0, none⟩)], .cells b5 101 (kvC (beg C.x C.ns kk i)), C.mt, C.nd, .kids C.ns, C.mo x.1.2.1 x.1.2.2, .cells bo 59 (spC m)]) (fun x => x.1.1) ⟨(j + 1, M, E), Nat.le_refl _, fun _ h => h, fun b h1 h2 => by omega⟩ [2, 4, 5, 7, 10, 11] (by rw [show (((j + 1 : Nat) : Int) - 1) = (j : Int) by omega]; rfl) (zpk [4,3,2,0,1,1,1,1,1] rfl) ?_)));rintro ⟨⟨c, M3, E3⟩, hc, hs3, hno⟩;dsimp only;dsimp only at hc hs3 hno;refine s_ (s_ (o_ (xg 4 [1,0] rfl (by omega) ?_)));refine n_ (t_ (g_casep 52 rfl (fun h3 => ?_) fun h3 => ?_))
  ·refine g_cond_t rfl (g_skip (t_ (s_ (g_block (s_ ?_)))));obtain ⟨k0, rfl⟩ : ∃ k0, c = k0 + 1 := ⟨c - 1, by omega⟩;refine g_eqv 11 (.int .i64 (k0 : Int)) rfl (by rw [show (((k0 + 1 : Nat) : Int) - 1) = (k0 : Int) by omega]) (o_ ?_);refine xg 7 [1,1] rfl (by omega) (g_alloc rfl rfl Tryz.zeroValue101 rfl (fun b6 => ?_));refine xg 1 [0] rfl (by omega) (ntso_ ?_);refine xg 2 [1,4] rfl (by omega) (g_ahead [5,5,5,5] rfl ?_);simp only [zc0,zc1];refine g_all (hbeg _ kk (List.mem_of_getElem? hqp) hlb) rfl rfl rfl (fun M1 E1 g1 hs1 hm1 => (xg 1 [] rfl rfl ?_));refine g_call1 (v := .bool (Sp C.x C.ns (kv (beg C.x C.ns kk i)) k0)) rfl rfl rfl Tryz.call79 (fun w hS => has_any (Sp C.x C.ns (kv (beg C.x C.ns kk i))) g1 C.W k0 (by unfold Cx.W; omega) C.hW w (memo_rd (hS.get (i := 3) rfl) (hm1))) (xg 1 [] rfl rfl ?_);first | refine g_casep 67 rfl (fun h4 => ?_) fun h4 => ?_ | refine g_caseb 67 rfl (fun h4 => ?_) fun h4 => ?_
   ·refine xg 2 [5,4] rfl (by omega) (g_all (hnext rfl (by omega) k0 (by omega) (by omega)) rfl rfl rfl (fun M2 E2 g2 hs2 hm2 => ?_));refine xg 1 [] rfl rfl (g_call1 (v := .bool (Sp C.x C.ns (kv ⟨a, p + 1, 0, 0, k0⟩) j)) rfl rfl rfl Tryz.call79 (fun w hS => has_any (Sp C.x C.ns (kv ⟨a, p + 1, 0, 0, k0⟩)) g2 C.W j (by unfold Cx.W; omega) C.hW w (memo_rd (hS.get (i := 3) rfl) (hm2))) ?_);refine xg 1 [] rfl rfl (n_ (t_ ?_));first | refine g_casep 73 rfl (fun h5 => ?_) fun h5 => ?_ | refine g_caseb 73 rfl (fun h5 => ?_) fun h5 => ?_
    ·refine g_cond_t rfl (s_ (o_ (xg 4 [5,8,7] rfl (by omega) ?_)));refine g_ahead [0,0,0,0,5] rfl ?_;simp only [zc0,zc1];refine g_grp (gbeg _ kk (List.mem_of_getElem? hqp) hlb k0 (by omega)) rfl rfl rfl (fun M5 E5 hs5 => (ntso_ ?_));refine xg 4 [6,5,8] rfl (by omega) (g_grp (gnext rfl (by omega) k0 (by omega) (by omega)) rfl rfl rfl (fun M6 E6 hs6 => ?_));refine n_ (t_ (g_ret (g_in_ret (g_then_ret (g_then_ret (g_in_ret (g_in_ret (g_end0 Tryz.results51 ?_))))))));rw [gs_rowS (k0 := k0) ha hqp hlb (by omega) (by omega) (by assumption) (by assumption) (fun b h1 h2 => hno b (by omega) h2)];exact fun w hS => ⟨⟨(M6, E6), fun p0 hp0 => hs6 _ (hs5 _ (hs2 _ (hs1 _ (hs3 _ (hp0)))))⟩, rfl, hS.pick [0,0,0,0,0] rfl⟩
    refine g_cond_f rfl (g_skip (g_in_normal (t_ (o_ (xg 3 [] rfl (by omega) ?_)))));refine n_ ?_;exact g_again ⟨(k0, M2, E2), by dsimp only; omega, fun p0 hp0 => hs2 _ (hs1 _ (hs3 _ (hp0))), down_step hno (by first | (simp only [show Sp C.x C.ns (kv (beg C.x C.ns kk i)) k0 = false by assumption, Bool.false_and]) | (simp only [show Sp C.x C.ns (kv ⟨a, p + 1, 0, 0, k0⟩) j = false by assumption, Bool.and_false]))⟩ [2, 4, 5, 7, 10, 11] (by dsimp only; omega) rfl (zpk [5,5,5,5,0,0,0,0,1] rfl)
   refine xg 6 [] rfl rfl (n_ (t_ (g_cond_f rfl (g_skip (g_in_normal (t_ (o_ ?_)))))));refine xg 3 [] rfl (by omega) (n_ ?_);exact g_again ⟨(k0, M1, E1), by dsimp only; omega, fun p0 hp0 => hs1 _ (hs3 _ (hp0)), down_step hno (by first | (simp only [show Sp C.x C.ns (kv (beg C.x C.ns kk i)) k0 = false by assumption, Bool.false_and]) | (simp only [show Sp C.x C.ns (kv ⟨a, p + 1, 0, 0, k0⟩) j = false by assumption, Bool.and_false]))⟩ [2, 4, 5, 7, 10, 11] (by dsimp only; omega) rfl (zpk [5,5,5,5,0,0,0,0,1] rfl)
  refine g_cond_f rfl (g_exit (g_then_exit (g_then_exit (g_in_exit (g_in_normal (g_end_normal (g_end0 Tryz.results51 ?_)))))));rw [gs_rowN ha hqp hlb (fun b h1 h2 => hno b (by omega) h2)];exact fun w hS => ⟨⟨(M3, E3), fun p0 hp0 => hs3 _ (hp0)⟩, rfl, hS.pick [4,4,4,4,4] rfl⟩
 refine g_cond_f rfl (s_ (o_ (xg 2 [0] rfl rfl ?_)));refine n_ (t_ (g_casep 84 rfl (fun h6 => ?_) fun h6 => ?_))
 ·refine g_cond_t rfl (s_ ?_);obtain rfl : k = 3 := by assumption
  replace hlq := hlq (by decide) (by decide)
  refine o_ (xg 2 [0] rfl (by omega) ?_);refine g_val (v := .int .i64 ((ks.length : Nat) : Int)) rfl rfl rfl (y_llen rfl Tryz.underlying138) (xg 1 [] rfl rfl ?_);refine n_ (t_ (g_block (g_loop (α := {x : Nat × (Value → Option Nat) × List (Value × Nat) // x.1 ≤ ks.length ∧ (∀ p, p ∈ E → p ∈ x.2.2) ∧ (∀ u, u ∈ q.take x.1 → mM C.x u i j = false)}) (fun x => [(2, .int .i64 (j : Int)), (4, .pointer (some ⟨b1, 0, none⟩)), (5, .pointer (some ⟨b2, 0, none⟩)), (7, .pointer (some ⟨b3, 0, none⟩)), (87, .slice u1 ks.length u3), (88, .int .i64 ((ks.length : Nat) : Int)), (89, .int .i64 (x.1.1 : Int))]) (fun x => St w F [.cells b1 97 [.pointer (some ⟨C.b, 0, none⟩)], .cells b2 101 [.int .i64 (a : Int), .int .i64 (p : Int), .int .i64 mi, .int .i64 ma, .int .i64 (i : Int)], .cells b3 107 [.pointer (some ⟨bo, 0, none⟩)], C.mt, C.nd, .kids C.ns, C.mo x.1.2.1 x.1.2.2, .cells bo 59 (spC m)]) (fun x => ks.length - x.1.1) ⟨(0, M, E), Nat.zero_le _, fun _ h => h, fun u hu => by cases hu⟩ [2, 4, 5, 7, 87, 88, 89] rfl (zpk [3,2,1,1,1,1,1,1] rfl) ?_)));rintro ⟨⟨n, M3, E3⟩, hc, hs3, hno⟩;dsimp only;dsimp only at hc hs3 hno;refine s_ (o_ (xg 1 [0] rfl rfl ?_));refine n_ (t_ (s_ (g_casep 90 rfl (fun h7 => ?_) fun h7 => ?_)))
  ·refine g_cond_t rfl (g_skip (t_ (s_ (g_block (s_ ?_)))));obtain ⟨gk, rfl⟩ := hgk (by omega);obtain ⟨t2, kk, hqn, hkk, hl2⟩ := laidL_get hlq (p := n) (by omega);have hlb := hl2;obtain ⟨k2, s2, mi2, ma2, nu2, v12, u12, v22, v32, u22, u32, q2, ks2, rfl, hb, _, _⟩ := Cx.node hl2;refine o_ (g_val rfl rfl rfl (y_idxAddr (m := n) rfl rfl Tryz.underlying138 Tryz.sizeOf3 (by omega) (by omega) (by omega)) ?_);refine g_val (v := .int .i64 (kk : Int)) rfl rfl rfl (y_ldK (p := n) 5 rfl ha hkk rfl Tryz.isAgg3) (xg 1 [] rfl rfl ?_);refine ntso_ (xg 4 [0,1] rfl (by omega) ?_);refine g_c1 (m_begin C.b C.mp kk i _ C.x C.ns k2 s2 mi2 ma2 nu2 v12 u12 v22 v32 u22 u32 q2 ks2 hb C.hx) (fun w hS => Cx.mi hS (i := 3) (j := 4) rfl rfl) rfl rfl rfl (g_alloc rfl rfl Tryz.zeroValue101 rfl (fun b7 => ?_));refine xg 1 [0] rfl (by omega) (ntso_ ?_);refine xg 2 [1,0] rfl (by omega) (g_ahead [4,4,4,4] rfl ?_);simp only [zc0,zc1];refine g_all (hbeg _ kk (List.mem_of_getElem? hqn) hlb) rfl rfl rfl (fun M1 E1 g1 hs1 hm1 => (xg 1 [] rfl rfl ?_));refine g_call1 (v := .bool (Sp C.x C.ns (kv (beg C.x C.ns kk i)) j)) rfl rfl rfl Tryz.call79 (fun w hS => has_any (Sp C.x C.ns (kv (beg C.x C.ns kk i))) g1 C.W j (by unfold Cx.W; omega) C.hW w (memo_rd (hS.get (i := 3) rfl) (hm1))) (n_ (t_ ?_));first | refine g_casep 102 rfl (fun h8 => ?_) fun h8 => ?_ | refine g_caseb 102 rfl (fun h8 => ?_) fun h8 => ?_
   ·refine g_cond_t rfl (s_ (o_ (xg 4 [5,4,7] rfl (by omega) ?_)));refine g_ahead [0,0,0,0,4] rfl ?_;simp only [zc0,zc1];refine g_grp (gbeg _ kk (List.mem_of_getElem? hqn) hlb j hj) rfl rfl rfl (fun M5 E5 hs5 => (n_ (t_ (g_ret (g_in_ret (g_then_ret (g_then_ret (g_in_ret (g_in_ret ?_)))))))));refine g_end0 Tryz.results51 ?_;rw [gs_eiS ha hqn hlb (by assumption) hno];exact fun w hS => ⟨⟨(M5, E5), fun p0 hp0 => hs5 _ (hs1 _ (hs3 _ (hp0)))⟩, rfl, hS.pick [0,0,0,0,0] rfl⟩
   refine g_cond_f rfl (g_skip (g_in_normal (t_ (o_ (xg 2 [] rfl (by omega) ?_)))));refine n_ ?_;exact g_again ⟨(n + 1, M1, E1), by dsimp only; omega, fun p0 hp0 => hs1 _ (hs3 _ (hp0)), ei_more hqn hno ((by rw [← spec_beg hlb, ← Sp_kv]; assumption))⟩ [2, 4, 5, 7, 87, 88, 89] (by dsimp only; omega) rfl (zpk [5,5,5,0,0,0,0,1] rfl)
  refine g_cond_f rfl (g_exit (g_then_exit (g_then_exit (g_in_exit (g_in_normal (g_end_normal (g_end0 Tryz.results51 ?_)))))));rw [gs_eiN ha (n := n) (by have := laidL_len hlq; omega) hno];exact fun w hS => ⟨⟨(M3, E3), fun p0 hp0 => hs3 _ (hp0)⟩, rfl, hS.pick [3,3,3,3,3] rfl⟩
 refine g_cond_f rfl (s_ (o_ (xg 2 [0] rfl rfl ?_)));refine n_ (t_ (g_casep 109 rfl (fun h9 => ?_) fun h9 => ?_))
 ·refine g_cond_t rfl (s_ (s_ ?_));obtain rfl : k = 5 := by assumption
  refine o_ (xg 5 [0,0] rfl (by omega) ?_);refine g_casep 115 rfl (fun h10 => ?_) fun h10 => ?_
  ·refine xg 5 [0,0] rfl (by omega) (n_ (t_ ?_));refine g_casep 120 rfl (fun h11 => ?_) fun h11 => ?_
   ·refine g_cond_t rfl (k_go [3,2,1,0,0,0,0,0] rfl (by kernel_rfl) (fun _ _ _ _ _ h => h) fun hQ => ?_);refine k_xc 0 [3,2,1,0,0,0,0,0] [2] hQ (by kernel_rfl) rfl rfl rfl rfl rfl rfl (by omega) (k_x 1 [3,2,1,0,0,0,0,0] [] hQ (by kernel_rfl) rfl rfl rfl rfl rfl rfl ?_);refine k_x 2 [3,2,1,0,0,0,0,0] [] hQ (by kernel_rfl) rfl rfl rfl rfl rfl rfl (k_xc 3 [3,2,1,0,0,0,0,0] [3] hQ (by kernel_rfl) rfl rfl rfl rfl rfl rfl (by omega) ?_);refine k_x 4 [3,2,1,0,0,0,0,0] [] hQ (by kernel_rfl) rfl rfl rfl rfl rfl rfl (k_xc 5 [3,2,1,0,0,0,0,0] [1] hQ (by kernel_rfl) rfl rfl rfl rfl rfl rfl (by omega) ?_);refine k_x 6 [3,2,1,0,0,0,0,0] [] hQ (by kernel_rfl) rfl rfl rfl rfl rfl rfl (k_x 7 [3,2,1,0,0,0,0,0] [] hQ (by kernel_rfl) rfl rfl rfl rfl rfl rfl ?_);refine k_x 8 [3,2,1,0,0,0,0,0] [] hQ (by kernel_rfl) rfl rfl rfl rfl rfl rfl (k_take 9 rfl (by kernel_rfl) hQ rfl rfl rfl (zpk [3,2,1,0,0,0,0,0] rfl) (y_idxArr (m := nnu.toNat * 2) rfl rfl Tryz.underlying59 Tryz.sizeOf57 (by omega) (by omega) (by omega)) ?_);refine k_one 10 (by kernel_rfl) (k_op 10 rfl ?_);refine g_stSp (k := nnu.toNat) 8 (by omega) rfl rfl rfl Tryz.sizeOf57 rfl ?_;simp only [zs0,zs1];refine n_ (k_end (zpk [3,2,1,0,0,0,0,0] rfl) ?_);refine k_done (by kernel_rfl) (t_ (o_ ?_));refine xg 4 [2] rfl (by omega) (g_ahead [0,2,0,1,1,1,1,1] rfl ?_);simp only [zc0,zc1];refine g_inner (ginn (.inl rfl) i j hi hj) rfl rfl rfl rfl (fun M8 E8 hs8 => (n_ (g_in_normal (g_end_normal ?_))));refine g_end0 Tryz.results51 ?_;rw [(gs_grp ha).trans (by first | rw [if_pos (by omega)] | rw [if_neg (by omega)])];exact fun w hS => ⟨⟨(M8, E8), fun p0 hp0 => hs8 _ (hp0)⟩, rfl, hS.pick [3,3,3,3,3] rfl⟩
   refine g_cond_f rfl (g_skip (t_ (o_ (xg 4 [2] rfl (by omega) ?_))));refine g_ahead [0,2,0,1,1,1,1,1] rfl ?_;simp only [zc0,zc1];refine g_inner (ginn (.inl rfl) i j hi hj) rfl rfl rfl rfl (fun M8 E8 hs8 => (n_ (g_in_normal (g_end_normal ?_))));refine g_end0 Tryz.results51 ?_;rw [(gs_grp ha).trans (by first | rw [if_pos (by omega)] | rw [if_neg (by omega)])];exact fun w hS => ⟨⟨(M8, E8), fun p0 hp0 => hs8 _ (hp0)⟩, rfl, hS.pick [3,3,3,3,3] rfl⟩
  refine xg 5 [] rfl rfl (n_ (t_ (g_cond_f rfl (g_skip (t_ (o_ ?_))))));refine xg 4 [2] rfl (by omega) (g_ahead [0,2,0,1,1,1,1,1] rfl ?_);simp only [zc0,zc1];refine g_inner (ginn (.inl rfl) i j hi hj) rfl rfl rfl rfl (fun M8 E8 hs8 => (n_ (g_in_normal (g_end_normal ?_))));refine g_end0 Tryz.results51 ?_;rw [(gs_grp ha).trans (by first | rw [if_pos (by omega)] | rw [if_neg (by omega)])];exact fun w hS => ⟨⟨(M8, E8), fun p0 hp0 => hs8 _ (hp0)⟩, rfl, hS.pick [3,3,3,3,3] rfl⟩
 refine g_cond_f rfl (s_ (o_ (xg 2 [0] rfl rfl ?_)));refine n_ (t_ (g_casep 136 rfl (fun h12 => ?_) fun h12 => ?_))
 ·refine g_cond_t rfl (s_ (s_ ?_));obtain rfl : k = 4 := by assumption
  refine o_ (xg 4 [2,0] rfl (by omega) ?_);refine n_ (t_ (g_casep 141 rfl (fun h13 => ?_) fun h13 => ?_))
  ·refine g_cond_t rfl (s_ (s_ ?_));obtain rfl : i = j := by omega
   refine o_ (xg 3 [2,0] rfl (by omega) ?_);refine n_ (t_ (g_casep 144 rfl (fun h14 => ?_) fun h14 => ?_))
   ·refine g_cond_t rfl (o_ (xg 3 [] rfl rfl ?_));refine g_ahead [0,2,0,1,1,1,1,1] rfl ?_;simp only [zc0,zc1];refine g_inner (ginn (.inr rfl) i i hi hi) rfl rfl rfl rfl (fun M8 E8 hs8 => (n_ (t_ (g_ret (g_then_ret (g_in_ret ?_))))));refine g_end0 Tryz.results51 ?_;rw [(gs_rep0 ha).trans (by first | rw [if_pos (by omega)] | rw [if_neg (by omega)])];exact fun w hS => ⟨⟨(M8, E8), fun p0 hp0 => hs8 _ (hp0)⟩, rfl, hS.pick [3,3,3,3,3] rfl⟩
   refine g_cond_f rfl (g_skip (t_ (g_ret (g_then_ret (g_in_ret (g_end0 Tryz.results51 ?_))))));rw [(gs_rep0 ha).trans (by first | rw [if_pos (by omega)] | rw [if_neg (by omega)])];exact fun w hS => ⟨⟨(M, E), fun p0 hp0 => hp0⟩, rfl, hS.pick [4,4,4,4,4] rfl⟩
  refine g_cond_f rfl (g_skip (t_ (s_ (o_ (xg 2 [] rfl rfl ?_)))));refine n_ (t_ (g_block (g_loop (α := {x : Nat × (Value → Option Nat) × List (Value × Nat) // x.1 ≤ j + 1 ∧ (∀ p, p ∈ E → p ∈ x.2.2) ∧ (∀ b, x.1 ≤ b → b ≤ j → (mKid C.x q i b && Sp C.x C.ns (kv (round ⟨a, p, mi, ma, i⟩ b)) j) = false)}) (fun x => [(2, .int .i64 (j : Int)), (4, .pointer (some ⟨b1, 0, none⟩)), (5, .pointer (some ⟨b2, 0, none⟩)), (7, .pointer (some ⟨b3, 0, none⟩)), (8, .pointer (some ⟨b4, 0, none⟩)), (9, .func (.func 83) #[] #[.pointer (some ⟨b4, 0, none⟩), .pointer (some ⟨b1, 0, none⟩), .pointer (some ⟨b3, 0, none⟩)]), (16, .int .i64 ((x.1.1 : Int) - 1))]) (fun x => St w F [.cells b1 97 [.pointer (some ⟨C.b, 0, none⟩)], .cells b2 101 [.int .i64 (a : Int), .int .i64 (p : Int), .int .i64 mi, .int .i64 ma, .int .i64 (i : Int)], .cells b3 107 [.pointer (some ⟨bo, 0, none⟩)], .cells b4 140 [.int .i64 4, .int .u64 (s 0), .int .u64 (s 1), .int .u64 (s 2), .int .u64 (s 3), .int .i64 nmi, .int .i64 nma, .int .i64 nnu, .slice v1 v2 v3, .slice u1 ks.length u3], C.mt, C.nd, .kids C.ns, C.mo x.1.2.1 x.1.2.2, .cells bo 59 (spC m)]) (fun x => x.1.1) ⟨(j + 1, M, E), Nat.le_refl _, fun _ h => h, fun b h1 h2 => by omega⟩ [2, 4, 5, 7, 8, 9, 16] (by rw [show (((j + 1 : Nat) : Int) - 1) = (j : Int) by omega]; rfl) (zpk [3,2,1,0,0,0,0,0,0] rfl) ?_)));rintro ⟨⟨c, M3, E3⟩, hc, hs3, hno⟩;dsimp only;dsimp only at hc hs3 hno;refine s_ (s_ (o_ (xg 4 [1,0] rfl (by omega) ?_)));refine n_ (t_ (g_casep 153 rfl (fun h15 => ?_) fun h15 => ?_))
  ·refine g_cond_t rfl (g_skip (t_ (s_ (g_block (s_ ?_)))));obtain ⟨k0, rfl⟩ : ∃ k0, c = k0 + 1 := ⟨c - 1, by omega⟩;refine g_eqv 16 (.int .i64 (k0 : Int)) rfl (by rw [show (((k0 + 1 : Nat) : Int) - 1) = (k0 : Int) by omega]) (o_ ?_);refine xg 2 [1] rfl (by omega) (g_c1 (m_round a p i k0 mi ma ⟨r4, r5, r6, r7⟩) any_I rfl rfl rfl ?_);refine g_alloc rfl rfl Tryz.zeroValue101 rfl (fun b8 => (xg 1 [0] rfl (by omega) ?_));refine ntso_ (xg 4 [1,4,2] rfl (by omega) ?_);refine g_ahead [5,5,5,5] rfl ?_;simp only [zc0,zc1];refine g_kid (hkid (.inr rfl)) rfl rfl rfl (fun M1 E1 q1 g1 hs1 hm1 hq1 => (xg 1 [] rfl rfl ?_));refine g_call1 (v := .bool (Sp C.x C.ns (q1) k0)) rfl rfl rfl Tryz.call79 (fun w hS => has_any (Sp C.x C.ns (q1)) g1 C.W k0 (by unfold Cx.W; omega) C.hW w (memo_rd (hS.get (i := 3) rfl) (hm1))) (xg 1 [] rfl rfl ?_);first | refine g_casep 166 rfl (fun h16 => ?_) fun h16 => ?_ | refine g_caseb 166 rfl (fun h16 => ?_) fun h16 => ?_
   ·refine xg 2 [5,4] rfl (by omega) (g_all (hrnd rfl k0 (by omega) (by omega)) rfl rfl rfl (fun M2 E2 g2 hs2 hm2 => ?_));refine xg 1 [] rfl rfl (g_call1 (v := .bool (Sp C.x C.ns (kv (round ⟨a, p, mi, ma, i⟩ k0)) j)) rfl rfl rfl Tryz.call79 (fun w hS => has_any (Sp C.x C.ns (kv (round ⟨a, p, mi, ma, i⟩ k0))) g2 C.W j (by unfold Cx.W; omega) C.hW w (memo_rd (hS.get (i := 3) rfl) (hm2))) ?_);refine xg 1 [] rfl rfl (n_ (t_ ?_));first | refine g_casep 172 rfl (fun h17 => ?_) fun h17 => ?_ | refine g_caseb 172 rfl (fun h17 => ?_) fun h17 => ?_
    ·refine g_cond_t rfl (s_ (o_ (xg 4 [6] rfl (by omega) ?_)));refine g_ahead [8,5,6,0,0,0,0,2] rfl ?_;simp only [zc0,zc1];refine g_inner (ginn (.inr rfl) i k0 hi (by omega)) rfl rfl rfl rfl (fun M8 E8 hs8 => (ntso_ ?_));refine xg 4 [1,8,2] rfl (by omega) (g_ahead [3,3,3,3,3] rfl ?_);simp only [zc0,zc1];refine g_grp (grnd rfl k0 (by omega) (by omega)) rfl rfl rfl (fun M6 E6 hs6 => (n_ (t_ (g_ret (g_in_ret (g_then_ret (g_then_ret (g_in_ret (g_in_ret ?_)))))))));refine g_end0 Tryz.results51 ?_;rw [gs_repS (k0 := k0) ha (by omega) hj (by omega) (by omega) (by rw [← hq1]; assumption) (by assumption) (fun b h1 h2 => hno b (by omega) h2)];exact fun w hS => ⟨⟨(M6, E6), fun p0 hp0 => hs6 _ (hs8 _ (hs2 _ (hs1 _ (hs3 _ (hp0)))))⟩, rfl, hS.pick [0,0,0,0,0] rfl⟩
    refine g_cond_f rfl (g_skip (g_in_normal (t_ (o_ (xg 3 [] rfl (by omega) ?_)))));refine n_ ?_;exact g_again ⟨(k0, M2, E2), by dsimp only; omega, fun p0 hp0 => hs2 _ (hs1 _ (hs3 _ (hp0))), down_step hno (by rw [← hq1]; exact (by first | (simp only [show Sp C.x C.ns q1 k0 = false by assumption, Bool.false_and]) | (simp only [show Sp C.x C.ns (kv (round ⟨a, p, mi, ma, i⟩ k0)) j = false by assumption, Bool.and_false])))⟩ [2, 4, 5, 7, 8, 9, 16] (by dsimp only; omega) rfl (zpk [5,5,5,5,0,0,0,0,1] rfl)
   refine xg 6 [] rfl rfl (n_ (t_ (g_cond_f rfl (g_skip (g_in_normal (t_ (o_ ?_)))))));refine xg 3 [] rfl (by omega) (n_ ?_);exact g_again ⟨(k0, M1, E1), by dsimp only; omega, fun p0 hp0 => hs1 _ (hs3 _ (hp0)), down_step hno (by rw [← hq1]; exact (by first | (simp only [show Sp C.x C.ns q1 k0 = false by assumption, Bool.false_and]) | (simp only [show Sp C.x C.ns (kv (round ⟨a, p, mi, ma, i⟩ k0)) j = false by assumption, Bool.and_false])))⟩ [2, 4, 5, 7, 8, 9, 16] (by dsimp only; omega) rfl (zpk [5,5,5,5,0,0,0,0,1] rfl)
  refine g_cond_f rfl (g_exit (g_then_exit (g_then_exit (g_in_exit (g_in_normal (g_end_normal (g_end0 Tryz.results51 ?_)))))));rw [gs_repN ha (by omega) (fun b h1 h2 => hno b (by omega) h2)];exact fun w hS => ⟨⟨(M3, E3), fun p0 hp0 => hs3 _ (hp0)⟩, rfl, hS.pick [4,4,4,4,4] rfl⟩
 refine g_cond_f rfl (g_skip (g_in_normal (g_end_normal (g_end0 Tryz.results51 ?_))));rw [gs_other ha ⟨by assumption, by assumption, by assumption, by assumption⟩];exact fun w hS => ⟨⟨(M, E), fun p0 hp0 => hp0⟩, rfl, hS.pick [4,4,4,4,4] rfl⟩
end Go.Proofs.YtjdmdpjbijkjaaaGreat

namespace Go.Proofs.YtjdmdpjbijkjaaaGreat
open Go Go.RowKit
theorem VS_next {C : Cx} {t : MT} {a p i b : Nat} {mi ma : Int} (h : VS C t a ⟨a, p, mi, ma, i⟩) (hk : t.k = 2) (hp : p < t.kids.length) (hb : b ≤ C.x.n) : VS C t a ⟨a, p + 1, 0, 0, b⟩ :=
  ⟨rfl, hb, by show (0 : Int) ≤ 0; omega, by show (0 : Int) ≤ _; omega, by show (-1 : Int) ≤ 0; omega, by show (0 : Int) ≤ _; omega, hp, fun h => absurd hk h⟩
theorem VS_round {C : Cx} {t : MT} {a p i b : Nat} {mi ma : Int} (h : VS C t a ⟨a, p, mi, ma, i⟩) (hb : b ≤ C.x.n) : VS C t a (round ⟨a, p, mi, ma, i⟩ b) := by
  obtain ⟨_, hi, h1, h2, h3, h4, h5, h6⟩ := h;dsimp only at hi h1 h2 h3 h4 h5 h6;refine ⟨rfl, hb, by show (0 : Int) ≤ max (mi - 1) 0; omega, by show max (mi - 1) 0 ≤ _; omega, ?_, ?_, h5, h6⟩
  · show -1 ≤ (if 0 < ma then ma - 1 else ma); split <;> omega
  · show (if 0 < ma then ma - 1 else ma) ≤ _; split <;> omega
theorem grok (C : Cx) : ∀ (D : Nat) (t : MT) (a : Nat), wT t ≤ D → laidT C.ns t a → ∀ (m : Nat) (s : Sta) (j : Nat), VS C t a s → j ≤ C.x.n → (t.kids.length - s.p) + (C.x.n - s.i) ≤ m → GrOk C s j := by
  intro D;induction D with
  | zero => intro t a h; cases t; rw [wT_mk] at h; omega
  | succ D ihD =>
    intro t a hD hl m;have hal0 := fun s hs => allok C (D + 1) t a hD hl _ s hs (Nat.le_refl _);obtain ⟨k, cs, nmi, nma, nnu, v1, u1, v2, v3, u2, u3, q, ks, rfl, ha, hlt, hlk⟩ := Cx.node hl;rw [wT_mk] at hD
    have hkid : ∀ u c j, u ∈ q → laidT C.ns u c → j ≤ C.x.n → AllOk C (beg C.x C.ns c j) := fun u c j hu hc hj => by
      have := wT_mem hu;exact allok C D u c (by omega) hc _ _ (VS_beg hc hj) (Nat.le_refl _)
    have hgid : ∀ u c i j, u ∈ q → laidT C.ns u c → i ≤ C.x.n → j ≤ C.x.n → GrOk C (beg C.x C.ns c i) j := fun u c i j hu hc hi hj => by
      have := wT_mem hu;exact ihD u c (by omega) hc _ _ j (VS_beg hc hi) hj (Nat.le_refl _)
    induction m using Nat.strongRecOn with
    | _ m ihm =>
    rintro ⟨a', p, mi, ma, i⟩ j hvs hj hm M E bo sm F w hS0;obtain ⟨haa, hi, h1, h2, h3, h4, h5, h6⟩ := id hvs;dsimp only at haa hi h1 h2 h3 h4 h5 h6 hm;subst haa;have hx := C.hx;have hal := (List.getElem?_eq_some_iff.1 ha).1;have hnl := C.hl;obtain ⟨rfl, hgk⟩ := kid_sl2 hS0 (i := 2) rfl ha;have h5' : p ≤ q.length := h5
    have hpb : p < 4611686018427387904 := by
      by_cases h2k : k = 2
      · rw [if_neg (by omega)] at hlk;have := laidL_len hlk;have : ks.length ≤ 1000000 := C.hn _ (List.mem_of_getElem? ha);omega
      · have := h6 h2k; omega
    have hr : okS ⟨a', p, mi, ma, i⟩ := by unfold okS; dsimp only; omega
    refine gr_any C k cs nmi nma nnu v1 u1 v2 v3 u3 a' p i j mi ma q ks ha hgk hi hj hr ?_ ?_ ?_ ?_ ?_ ?_ ?_ ?_ ?_ ?_ M E bo sm F w hS0
    · intro hk;rw [if_neg (by omega)] at hlk;rw [laidL_len hlk]; exact h5'
    · intro k5 k4;rw [if_neg (by omega)] at hlk;exact hlk
    · intro hk;rw [if_pos hk] at hlk;exact kid_ok2 hi ha hlk fun u r c hq hc => hkid u c i (by rw [hq]; exact List.mem_cons_self ..) hc hi
    · exact fun t kk ht hc => hkid t kk i ht hc hi
    · intro hk hp b hb1 hb2;rw [if_neg (by omega)] at hlk;exact hal0 _ (VS_next hvs hk (by rw [laidL_len hlk] at hp; exact hp) hb2)
    · intro hk b hb1 hb2;exact hal0 _ (VS_round hvs hb2)
    · intro hk i' j' hi' hj';rw [if_pos hk] at hlk;exact in_ok ha hlk fun u r c hq hc => hgid u c i' j' (by rw [hq]; exact List.mem_cons_self ..) hc hi' hj'
    · exact fun t kk ht hc j' hj' => hgid t kk i j' ht hc hi hj'
    · intro hk hp b hb1 hb2;rw [if_neg (by omega)] at hlk;have hlen := laidL_len hlk;exact ihm ((q.length - (p + 1)) + (C.x.n - b)) (by have : q.length - p + (C.x.n - i) ≤ m := hm; omega) _ j (VS_next hvs hk (by rw [hlen] at hp; exact hp) hb2) hj (Nat.le_refl _)
    · intro hk b hb1 hb2;exact ihm ((q.length - p) + (C.x.n - b)) (by have : q.length - p + (C.x.n - i) ≤ m := hm; omega) _ j (VS_round hvs hb2) hj (Nat.le_refl _)
end Go.Proofs.YtjdmdpjbijkjaaaGreat

namespace Go.Proofs.YtjdmdpjbijkjaaaGreat
open Go Go.RowKit
def findF (x : Tx) (t : MT) : Nat → Nat → Option (Nat × Nat)
  | 0, _ => none
  | f + 1, i => match topK (fun j => mM x t i j) 0 (x.n + 1) with
    | some j => some (i, j)
    | none => findF x t f (i + 1)
def m0 : Spn := fun _ => (0, 0)
def mN : Spn := fun _ => (-1, -1)
def findR (x : Tx) (t : MT) (fr : Int) : Spn × Bool := if 0 ≤ fr ∧ fr ≤ x.n ∧ x.n ≤ 1024 then (match findF x t (x.n + 1 - fr.toNat) fr.toNat with
    | some (i, j) => (gM x t i j (setS mN 0 (i, j)), true)
    | none => (m0, false)) else (m0, false)
def lastV (x : Tx) (t : MT) (i : Nat) : Int := match topK (fun j => mM x t i j) 0 (x.n + 1) with
  | some j => (j : Int)
  | none => -1
theorem topK_no {p : Nat → Bool} {lo : Nat} : ∀ {c : Nat}, topK p lo c = none → ∀ j, lo ≤ j → j < c → p j = false
  | 0, _, _, _, h => by omega
  | c + 1, h, j, h1, h2 => by
    rw [topK] at h;split at h
    · cases h
    · rename_i hh
      by_cases e : j = c
      · subst e; simpa [h1] using hh
      · exact topK_no h j h1 (by omega)
theorem last_eq {x : Tx} {t : MT} {i W : Nat} {v : Int} {c : Nat → Bool} (hc : ∀ j, c j = mM x t i j) (hi : i ≤ x.n) (hW : x.n < 64 * W) (h : lastP c W v) : v = lastV x t i := by
  unfold lastV
  rcases h with ⟨rfl, h⟩ | ⟨k, rfl, h1, h2, h3⟩
  · rw [topK_none fun j _ hj => by rw [← hc]; exact h j (by omega)]
  · have hk := mM_in t hi (by rw [← hc]; exact h2);rw [topK_some (k := k) (Nat.zero_le _) (by omega) (by rw [← hc]; exact h2) fun j a b => by rw [← hc]; exact h3 j a (by omega)]
def fillS (k : Nat) : Spn := fun j => if j < k then (-1, -1) else (0, 0)
theorem fill_next {k : Nat} : setS (fillS k) k (-1, -1) = fillS (k + 1) := by
  funext j
  unfold setS fillS
  by_cases h1 : j = k
  · subst h1; rw [if_pos rfl, if_pos (by omega)]
  · rw [if_neg h1];by_cases h2 : j < k
    · rw [if_pos h2, if_pos (by omega)]
    · rw [if_neg h2, if_neg (by omega)]
theorem fill_ten {a b : Int} : spC (setS (fillS 10) 0 (a, b)) = spC (setS mN 0 (a, b)) := rfl
theorem find_none {x : Tx} {t : MT} {fr : Int} {c : Nat} (hc : c = x.n + 1) (h : findF x t (x.n + 1 - fr.toNat) fr.toNat = findF x t (x.n + 1 - c) c) : findR x t fr = (m0, false) := by
  unfold findR
  rw [h, hc, Nat.sub_self];split <;> rfl
theorem find_out {x : Tx} {t : MT} {fr : Int} (h : ¬ (0 ≤ fr ∧ fr ≤ x.n ∧ x.n ≤ 1024)) : findR x t fr = (m0, false) := if_neg h
theorem find_some {x : Tx} {t : MT} {fr : Int} {c j : Nat} (h0 : 0 ≤ fr ∧ fr ≤ x.n ∧ x.n ≤ 1024) (hc : c ≤ x.n) (h : findF x t (x.n + 1 - fr.toNat) fr.toNat = findF x t (x.n + 1 - c) c) (hj : topK (fun j => mM x t c j) 0 (x.n + 1) = some j) : findR x t fr = (gM x t c j (setS mN 0 (c, j)), true) := by
  unfold findR
  obtain ⟨f, hf⟩ : ∃ f, x.n + 1 - c = f + 1 := ⟨x.n - c, by omega⟩;rw [if_pos h0, h, hf, findF, hj]
theorem find_next {x : Tx} {t : MT} {c : Nat} (hc : c ≤ x.n) (hj : topK (fun j => mM x t c j) 0 (x.n + 1) = none) : findF x t (x.n + 1 - c) c = findF x t (x.n + 1 - (c + 1)) (c + 1) := by
  obtain ⟨f, hf⟩ : ∃ f, x.n + 1 - c = f + 1 := ⟨x.n - c, by omega⟩;rw [hf, findF, hj];dsimp only;rw [show x.n + 1 - (c + 1) = f by omega]
set_option maxRecDepth 100000 in
theorem find_any (tx : Tx) (k : Int) (s : Nat → Int) (nmi nma nnu : Int) (pq : Option Addr) (cq : Nat) (q : List MT) (fr : Int) (hx : tx.n ≤ 1000000) (hle : wT (MT.mk k s nmi nma nnu (Value.slice pq q.length cq) q) ≤ 1000000) (w : World) (hok : MT.rd w (MT.mk k s nmi nma nnu (Value.slice pq q.length cq) q)) :
    Calls Tryz.prog 26 #[.agg (nC (MT.mk k s nmi nma nnu (Value.slice pq q.length cq) q)).toArray, st8 tx.l, .int .i64 fr, .bool tx.bg] w fun e w' => e = .returned (.tuple #[.agg (spC (findR tx (MT.mk k s nmi nma nnu (Value.slice pq q.length cq) q) fr).1).toArray, .bool (findR tx (MT.mk k s nmi nma nnu (Value.slice pq q.length cq) q) fr).2]) ∧ Below w.heap.size w w' := by
 refine fn_intro Tryz.func26 rfl Tryz.ntmps26 rfl rfl (s_ (o_ ?_));refine g_box rfl rfl rfl rfl (fun b1 => (g_alloc rfl rfl Tryz.zeroValue59 rfl (fun br => ?_)));refine g_nrm (L' := .cells br 59 (spC m0) :: _) rfl (xg 1 [] rfl rfl ?_);refine n_ (t_ (s_ (s_ (o_ (xg 3 [0] rfl rfl ?_)))));refine g_casep 19 rfl (fun h1 => ?_) fun h1 => ?_
 ·refine xg 10 [] rfl rfl (n_ (t_ (g_cond_t rfl (s_ (o_ ?_)))));refine xg 3 [0] rfl (by omega) (n_ (t_ (g_ret (g_then_ret ?_))));refine g_end_cell2 0 Tryz.results26 rfl rfl rfl Tryz.isAgg59 Tryz.sizeOf59 rfl ?_;rw [find_out (by omega)];exact fun w hS => ⟨rfl, hS.below⟩
 refine xg 2 [] rfl rfl (g_val (v := .int .i64 (tx.n : Int)) rfl rfl rfl (y_val (y_slen rfl Tryz.underlying9) (by rw [size_mk]; rfl)) ?_);refine xg 3 [0] rfl rfl (g_casep 25 rfl (fun h2 => ?_) fun h2 => ?_)
 ·refine xg 4 [] rfl rfl (n_ (t_ (g_cond_t rfl (s_ (o_ ?_)))));refine xg 3 [0] rfl (by omega) (n_ (t_ (g_ret (g_then_ret ?_))));refine g_end_cell2 0 Tryz.results26 rfl rfl rfl Tryz.isAgg59 Tryz.sizeOf59 rfl ?_;rw [find_out (by omega)];exact fun w hS => ⟨rfl, hS.below⟩
 refine xg 1 [] rfl rfl (g_val (v := .int .i64 (tx.n : Int)) rfl rfl rfl (y_val (y_slen rfl Tryz.underlying9) (by rw [size_mk]; rfl)) ?_);refine xg 2 [0] rfl rfl (n_ (t_ ?_));refine g_casep 29 rfl (fun h3 => ?_) fun h3 => ?_
 ·refine g_cond_t rfl (s_ (o_ (xg 3 [0] rfl (by omega) ?_)));refine n_ (t_ (g_ret (g_then_ret (g_end_cell2 0 Tryz.results26 rfl rfl rfl Tryz.isAgg59 Tryz.sizeOf59 rfl ?_))));rw [find_out (by omega)];exact fun w hS => ⟨rfl, hS.below⟩
 refine g_cond_f rfl (g_skip (t_ (s_ ?_)));obtain ⟨f0, rfl⟩ := Int.eq_ofNat_of_zero_le (show 0 ≤ fr by omega);refine o_ (xg 3 [1] rfl (by omega) ?_);refine g_callOwn (L0 := []) (fun y : {C : Cx // C.x = tx ∧ laidT C.ns (MT.mk k s nmi nma nnu (Value.slice pq q.length cq) q) 0} => .tuple #[.pointer (some ⟨y.1.b, 0, none⟩), .int .i64 0]) (fun y => [y.1.mt, y.1.nd, .kids y.1.ns, y.1.mo (fun _ => none) []]) rfl rfl rfl Tryz.call47 (fun w' hS => laid_any tx k s nmi nma nnu pq cq q hx hle w' (hS.okOf hok (fun _ _ => List.not_mem_nil))) ?_;rintro ⟨C, rfl, hl⟩;dsimp only;simp only [zc0,zc1];obtain ⟨kv0, ks, hb, hlt, hlk⟩ := laidT_mk.1 hl;obtain ⟨u1, u2, u3, hkv⟩ := C.hk _ (List.mem_of_getElem? hb);obtain rfl : kv0 = .slice u1 u2 u3 := hkv;refine xg 5 [] rfl rfl (n_ (t_ (s_ (s_ (o_ ?_)))));refine xg 2 [] rfl rfl (n_ (t_ (g_block ?_)));refine g_loop (α := {x : Nat × (Value → Option Nat) × List (Value × Nat) // x.1 ≤ C.x.n + 1 ∧ findF C.x (MT.mk k s nmi nma nnu (Value.slice pq q.length cq) q) (C.x.n + 1 - f0) f0 = findF C.x (MT.mk k s nmi nma nnu (Value.slice pq q.length cq) q) (C.x.n + 1 - x.1) x.1}) (fun x => [(1, st8 C.x.l), (8, .pointer (some ⟨br, 0, none⟩)), (10, .pointer (some ⟨C.b, 0, none⟩)), (11, .int .i64 0), (12, .int .i64 (x.1.1 : Int))]) (fun x => St w [] [.cells br 59 (spC m0), C.mt, C.nd, .kids C.ns, C.mo x.1.2.1 x.1.2.2]) (fun x => C.x.n + 1 - x.1.1) ⟨(f0, (fun _ => none), []), by dsimp only; omega, rfl⟩ [1, 8, 10, 11, 12] rfl (zpk [4,0,0,0,0] rfl) ?_;rintro ⟨⟨i, M3, E3⟩, hc, hff⟩;dsimp only;dsimp only at hc hff;refine s_ (s_ (o_ (xg 2 [] rfl rfl ?_)));refine g_val (v := .int .i64 (C.x.n : Int)) rfl rfl rfl (y_val (y_slen rfl Tryz.underlying9) (by rw [size_mk]; rfl)) (xg 1 [0] rfl rfl ?_);refine n_ (t_ (g_casep 42 rfl (fun h4 => ?_) fun h4 => ?_))
 ·refine g_cond_t rfl (g_skip (t_ (s_ (g_block (s_ ?_)))));have hi : i ≤ C.x.n := by omega
  refine o_ (xg 3 [] rfl rfl ?_);refine g_c1 (m_begin C.b C.mp 0 i _ C.x C.ns k s nmi nma nnu pq u1 q.length cq u2 u3 q ks hb C.hx) (fun w hS => Cx.mi hS (i := 1) (j := 2) rfl rfl) rfl rfl rfl (g_alloc rfl rfl Tryz.zeroValue101 rfl (fun b2 => ?_));refine xg 1 [0] rfl (by omega) (ntso_ ?_);refine xg 2 [0] rfl (by omega) (g_ahead [2,2,2,2] rfl ?_);simp only [zc0,zc1];refine g_all (allok C _ _ 0 (Nat.le_refl _) hl _ _ (VS_beg hl (i := i) (by omega)) (Nat.le_refl _)) rfl rfl rfl (fun M1 E1 g1 hs1 hm1 => (g_call1 (v := .int .i64 (lastV C.x (MT.mk k s nmi nma nnu (Value.slice pq q.length cq) q) i)) rfl rfl rfl Tryz.call50 (fun w hS => (last_any _ g1 C.W C.hW w (memo_rd (hS.get (i := 3) rfl) hm1)).mono fun e w1 ⟨y, h8, h9⟩ => ⟨by rw [h8, ← last_eq (fun j => by rw [Sp_kv, spec_beg hl]) hi (by unfold Cx.W; omega) y.2], h9⟩) ?_));refine xg 1 [] rfl rfl (n_ (t_ (s_ (s_ ?_))));cases hlv : topK (fun j => mM C.x (MT.mk k s nmi nma nnu (Value.slice pq q.length cq) q) i j) 0 (C.x.n + 1)
  ·refine g_eqv 14 (.int .i64 (-1)) rfl (by unfold lastV; rw [hlv]) (o_ ?_);refine xg 2 [1] rfl (by omega) (n_ (t_ (g_cond_t rfl (g_exit (g_then_exit (g_in_exit (t_ (o_ ?_))))))));refine xg 3 [] rfl (by omega) (n_ ?_);exact g_again ⟨(i + 1, M1, E1), by dsimp only; omega, by dsimp only; rw [hff]; exact find_next hi hlv⟩ [1, 8, 10, 11, 12] (by dsimp only; omega) rfl (zpk [5,0,0,0,0] rfl)
  rename_i j
  have hjn := (topK_is hlv).2.1;refine g_eqv 14 (.int .i64 (j : Int)) rfl (by unfold lastV; rw [hlv]) (o_ ?_);refine xg 2 [2] rfl (by omega) (n_ (t_ (g_cond_f rfl (g_skip (t_ (s_ (o_ ?_)))))));refine g_alloc rfl rfl Tryz.zeroValue59 rfl (fun bo => (g_nrm (L' := .cells bo 59 (spC (fillS 0)) :: _) rfl ?_));refine n_ (t_ (s_ (s_ (o_ (xg 1 [] rfl rfl ?_)))));refine n_ (t_ (g_block (g_loop (α := {x : Nat // x ≤ 10}) (fun x => [(1, st8 C.x.l), (8, .pointer (some ⟨br, 0, none⟩)), (10, .pointer (some ⟨C.b, 0, none⟩)), (11, .int .i64 0), (12, .int .i64 (i : Int)), (13, .pointer (some ⟨b2, 0, none⟩)), (14, .int .i64 (j : Int)), (15, .pointer (some ⟨bo, 0, none⟩)), (55, .int .i64 (x.1 : Int))]) (fun x => St w [] [.cells bo 59 (spC (fillS x.1)), .cells b2 101 (kvC (beg C.x C.ns 0 i)), .cells br 59 (spC m0), C.mt, C.nd, .kids C.ns, C.mo M1 E1]) (fun x => 10 - x.1) ⟨0, by decide⟩ [1, 8, 10, 11, 12, 13, 14, 15, 55] rfl (zpk [0,4,4,0,0,0,0] rfl) ?_)));rintro ⟨n, hn⟩;dsimp only;refine s_ (o_ (xg 1 [0] rfl rfl ?_));refine n_ (t_ (s_ (g_casep 56 rfl (fun h5 => ?_) fun h5 => ?_)))
  ·refine g_cond_t rfl (g_skip (t_ (s_ (g_block (s_ (o_ (xg 2 [] rfl rfl ?_)))))));refine nto_ (xg 2 [] rfl rfl ?_);refine g_val rfl rfl rfl (y_idxArr (m := n * 2) rfl rfl Tryz.underlying59 Tryz.sizeOf57 (by omega) (by omega) (by omega)) (g_stSp (k := n) 0 (by omega) rfl rfl rfl Tryz.sizeOf57 rfl ?_);simp only [zs0,zs1];rw [fill_next];refine n_ (g_in_normal (t_ (o_ (xg 2 [] rfl (by omega) ?_))));refine n_ ?_;exact g_again ⟨n + 1, by omega⟩ [1, 8, 10, 11, 12, 13, 14, 15, 55] (by dsimp only; omega) rfl (zpk [0,0,0,0,0,0,0] rfl)
  refine g_cond_f rfl (g_exit (g_then_exit (g_then_exit (g_in_exit (t_ (s_ ?_))))));obtain rfl : n = 10 := by omega
  refine o_ (xg 3 [] rfl rfl ?_);refine g_val rfl rfl rfl (y_idxArr (m := 0 * 2) rfl rfl Tryz.underlying59 Tryz.sizeOf57 (by decide) (by decide) rfl) (g_stSp (k := 0) 0 (by omega) rfl rfl rfl Tryz.sizeOf57 rfl ?_);simp only [zs0,zs1];rw [fill_ten];refine ntso_ (xg 3 [1] rfl (by omega) ?_);refine g_ahead [3,3,3,3,0] rfl ?_;simp only [zc0,zc1];refine g_grp (grok C _ _ 0 (Nat.le_refl _) hl _ _ j (VS_beg hl hi) (by omega) (Nat.le_refl _)) rfl rfl rfl (fun M5 E5 hs5 => (ntso_ ?_));refine xg 1 [4] rfl (by omega) (g_stN 6 rfl rfl rfl (by kernel_rfl) rfl rfl rfl rfl ?_);simp only [zs0,zs1];refine xg 1 [] rfl rfl (n_ (t_ (g_ret (g_in_ret (g_then_ret (g_then_ret (g_in_ret (g_then_ret ?_))))))));refine g_end_cell2 6 Tryz.results26 rfl rfl rfl Tryz.isAgg59 Tryz.sizeOf59 rfl ?_;rw [find_some (fr := (f0 : Int)) (c := i) (j := j) ⟨by omega, by omega, by omega⟩ hi hff hlv];rw [← gS_beg hl];exact fun w hS => ⟨rfl, hS.below⟩
 refine g_cond_f rfl (g_exit (g_then_exit (g_then_exit (g_in_exit (t_ (s_ (o_ (xg 3 [0] rfl (by omega) ?_))))))));refine n_ (t_ (g_ret (g_end_cell2 0 Tryz.results26 rfl rfl rfl Tryz.isAgg59 Tryz.sizeOf59 rfl ?_)));rw [find_none (fr := (f0 : Int)) (c := i) (by omega) hff];exact fun w hS => ⟨rfl, hS.below⟩
end Go.Proofs.YtjdmdpjbijkjaaaGreat

namespace Go.Proofs.YtjdmdpjbijkjaaaGreat
open Go Go.RowKit
mutual
theorem gM_er (x : Tx) : ∀ (t : MT) (i j : Nat) (m : Spn), gM x (er t) i j m = gM x t i j m
  | .mk k s mi ma nu v q, i, j, m => by
    rw [er_mk, gM_mk, gM_mk, gRow_er x q, gAny_er x q, gKid_er x q];have e1 : (fun a b => mKid x (erL q) a b) = fun a b => mKid x q a b := by funext a b; exact mKid_er x q a b
    have e2 : (fun a b m => gKid x (erL q) a b m) = fun a b m => gKid x q a b m := by funext a b m; exact gKid_er x q a b m
    rw [e1, e2]
theorem gRow_er (x : Tx) : ∀ (q : List MT) (i j : Nat) (m : Spn), gRow x (erL q) i j m = gRow x q i j m
  | [], i, j, m => by rw [erL_nil]
  | t :: q, i, j, m => by
    rw [erL_cons, gRow_cons, gRow_cons];have e : (fun k => mM x (er t) i k && mRow x (erL q) k j) = fun k => mM x t i k && mRow x q k j := by funext k; rw [mM_er x t, mRow_er x q]
    rw [e];split
    · rw [gM_er x t, gRow_er x q]
    · rfl
theorem gAny_er (x : Tx) : ∀ (q : List MT) (i j : Nat) (m : Spn), gAny x (erL q) i j m = gAny x q i j m
  | [], i, j, m => by rw [erL_nil]
  | t :: q, i, j, m => by rw [erL_cons, gAny_cons, gAny_cons, mM_er x t, gM_er x t, gAny_er x q]
theorem gKid_er (x : Tx) : ∀ (q : List MT) (i j : Nat) (m : Spn), gKid x (erL q) i j m = gKid x q i j m
  | [], i, j, m => by rw [erL_nil]
  | t :: q, i, j, m => by rw [erL_cons, gKid_cons, gKid_cons, gM_er x t]
end
theorem findF_er (x : Tx) (t : MT) : ∀ (f i : Nat), findF x (er t) f i = findF x t f i
  | 0, _ => rfl
  | f + 1, i => by
    rw [findF, findF, findF_er x t f];have e : (fun j => mM x (er t) i j) = fun j => mM x t i j := by funext j; exact mM_er x t i j
    rw [e]
theorem findR_er (x : Tx) (t : MT) (fr : Int) : findR x (er t) fr = findR x t fr := by
  unfold findR
  rw [findF_er];split
  · split
    · rw [gM_er]
    · rfl
  · rfl
theorem rd_v {w : World} {t : MT} (h : t.rd w) : ∃ k s mi ma nu p c q, t = .mk k s mi ma nu (.slice p q.length c) q := by
  cases t with | mk k s mi ma nu v q =>
  obtain ⟨⟨p, c, rfl, _⟩, _⟩ := rd_mk.1 h;exact ⟨k, s, mi, ma, nu, p, c, q, rfl⟩
theorem find_t (tx : Tx) (t : MT) (fr : Int) (hx : tx.n ≤ 1000000) (hle : wT t ≤ 1000000) (w : World) (hok : t.rd w) : Calls Tryz.prog 26 #[.agg (nC t).toArray, st8 tx.l, .int .i64 fr, .bool tx.bg] w fun e w' => e = .returned (.tuple #[.agg (spC (findR tx t fr).1).toArray, .bool (findR tx t fr).2]) ∧ Below w.heap.size w w' := by
  obtain ⟨k, s, mi, ma, nu, p, c, q, rfl⟩ := rd_v hok;exact find_any tx k s mi ma nu p c q fr hx hle w hok
theorem m_find (tx : Tx) (t : MT) (fr : Int) (hx : tx.n ≤ 1000000) (hle : wT t ≤ 1000000) : Meets Tryz.prog (fun w => t.rd w) 26 [.agg (nC t).toArray, st8 tx.l, .int .i64 fr, .bool tx.bg] (fun _ : Unit => .tuple #[.agg (spC (findR tx t fr).1).toArray, .bool (findR tx t fr).2]) [] (fun _ => []) := meets1 Tryz.call26 (fun w hI => find_t tx t fr hx hle w hI)
theorem forest_rd {W0 w : World} {F : List Nat} {L : List Ent} {t : MT} {ts : List MT} {i : Nat} (hS : St W0 F L w) (hi : L[i]? = some (.forest (t :: ts))) : t.rd w := (MT.ok_rd t (okL_cons.1 (hS.get hi)).1).1
end Go.Proofs.YtjdmdpjbijkjaaaGreat

namespace Go.Proofs.YtjdmdpjbijkjaaaGreat
open Go Go.RowKit
def spanL (l : List UInt8) (a b : Int) : List UInt8 := if a < 0 ∨ a > b ∨ b > l.length then [] else (l.take b.toNat).drop a.toNat
theorem ext8 (l : List UInt8) {a b : Int} (h0 : 0 ≤ a) (h1 : a ≤ b) (h2 : b ≤ l.length) : (⟨l.toArray⟩ : ByteArray).extract a.toNat b.toNat = ⟨((l.take b.toNat).drop a.toNat).toArray⟩ := by
  apply ByteArray.ext
  rw [ByteArray.data_extract];apply Array.ext'
  rw [Array.toList_extract];show (l.drop a.toNat).take (b.toNat - a.toNat) = (l.take b.toNat).drop a.toNat
  rw [List.drop_take]
set_option maxRecDepth 100000 in
theorem span_any (l : List UInt8) (a b : Int) (w : World) :
    Calls Tryz.prog 28 #[st8 l, .agg #[.int .i64 a, .int .i64 b]] w fun e w' => e = .returned (st8 (spanL l a b)) ∧ Below w.heap.size w w' := by
 refine fn_intro Tryz.func28 rfl Tryz.ntmps28 rfl rfl (s_ (o_ ?_));refine g_box rfl rfl rfl rfl (fun b1 => (xg 1 [] rfl rfl ?_));refine n_ (t_ (s_ (s_ (o_ (xg 4 [0,0] rfl (by omega) ?_)))));refine g_casep 8 rfl (fun h1 => ?_) fun h1 => ?_
 ·refine xg 13 [] rfl rfl (n_ (t_ (g_cond_t rfl (s_ (o_ ?_)))));refine xg 1 [] rfl rfl (n_ (t_ (g_ret (g_then_ret ?_))));refine g_end1 Tryz.results28 rfl ?_;first | rw [show spanL l a b = [] from if_pos (by omega)] | rw [show spanL l a b = (l.take b.toNat).drop a.toNat from if_neg (by omega)]
  exact fun w hS => ⟨rfl, hS.below⟩
 refine xg 7 [0,0,0] rfl (by omega) (g_casep 15 rfl (fun h2 => ?_) fun h2 => ?_)
 ·refine xg 6 [] rfl rfl (n_ (t_ (g_cond_t rfl (s_ (o_ ?_)))));refine xg 1 [] rfl rfl (n_ (t_ (g_ret (g_then_ret ?_))));refine g_end1 Tryz.results28 rfl ?_;first | rw [show spanL l a b = [] from if_pos (by omega)] | rw [show spanL l a b = (l.take b.toNat).drop a.toNat from if_neg (by omega)]
  exact fun w hS => ⟨rfl, hS.below⟩
 refine xg 3 [0] rfl (by omega) (g_val (v := .int .i64 (l.length : Int)) rfl rfl rfl (y_val (y_slen rfl Tryz.underlying9) (by rw [size_mk])) ?_);refine xg 2 [0] rfl rfl (n_ (t_ ?_));refine g_casep 21 rfl (fun h3 => ?_) fun h3 => ?_
 ·refine g_cond_t rfl (s_ (o_ (xg 1 [] rfl rfl ?_)));refine n_ (t_ (g_ret (g_then_ret (g_end1 Tryz.results28 rfl ?_))));first | rw [show spanL l a b = [] from if_pos (by omega)] | rw [show spanL l a b = (l.take b.toNat).drop a.toNat from if_neg (by omega)]
  exact fun w hS => ⟨rfl, hS.below⟩
 refine g_cond_f rfl (g_skip (t_ (s_ (o_ (xg 5 [0,0] rfl (by omega) ?_)))));refine g_val (v := st8 ((l.take b.toNat).drop a.toNat)) rfl rfl rfl (y_val (y_ssl rfl rfl rfl Tryz.underlying9 (by omega) (by omega) (by rw [size_mk]; omega)) (by rw [ext8 l (by omega) (by omega) (by omega)]; rfl)) (xg 1 [] rfl rfl ?_);refine n_ (t_ (g_ret (g_end1 Tryz.results28 rfl ?_)));first | rw [show spanL l a b = [] from if_pos (by omega)] | rw [show spanL l a b = (l.take b.toNat).drop a.toNat from if_neg (by omega)]
 exact fun w hS => ⟨rfl, hS.below⟩
theorem m_span (l : List UInt8) (a b : Int) : Meets Tryz.prog (fun _ => True) 28 [st8 l, .agg #[.int .i64 a, .int .i64 b]] (fun _ : Unit => st8 (spanL l a b)) [] (fun _ => []) := meets1 Tryz.call28 (fun w hI => span_any l a b w)
end Go.Proofs.YtjdmdpjbijkjaaaGreat

namespace Go.Proofs.YtjdmdpjbijkjaaaGreat
open Go Go.RowKit
def pcC (t : ByteArray) (n : Int) : List Value := [.string t, .int .i64 n]
theorem pc_get (t : ByteArray) (n : Int) (j : Nat) (h : j < 2) : (pcC t n)[j]? = some (((pcC t n)[j]?).getD default) := by
  match j, h with
  | 0, _ => rfl
  | 1, _ => rfl
abbrev pcF (tx : Nat → ByteArray) (nn : Nat → Int) : Nat → Nat → Value := fun i j => ((pcC (tx i) (nn i))[j]?).getD default
end Go.Proofs.YtjdmdpjbijkjaaaGreat

namespace Go.Proofs.YtjdmdpjbijkjaaaGreat
open Go Go.RowKit
def bOk (b : Nat) (p : Value) : Prop := p = .pointer none ∨ p = .pointer (some ⟨b, 0, none⟩)
theorem bOk_own (b : Nat) : bOk b (.pointer (some ⟨b, 0, none⟩)) := .inr rfl
theorem m_copy (b : Nat) (p v : Value) (hp : bOk b p) : Meets Tryz.prog (fun _ => True) 27 [.pointer (some ⟨b, 0, none⟩)] (fun _ : Unit => .tuple #[]) [.cells b 52 [p, v]] (fun _ => [.cells b 52 [.pointer (some ⟨b, 0, none⟩), v]]) := ⟨Tryz.call27, fun w F _ hS => by
  have hb := hS.cells (i := 0) rfl;rcases hp with rfl | rfl
  · refine (Go.Proofs.Any.Builder_copyCheck_fresh { lays166 with } extra166.toX72 b w (by rw [Lib.cell_of_heap hb]; rfl) (by simp [World.shape?, hb]; rfl) (Lib.frozen_of_heap hb 0)).mono ?_
    rintro e w' ⟨rfl, rfl⟩;exact ⟨(), rfl, hS.setCell (i := 0) (off := 0) rfl _⟩
  · refine (Go.Proofs.Any.Builder_copyCheck_used { lays166 with } extra166.toX72 b w (by rw [Lib.cell_of_heap hb]; rfl)).mono ?_
    rintro e w' ⟨rfl, rfl⟩;exact ⟨(), rfl, hS⟩⟩
set_option maxRecDepth 100000 in
theorem m_ws (b : Nat) (p v : Value) (l s : List UInt8) (hp : bOk b p) (hl : l.length + s.length ≤ 140737488355328) : Meets Tryz.prog (fun _ => True) 14 [.pointer (some ⟨b, 0, none⟩), st8 s] (fun _ : Value => .tuple #[.int .i64 ((⟨s.toArray⟩ : ByteArray).size : Int), .nilIface])
    [.cells b 52 [p, v], .bytes 5 v l] (fun v' => [.cells b 52 [.pointer (some ⟨b, 0, none⟩), v'], .bytes 5 v' (l ++ s)]) := ⟨Tryz.call14, fun w F _ hS => by
  obtain ⟨i0, hi0, hz0, hz1, hz2⟩ := info_parts extra166.infoByte;refine fn_intro_own Tryz.func14 rfl Tryz.ntmps14 rfl rfl hS (s_ (o_ ?_));refine xg 2 [] rfl rfl (ntso_ ?_);refine xg 1 [] rfl rfl (g_cm [0] (m_copy b p v hp) any_I rfl rfl rfl rfl (fun _ => ?_));simp only [zc0,zc1];refine ntso_ (xg 6 [0] rfl (by omega) ?_);refine g_appStr (l := l) (s := s) 1 rfl rfl rfl rfl Tryz.underlying50 Tryz.underlying9 hi0 hz0 hz1 hz2 rfl hl (fun v1 => ?_);simp only [zs0,zs1];refine g_rowLen 1 rfl (fun p1 c1 hv1 => ?_);subst hv1;refine xg 3 [0] rfl (by omega) (ntso_ ?_);refine xg 4 [] rfl rfl (n_ (t_ (g_ret ?_)));refine g_end2 Tryz.results14 rfl rfl ?_;exact fun w hS => ⟨_, rfl, hS⟩⟩
end Go.Proofs.YtjdmdpjbijkjaaaGreat

namespace Go.Proofs.YtjdmdpjbijkjaaaGreat
open Go Go.RowKit
theorem spC_at (m : Spn) : ∀ k, k < 10 → ((spC m).drop (k * 2)).take 2 = [.int .i64 (m k).1, .int .i64 (m k).2]
  | 0, _ => rfl
  | 1, _ => rfl
  | 2, _ => rfl
  | 3, _ => rfl
  | 4, _ => rfl
  | 5, _ => rfl
  | 6, _ => rfl
  | 7, _ => rfl
  | 8, _ => rfl
  | 9, _ => rfl
  | k + 10, h => by omega
theorem str_b {W0 w : World} {L : List Ent} {b : Nat} {p v : Value} {l : List UInt8} (i j : Nat) (hij : i ≠ j) (hS : St W0 [] L w) (hi : L[i]? = some (.cells b 52 [p, v])) (hj : L[j]? = some (.bytes 5 v l)) (hp : bOk b p) :
    Calls Tryz.prog 17 #[.pointer (some ⟨b, 0, none⟩)] w fun e w' => e = .returned (st8 l) ∧ Below W0.heap.size W0 w' ∧ Lib.OthersKept 5 (some b) w w' := by
  have hb := hS.cells hi;have hr : w.ownsRow 0 5 1 v l.length (bcells l) := hS.get hj
  have hB : W0.heap.size ≤ b := by
    rcases hS.own _ (List.mem_of_getElem? hi) b (by simp [Ent.fp]) with h | h
    · exact h
    · cases h
  have hrB : w.ownsRow W0.heap.size 5 1 v l.length (bcells l) := ⟨hr.1, hr.2.imp id fun ⟨g, cap, cur, a, _, c⟩ => ⟨g, cap, cur, a, (hS.own _ (List.mem_of_getElem? hj) g (by subst a; simp [Ent.fp, Value.ownBlock])).elim id (fun h => by cases h), c⟩⟩
  have hne : v.ownBlock ≠ some b := fun e => by
    have hil : i < L.length := (List.getElem?_eq_some_iff.1 hi).1;have hjl : j < L.length := (List.getElem?_eq_some_iff.1 hj).1;have e1 := (List.getElem?_eq_some_iff.1 hi).2;have e2 := (List.getElem?_eq_some_iff.1 hj).2;rcases Nat.lt_or_ge i j with h | h
    · exact (List.pairwise_iff_getElem.1 hS.apart i j hil hjl h) b (by rw [e1]; simp [Ent.fp]) (by rw [e2]; simp [Ent.fp, e])
    · exact (List.pairwise_iff_getElem.1 hS.apart j i hjl hil (by omega)) b (by rw [e2]; simp [Ent.fp, e]) (by rw [e1]; simp [Ent.fp])
  have hat : Lib.BuilderAtF 52 5 W0.heap.size b p (Lib.byteCells l) w := ⟨hB, v, hb, by
    have : (Lib.byteCells l).length = l.length := by simp [Lib.byteCells]
    rw [this]; exact World.ownsRowF_of hrB, hne⟩
  have hI : Lib.IsBuilderF 52 5 W0.heap.size b (Lib.byteCells l) w := by
    rcases hp with rfl | rfl
    · exact .inl hat
    · exact .inr hat
  refine (Tryz.Builder_String_any_k W0.heap.size b l w hI hS.size).mono ?_;rintro e w' ⟨he, _, h1, h2⟩;exact ⟨he, hS.below.trans (h1.mono (Nat.le_refl _)), h2⟩
def pcT (l : List UInt8) (m : Spn) (tx : Nat → ByteArray) (nn : Nat → Int) (i : Nat) : List UInt8 :=
  if nn i < 0 then (tx i).data.toList else if nn i < 10 then spanL l (m (nn i).toNat).1 (m (nn i).toNat).2 else []
def fillU (l : List UInt8) (m : Spn) (tx : Nat → ByteArray) (nn : Nat → Int) : Nat → List UInt8
  | 0 => []
  | k + 1 => fillU l m tx nn k ++ pcT l m tx nn k
set_option maxRecDepth 100000 in
theorem fill_any (p : Option Addr) (n c : Nat) (tx : Nat → ByteArray) (nn : Nat → Int) (l : List UInt8) (m : Spn) (hn : n ≤ 1000000) (hl : ∀ k, k ≤ n → (fillU l m tx nn k).length ≤ 140737488355328) (w : World) (hr : RdSl w p n 2 (pcF tx nn)) :
    Calls Tryz.prog 15 #[.slice p n c, st8 l, .agg (spC m).toArray] w fun e w' => e = .returned (st8 (fillU l m tx nn n)) ∧ Below w.heap.size w w' := by
 refine fn_intro Tryz.func15 rfl Tryz.ntmps15 rfl rfl (s_ (o_ ?_));refine g_box rfl rfl rfl rfl (fun bm => (g_nrm (L' := .cells bm 59 (spC m) :: _) rfl ?_));refine xg 1 [] rfl rfl (ntso_ ?_);refine g_alloc rfl rfl Tryz.zeroValue52 rfl (fun bb => (g_nrm (L' := .cells bb 52 [.pointer none, .slice none 0 0] :: _) rfl ?_));refine g_nilBytes 5 (n_ (t_ (s_ (s_ (o_ ?_)))));refine xg 1 [] rfl rfl (g_val (v := .int .i64 (n : Int)) rfl rfl rfl (y_llen rfl Tryz.underlying35) ?_);refine xg 1 [] rfl rfl (n_ (t_ (g_block ?_)));refine g_loop (α := {x : Nat × Value × Value // x.1 ≤ n ∧ bOk bb x.2.1}) (fun x => [(1, st8 l), (5, .pointer (some ⟨bm, 0, none⟩)), (7, .pointer (some ⟨bb, 0, none⟩)), (10, .slice p n c), (11, .int .i64 (n : Int)), (12, .int .i64 (x.1.1 : Int))]) (fun x => St w [] [.bytes 5 x.1.2.2 (fillU l m tx nn x.1.1), .cells bb 52 [x.1.2.1, x.1.2.2], .cells bm 59 (spC m)]) (fun x => n - x.1.1) ⟨(0, .pointer none, .slice none 0 0), Nat.zero_le _, .inl rfl⟩ [1, 5, 7, 10, 11, 12] rfl (zpk [0,0,0] rfl) ?_;rintro ⟨⟨i, q, v⟩, hi, hq⟩;dsimp only;dsimp only at hi hq;refine s_ (o_ (xg 1 [0] rfl rfl ?_));refine n_ (t_ (s_ (g_casep 13 rfl (fun h1 => ?_) fun h1 => ?_)))
 ·refine g_cond_t rfl (g_skip (t_ (s_ (g_block (s_ (o_ (g_val rfl rfl rfl (y_rdAddr hr rfl rfl Tryz.underlying35 Tryz.sizeOf47 (by omega) (by omega)) ?_)))))));refine g_val (v := .agg (pcC (tx i) (nn i)).toArray) rfl rfl rfl (y_rdAgg (i := (i : Int)) (vs := (pcC (tx i) (nn i))) hr rfl Tryz.isAgg47 Tryz.sizeOf47 (by omega) (by omega) rfl (fun j hj => by rw [Int.toNat_natCast]; exact pc_get _ _ j hj)) (g_alloc rfl rfl Tryz.zeroValue47 rfl (fun b1 => ?_));refine xg 1 [0] rfl (by omega) (n_ (t_ (g_block (s_ (o_ ?_)))));refine xg 4 [0,0] rfl (by omega) (n_ (t_ ?_));refine g_casep 16 rfl (fun h2 => ?_) fun h2 => ?_
  ·refine g_cond_t rfl (o_ (xg 2 [0] rfl (by omega) ?_))
   have hpl : (fillU l m tx nn i).length + (tx i).data.toList.length ≤ 140737488355328 := by
     have h9 := hl (i + 1) (by omega);rw [fillU, List.length_append] at h9; unfold pcT at h9; rw [if_pos (by omega)] at h9; exact h9
   refine g_cm [2,1] (m_ws bb q v (fillU l m tx nn i) (tx i).data.toList hq (hpl)) any_I rfl rfl rfl rfl (fun v2 => ?_);simp only [zc0,zc1];refine n_ (g_in_normal (g_in_normal (t_ (o_ (xg 2 [] rfl (by omega) ?_)))));refine n_ ?_;rw [show (fillU l m tx nn i) ++ (tx i).data.toList = (fillU l m tx nn (i + 1)) by rw [fillU]; unfold pcT; rw [if_pos (by omega)]];exact g_again ⟨(i + 1, .pointer (some ⟨bb, 0, none⟩), v2), by omega, bOk_own bb⟩ [1, 5, 7, 10, 11, 12] (by dsimp only; omega) rfl (zpk [1,0,1] rfl)
  refine g_cond_f rfl (s_ (o_ (xg 4 [0,0] rfl (by omega) ?_)));refine n_ (t_ (g_casep 23 rfl (fun h3 => ?_) fun h3 => ?_))
  ·refine g_cond_t rfl (o_ (xg 3 [0] rfl (by omega) ?_));refine g_val rfl rfl rfl (y_idxArr (m := (nn i).toNat * 2) rfl rfl Tryz.underlying59 Tryz.sizeOf57 (by omega) (by omega) (by omega)) (g_val (v := .agg [.int .i64 (m (nn i).toNat).1, .int .i64 (m (nn i).toNat).2].toArray) rfl rfl rfl (y_ldN (vs := [.int .i64 (m (nn i).toNat).1, .int .i64 (m (nn i).toNat).2]) 3 rfl Tryz.isAgg57 Tryz.sizeOf57 rfl (spC_at m _ (by omega)) rfl) ?_);refine g_c1 (m_span l (m (nn i).toNat).1 (m (nn i).toNat).2) any_I rfl rfl rfl ?_
   have hpl : (fillU l m tx nn i).length + (spanL l (m (nn i).toNat).1 (m (nn i).toNat).2).length ≤ 140737488355328 := by
     have h9 := hl (i + 1) (by omega);rw [fillU, List.length_append] at h9; unfold pcT at h9; rw [if_neg (by omega), if_pos (by omega)] at h9; exact h9
   refine g_cm [2,1] (m_ws bb q v (fillU l m tx nn i) (spanL l (m (nn i).toNat).1 (m (nn i).toNat).2) hq (hpl)) any_I rfl rfl rfl rfl (fun v3 => ?_);simp only [zc0,zc1];refine n_ (g_in_normal (g_in_normal (t_ (o_ (xg 2 [] rfl (by omega) ?_)))));refine n_ ?_;rw [show (fillU l m tx nn i) ++ (spanL l (m (nn i).toNat).1 (m (nn i).toNat).2) = (fillU l m tx nn (i + 1)) by rw [fillU]; unfold pcT; rw [if_neg (by omega), if_pos (by omega)]];exact g_again ⟨(i + 1, .pointer (some ⟨bb, 0, none⟩), v3), by omega, bOk_own bb⟩ [1, 5, 7, 10, 11, 12] (by dsimp only; omega) rfl (zpk [1,0,1] rfl)
  refine g_cond_f rfl (g_skip (g_in_normal (g_in_normal (t_ (o_ (xg 2 [] rfl (by omega) ?_))))));refine n_ ?_;rw [show (fillU l m tx nn i) = (fillU l m tx nn (i + 1)) by rw [fillU]; unfold pcT; rw [if_neg (by omega), if_neg (by omega), List.append_nil]];exact g_again ⟨(i + 1, q, v), by omega, hq⟩ [1, 5, 7, 10, 11, 12] (by dsimp only; omega) rfl (zpk [1,1,1] rfl)
 refine g_cond_f rfl (g_exit (g_then_exit (g_then_exit (g_in_exit (t_ (s_ ?_))))));obtain rfl : n = i := by omega
 refine o_ (g_call (fun _ : Unit => st8 (fillU l m tx nn n)) (fun _ w2 => Below w.heap.size w w2) rfl rfl rfl Tryz.call17 (fun w1 hS => (str_b 1 0 (by decide) hS rfl rfl hq).mono fun e w2 ⟨he, hb, _⟩ => ⟨(), he, hb⟩) (fun _ => ?_));refine g_val rfl rfl rfl (y_assign rfl) (n_ (t_ (g_ret ?_)));refine g_end1 Tryz.results15 rfl ?_;exact fun w2 hS2 => ⟨rfl, hS2⟩
theorem m_fill (p : Option Addr) (n c : Nat) (tx : Nat → ByteArray) (nn : Nat → Int) (l : List UInt8) (m : Spn) (hn : n ≤ 1000000) (hl : ∀ k, k ≤ n → (fillU l m tx nn k).length ≤ 140737488355328) : Meets Tryz.prog (fun w => RdSl w p n 2 (pcF tx nn)) 15 [.slice p n c, st8 l, .agg (spC m).toArray] (fun _ : Unit => st8 (fillU l m tx nn n)) [] (fun _ => []) := meets1 Tryz.call15 (fun w hr => fill_any p n c tx nn l m hn hl w hr)
end Go.Proofs.YtjdmdpjbijkjaaaGreat

namespace Go.Proofs.YtjdmdpjbijkjaaaGreat
open Go Go.RowKit
class Fw (F : Fence) : Prop where
  fn : ∀ f, F.fn f
  depth : F.depth = none
  steps : ∀ {P : Program} {m m' : Machine}, Steps P m m' → StepsIn (Machine.fenced P F) P m m'
  calls : ∀ {P : Program} {n f} {args : Array Value} {w : World} {R : Ending → World → Prop}, Calls P f args w R → CallsIn F n P f args w R
instance fw_wide : Fw Fence.wide := ⟨fun _ => trivial, rfl, fun h => stepsIn_wide.2 h, fun h => callsIn_wide.2 h⟩
instance fw_round (l : Nat) : Fw (Fence.wide.inRound l) := ⟨fun _ => trivial, rfl, fun {P _ _} h => by rw [fenced_inRound P Fence.wide l]; exact stepsIn_wide.2 h, fun h => CallsIn.inRound l (callsIn_wide.2 h)⟩
class NoOut (Q : Exit → Act → World → Prop) : Prop where
  no : ¬ LetsOut Q
def noDef : Oper → Bool
  | ⟨_, .defer _, _, _, _, _⟩ => false
  | _ => true
theorem noDef_ne {o : Oper} (h : noDef o = true) : ∀ c, o.op ≠ .defer c := by
  obtain ⟨_, op, _, _, _, _⟩ := o;rintro c rfl;cases h
def upA (D : List Deferred) (a : Act) : Act := { a with defers := a.defers ++ D }
def up (D : List Deferred) (X : Act → World → Prop) : Act → World → Prop := fun a w => X (upA D a) w
def upQ (D : List Deferred) (Q : Exit → Act → World → Prop) : Exit → Act → World → Prop := fun e => up D (Q e)
section
variable {F : Fence} [Fw F] {n : Nat} {P : Program} {D : List Deferred} {Q : Exit → Act → World → Prop} {ops : Array Oper} {o : Oper} {a : Act} {w : World}
theorem up_put (dst : Option Tmp) (v : Value) : (upA D a).put dst v = upA D (a.put dst v) := by cases dst <;> rfl
theorem op_in {Q' : Exit → Act → World → Prop} (hQ : ∀ e a w, Q' e a w → Q e (upA D a) w) (hd : noDef o = true) {K K' : Act → World → Prop} (h : o.wp P a w K Q') (hK : ∀ b w, K b w → K' (upA D b) w) : o.wpIn F n P (upA D a) w K' Q := by
  refine ⟨fun f _ => Fw.fn f, ?_⟩
  have e : o.semAt F.round (upA D a).eval = execOp a.eval o := by
    have : (upA D a).eval = a.eval := rfl;rw [this];cases F.round with
    | none => exact Oper.semAt_none _ _
    | some l => exact Oper.semAt_some l _ o (noDef_ne hd)
  rw [e];unfold Oper.wp at h
  generalize (execOp a.eval o).run P w = r at *
  have hdep : F.depth.isSome = true → 1 ≤ n := fun h => by rw [Fw.depth] at h; cases h
  match r, h with
  | .ok (.value v) w', h => exact (congrArg (fun b => K' b w') (up_put o.dst v)).mpr (hK _ _ h)
  | .ok .skip w', h => exact (congrArg (fun b => K' b w') (up_put o.dst undef)).mpr (hK _ _ h)
  | .ok (.defer d) w', h => exact (congrArg (fun b => K' b w') (up_put (a := { a with defers := d :: a.defers }) o.dst undef)).mpr (hK _ _ h)
  | .ok (.enter f args) w', h =>
    refine ⟨hdep, Fw.calls (Calls.mono h fun e w2 hx => ?_)⟩;match e, hx with
    | .returned v, hx => exact (congrArg (fun b => K' b w2) (up_put o.dst v)).mpr (hK _ _ hx)
    | .panicked c, hx => exact hQ _ _ _ hx
    | .outgrown, hx => obtain ⟨a, w, hx⟩ := hx; exact ⟨_, w, hQ _ _ _ hx⟩
  | .ok (.row r args) w', h =>
    refine ⟨hdep, fun c cs _ => ?_⟩;obtain ⟨v, w2, h1, h2⟩ := h c cs;exact ⟨v, w2, (congrArg (fun b => K' b w2) (up_put o.dst v)).mpr (hK _ _ h1), Fw.steps h2⟩
  | .halt (.panic v) w', h => exact hQ _ _ _ h
variable [NoOut Q]
theorem list_in {Q' : Exit → Act → World → Prop} (hQ : ∀ e a w, Q' e a w → Q e (upA D a) w) : ∀ {l : List Oper} {a : Act} {w : World}, l.all noDef = true → wpList P ops Q' l a w → wpListIn F n P ops Q l (upA D a) w
  | [], _, _, _, h => hQ _ _ _ h
  | o :: l, a, w, hd, h => by
    simp only [List.all_cons, Bool.and_eq_true] at hd;unfold wpList at h
    unfold wpListIn
    show if Region.wanted o (yielded ops a.tmps) then _ else _
    split at h
    · rename_i hw
      rw [if_pos hw];rcases h with h | ⟨_, h⟩
      · exact op_in hQ hd.1 h fun b w hb => list_in hQ hd.2 hb
      · obtain ⟨a0, w0, h⟩ := h;exact absurd (⟨_, w0, hQ _ _ _ h⟩ : LetsOut Q) NoOut.no
    · rename_i hw
      rw [if_neg hw];exact ⟨fun f _ => Fw.fn f, (congrArg (fun b => wpListIn F n P ops Q l b w) (up_put o.dst undef)).mpr (list_in hQ hd.2 h)⟩
theorem wpOp_in {Q' : Exit → Act → World → Prop} (hQ : ∀ e a w, Q' e a w → Q e (upA D a) w) {i : Nat} (hd : ops.toList.all noDef = true) {K K' : Act → World → Prop} (h : wpOp P ops Q' i K a w) (hK : ∀ b w, K b w → K' (upA D b) w) : wpOpIn F n P ops Q i K' (upA D a) w := by
  unfold wpOp at h
  unfold wpOpIn
  cases ho : ops[i]? with
  | none =>
    rw [ho] at h;exact hK _ _ h
  | some o =>
    rw [ho] at h;dsimp only at h;have hdo : noDef o = true := List.all_eq_true.1 hd o (Array.mem_toList_iff.2 (Array.mem_of_getElem? ho));show if Region.wanted o (yielded ops a.tmps) then _ else _
    split at h
    · rename_i hw
      rw [if_pos hw];rcases h with h | ⟨_, h⟩
      · exact op_in hQ hdo h hK
      · obtain ⟨a0, w0, h⟩ := h;exact absurd (⟨_, w0, hQ _ _ _ h⟩ : LetsOut Q) NoOut.no
    · rename_i hw
      rw [if_neg hw];exact ⟨fun f _ => Fw.fn f, (congrArg (fun b => K' b w) (up_put o.dst undef)).mpr (hK _ _ h)⟩
theorem any_in {Q' : Exit → Act → World → Prop} (hQ : ∀ e a w, Q' e a w → Q e (upA D a) w) (hd : ops.toList.all noDef = true) : ∀ {fu : Nat} {listed : Array Bool} {a : Act} {w : World}, wpAny P .any ops Q' fu listed a w → wpAnyIn F n P .any ops Q fu listed (upA D a) w
  | 0, _, _, _, h => ⟨h.1, hQ _ _ _ h.2⟩
  | fu + 1, _, _, _, h => ⟨fun hr => hQ _ _ _ (h.1 hr), fun i hi => wpOp_in hQ hd (h.2 i hi) fun _ _ hb => any_in hQ hd hb⟩
end
instance no_then {K : Act → World → Prop} {Q : Exit → Act → World → Prop} [h : NoOut Q] : NoOut (Exit.then K Q) := ⟨fun ⟨a, w, x⟩ => h.no ⟨a, w, x⟩⟩
instance no_block {id : Nat} {Q : Exit → Act → World → Prop} [h : NoOut Q] : NoOut (Exit.inBlock id Q) := ⟨fun ⟨a, w, x⟩ => h.no ⟨a, w, x⟩⟩
def noP (Q : Exit → Act → World → Prop) : Exit → Act → World → Prop
  | .panic _, _, _ => False
  | e, a, w => Q e a w
theorem noP_imp {Q : Exit → Act → World → Prop} (e : Exit) {a : Act} {w : World} (h : noP Q e a w) : Q e a w := by
  cases e <;> first | exact h | exact h.elim
theorem k_nil {N : Nat} {R : Regs} {S : World → Prop} {P : Program} {ops : Array Oper} {Q : Exit → Act → World → Prop} {T : Act → World → Prop} (h : G N R S (Qn T Q .normal)) : G N R S (wpList P ops (Qn T Q) []) := h
namespace Rd
section
variable {F : Fence} {n : Nat} {P : Program} {D : List Deferred} {Q : Exit → Act → World → Prop} {N : Nat} {R : Regs} {S : World → Prop} {ops : Array Oper}
theorem g_seq {x y : Code} (h : G N R S (up D (x.wpIn F n P (Exit.then (y.wpIn F n P Q) Q)))) : G N R S (up D ((Code.seq x y).wpIn F n P Q)) := fun a w hR hS => wpIn_seq (h a w hR hS)
theorem g_skip (h : G N R S (up D (Q .normal))) : G N R S (up D (Code.skip.wpIn F n P Q)) := fun a w hR hS => wpIn_skip (h a w hR hS)
theorem g_label {l : Nat} (h : G N R S (up D (Q .normal))) : G N R S (up D ((Code.label l).wpIn F n P Q)) := fun a w hR hS => wpIn_label (h a w hR hS)
theorem g_exit {id : Nat} (h : G N R S (up D (Q (.exit id)))) : G N R S (up D ((Code.exit id).wpIn F n P Q)) := fun a w hR hS => wpIn_exit (h a w hR hS)
theorem g_goto {l : Nat} (h : G N R S (up D (Q (.goto l)))) : G N R S (up D ((Code.goto l).wpIn F n P Q)) := fun a w hR hS => wpIn_goto (h a w hR hS)
theorem g_ret (h : G N R S (up D (Q .ret))) : G N R S (up D (Code.ret.wpIn F n P Q)) := fun a w hR hS => wpIn_ret (h a w hR hS)
theorem g_block {id : Nat} {c : Code} (h : G N R S (up D (c.wpIn F n P (Exit.inBlock id Q)))) : G N R S (up D ((Code.block id c).wpIn F n P Q)) := fun a w hR hS => wpIn_block (h a w hR hS)
theorem g_cond_t {c : Operand} {x y : Code} (hc : ev R c = some (.bool true)) (h1 : G N R S (up D (x.wpIn F n P Q))) : G N R S (up D ((Code.cond c x y).wpIn F n P Q)) := fun a w hR hS => wpIn_cond_true (a := upA D a) (hR.eval hc) (h1 a w hR hS)
theorem g_cond_f {c : Operand} {x y : Code} (hc : ev R c = some (.bool false)) (h1 : G N R S (up D (y.wpIn F n P Q))) : G N R S (up D ((Code.cond c x y).wpIn F n P Q)) := fun a w hR hS => wpIn_cond_false (a := upA D a) (hR.eval hc) (h1 a w hR hS)
theorem g_then {K : Act → World → Prop} (h : G N R S (up D K)) : G N R S (up D (Exit.then K Q .normal)) := h
theorem g_then_exit {K : Act → World → Prop} {id : Nat} (h : G N R S (up D (Q (.exit id)))) : G N R S (up D (Exit.then K Q (.exit id))) := h
theorem g_then_ret {K : Act → World → Prop} (h : G N R S (up D (Q .ret))) : G N R S (up D (Exit.then K Q .ret)) := h
theorem g_then_goto {K : Act → World → Prop} {l : Nat} (h : G N R S (up D (Q (.goto l)))) : G N R S (up D (Exit.then K Q (.goto l))) := h
theorem g_in_normal {id : Nat} (h : G N R S (up D (Q .normal))) : G N R S (up D (Exit.inBlock id Q .normal)) := h
theorem g_in_ret {id : Nat} (h : G N R S (up D (Q .ret))) : G N R S (up D (Exit.inBlock id Q .ret)) := h
theorem g_in_goto {id l : Nat} (h : G N R S (up D (Q (.goto l)))) : G N R S (up D (Exit.inBlock id Q (.goto l))) := h
theorem g_in_exit {id : Nat} (h : G N R S (up D (Q .normal))) : G N R S (up D (Exit.inBlock id Q (.exit id))) := fun a w hR hS => by
  show Exit.inBlock id Q (.exit id) (upA D a) w
  simp only [Exit.inBlock, if_true];exact h a w hR hS
theorem g_in_exit_ne {id id' : Nat} (hne : Nat.beq id' id = false) (h : G N R S (up D (Q (.exit id')))) : G N R S (up D (Exit.inBlock id Q (.exit id'))) := fun a w hR hS => by
  have hne' : id' ≠ id := Nat.ne_of_beq_eq_false hne;show Exit.inBlock id Q (.exit id') (upA D a) w
  simp only [Exit.inBlock, if_neg hne'];exact h a w hR hS
theorem g_ops [Fw F] [NoOut Q] {id : Nat} {l : List Oper} (h : G N R S (wpList P l.toArray (upQ D Q) l)) (hd : l.all noDef = true := by rfl) : G N R S (up D ((Code.region id l.toArray false).wpIn F n P Q)) := fun a w hR hS => wpIn_region_lit (list_in (fun _ _ _ h => h) hd (h a w hR hS))
theorem n_ (h : G N R S (up D (Q .normal))) : G N R S (wpList P ops (upQ D Q) []) := h
theorem t_ {K : Act → World → Prop} (h : G N R S (up D K)) : G N R S (up D (Exit.then K Q .normal)) := h
theorem s_ {x y : Code} (h : G N R S (up D (x.wpIn F n P (Exit.then (y.wpIn F n P Q) Q)))) : G N R S (up D ((Code.seq x y).wpIn F n P Q)) := g_seq h
theorem o_ [Fw F] [NoOut Q] {id : Nat} {l : List Oper} (h : G N R S (wpList P l.toArray (upQ D Q) l)) (hd : l.all noDef = true := by rfl) : G N R S (up D ((Code.region id l.toArray false).wpIn F n P Q)) := g_ops h hd
theorem nto_ [Fw F] [NoOut Q] {id : Nat} {l : List Oper} (h : G N R S (wpList P l.toArray (upQ D Q) l)) (hd : l.all noDef = true := by rfl) : G N R S (wpList P ops (upQ D (Exit.then ((Code.region id l.toArray false).wpIn F n P Q) Q)) []) := g_ops h hd
theorem ntso_ [Fw F] [NoOut Q] {id : Nat} {l : List Oper} {y : Code} (h : G N R S (wpList P l.toArray (upQ D (Exit.then (y.wpIn F n P Q) Q)) l)) (hd : l.all noDef = true := by rfl) : G N R S (wpList P ops (upQ D (Exit.then ((Code.seq (.region id l.toArray false) y).wpIn F n P Q) Q)) []) := g_seq (g_ops h hd)
end
section
variable {F : Fence} {n : Nat} {P : Program} {D : List Deferred} {Q : Exit → Act → World → Prop} {N : Nat} {R : Regs} {W0 : World} {Fb : List Nat} {L : List Ent}
theorem k_start [Fw F] [NoOut Q] {id : Nat} {l : List Oper} (J : World → Prop) (hm : P.follows .mixedOrders = true) (h : GA P l.toArray (noP (upQ D Q)) J l.length (Array.replicate l.length false) (GR N R W0 Fb L)) (hd : l.all noDef = true := by rfl) : G N R (St W0 Fb L) (up D ((Code.region id l.toArray true).wpIn F n P Q)) :=
  fun a w hR hS => wpIn_region_any hm (any_in (Q := Q) (D := D) (ops := l.toArray) (Q' := noP (upQ D Q)) (fun e _ _ h => noP_imp (Q := upQ D Q) e h) (by simpa using hd) (by simpa using h.sound a _ ⟨hR, hS.drew⟩))
theorem k_go [Fw F] [NoOut Q] {id : Nat} {l : List Oper} {Lh Lr : List Ent} (is : List Nat) (hp : pickE is L = some (Lh, Lr)) (hm : P.follows .mixedOrders = true) (hQ : ∀ c a w d v, noP (upQ D Q) (.panic c) (a.put (some d) v) w → noP (upQ D Q) (.panic c) a w)
    (h : (∀ c a w d v, noP (upQ D Q) (.panic c) (a.put (some d) v) w → noP (upQ D Q) (.panic c) a w) → GA P l.toArray (noP (upQ D Q)) (St W0 Fb Lh) l.length (Array.replicate l.length false) (GR N R W0 Fb L)) (hd : l.all noDef = true := by rfl) : G N R (St W0 Fb L) (up D ((Code.region id l.toArray true).wpIn F n P Q)) :=
  k_start _ hm (h hQ) hd
theorem k_done {J : World → Prop} {ops : Array Oper} {listed : Array Bool} (hr : Region.ready .any ops listed = []) (h : G N R (St W0 Fb L) (up D (Q .normal))) {n : Nat} : GA P ops (noP (upQ D Q)) J n listed (GR N R W0 Fb L) := Go.Proofs.YtjdmdpjbijkjaaaGreat.k_done (Q := noP (upQ D Q)) hr h
theorem g_cutc {c : Code} {α : Type} (R1 : α → Regs) (L1 : α → List Ent) (h1 : ∀ x, G N (R1 x) (St W0 Fb (L1 x)) (up D (Q .normal))) (h2 : (∀ x, G N (R1 x) (St W0 Fb (L1 x)) (up D (Q .normal))) → G N R (St W0 Fb L) (up D (c.wpIn F n P Q))) : G N R (St W0 Fb L) (up D (c.wpIn F n P Q)) := h2 h1
theorem g_cutD {c : Code} {α : Type} (D1 : α → List Deferred) (R1 : α → Regs) (L1 : α → List Ent) (h1 : ∀ x, G N (R1 x) (St W0 Fb (L1 x)) (up (D1 x) (Q .normal))) (h2 : (∀ x, G N (R1 x) (St W0 Fb (L1 x)) (up (D1 x) (Q .normal))) → G N R (St W0 Fb L) (up D (c.wpIn F n P Q))) : G N R (St W0 Fb L) (up D (c.wpIn F n P Q)) := h2 h1
end
end Rd
def objE (b : Nat) (o : Obj) : Ent := .own ⟨[b], fun w => w.heap[b]? = some o, fun w w' hk h => by rw [hk b (by simp)]; exact h, fun w h k hk => by simp at hk; subst hk; exact lt_of_some h⟩
section
variable {W0 w : World} {F : List Nat} {L : List Ent} {b : Nat} {o o' : Obj}
theorem St.newObj (h : St W0 F L w) (o : Obj) : St W0 F (objE w.heap.size o :: L) (w.alloc o) := by
  have hold : ∀ k, k < w.heap.size → (w.alloc o).heap[k]? = w.heap[k]? := fun k hk => Below.heap_alloc _ _ _ hk;refine ⟨h.os, h.tape, h.output, ?_, fun k hk hF => ?_, fun e he => ?_, fun e he k hk => ?_, ?_⟩
  · have := h.size; simp; omega
  · rw [hold k (by have := h.size; omega)]; exact h.keep k hk hF
  · rcases List.mem_cons.1 he with rfl | he
    · exact World.alloc_heap_new w o
    · exact e.stable w _ (fun k hk => hold k (e.inb w (h.ok e he) k hk)) (h.ok e he)
  · rcases List.mem_cons.1 he with rfl | he
    · simp [Ent.fp, objE] at hk; subst hk; exact .inl h.size
    · exact h.own e he k hk
  · refine List.pairwise_cons.2 ⟨fun y hy k hk hk' => ?_, h.apart⟩;simp [Ent.fp, objE] at hk; subst hk
    exact Nat.lt_irrefl _ (y.inb w (h.ok y hy) _ hk')
theorem St.obj (h : St W0 F L w) (i : Nat) (hi : L[i]? = some (objE b o)) : w.heap[b]? = some o := h.get hi
theorem St.putObj (h : St W0 F L w) (i : Nat) (hi : L[i]? = some (objE b o)) : St W0 F (L.set i (objE b o')) (w.putObj b o') := by
  have hb := h.obj i hi;refine h.write hi rfl rfl rfl (by simp) (fun k _ hk => World.putObj_heap_other (by simpa [Ent.fp, objE] using hk)) (World.putObj_heap_same (lt_of_some hb)) (fun k hk => .inl ?_);simpa [Ent.fp, objE] using hk
end
def Yields (P : Program) (l : Nat) (x : Value) (w : World) (R : Bool → World → Prop) : Prop :=
  ∃ f tmps assign body, (Instr.yield l #[x]).run P w = .ok (.round l f tmps assign body) w ∧ RoundIn Fence.wide 0 P l f tmps assign body w fun e w' => ∃ b, e = .returned (.bool b) ∧ R b w'
def CloW (E : World → Prop) : Prop := ∀ w w', E w → Below w.heap.size w w' → E w'
def Iter (P : Program) (gf : FuncId) (lb ms : List Value) (T : World → Prop) : Prop :=
  ∀ (l : Nat) (w : World) (E X : Nat → World → Prop), (∀ k, CloW (E k)) → (∀ k w', E k w' → T w') → E 0 w →
    (∀ k x, ms[k]? = some x → ∀ w', E k w' → Yields P l x w' fun b w'' => if b then E (k + 1) w'' else X k w'') →
    Calls P gf (.func (.yield l) #[] #[] :: lb).toArray w fun e w' => (∃ v, e = .returned v) ∧ (E ms.length w' ∨ ∃ k, k < ms.length ∧ X k w')
theorem Yields.mono {P : Program} {l : Nat} {x : Value} {w : World} {R R' : Bool → World → Prop} (h : Yields P l x w R) (hr : ∀ b w', R b w' → R' b w') : Yields P l x w R' := by
  obtain ⟨f, tm, a1, bd, h1, h2⟩ := h;exact ⟨f, tm, a1, bd, h1, h2.mono fun e w' ⟨b, h3, h4⟩ => ⟨b, h3, hr b w' h4⟩⟩
theorem g_rebase {N : Nat} {R : Regs} {S : World → Prop} {X : Act → World → Prop} (h : ∀ w1, S w1 → G N R (St w1 [] []) X) : G N R S X := fun a w hR hS => h w hS a w hR (St.refl w)
section
variable {P : Program} {N : Nat} {R : Regs} {W0 : World} {F : List Nat} {L : List Ent} {Q : Exit → Act → World → Prop}
theorem upA_nil (a : Act) : upA [] a = a := by unfold upA; rw [List.append_nil]
def roundQ (A B : World → Prop) (jx : Nat) : Exit → Act → World → Prop
  | .normal, _, w => A w
  | .exit id, _, w => id = jx ∧ B w
  | _, _, _ => False
instance no_round {A B : World → Prop} {jx : Nat} : NoOut (roundQ A B jx) := ⟨fun ⟨_, _, x⟩ => x⟩
instance no_false : NoOut (fun _ _ _ => False) := ⟨fun ⟨_, _, x⟩ => x⟩
theorem g_put {N : Nat} {R : Regs} {X : Act → World → Prop} {b : Nat} {o o' : Obj} (i : Nat) (hi : L[i]? = some (objE b o)) (h : G N R (St W0 F (L.set i (objE b o'))) (up [] X)) : G N R (St W0 F L) (up [] fun a w => w.heap[b]? = some o ∧ X a (w.putObj b o')) := fun a w hR hS => ⟨hS.obj i hi, h a _ hR (hS.putObj i hi)⟩
theorem g_range {γ : Type} {g : Operand} {t : Nat} {assign body : Code} {gf : FuncId} {lb ms : List Value} {T : World → Prop} (jx : Nat) (Lk : Nat → γ → List Ent) (Pk Px : Nat → γ → Prop) (g0 : γ)
    (hg : ev R g = some (.func (.func gf) #[] lb.toArray)) (hf : ∀ args w, (callFunc gf args).run P w = .ok (.enter gf args) w) (ht : Nat.blt t N = true)
    (hit : Iter P gf lb ms T) (hT : ∀ k A B y w', St W0 F (A :: B :: Lk k y) w' → T w') (h0 : Lk 0 g0 = L) (hp0 : Pk 0 g0) (T2 : World → Prop) (hT2 : ∀ L' w', St W0 F L' w' → T2 w')
    (hround : ∀ W Fb l d o o' k x y, Pk k y → ms[k]? = some x → (∀ L' w', St W Fb L' w' → T2 w') → G N ((t, x) :: R) (St W Fb (objE l o :: objE d (.deferred (some [])) :: Lk k y))
      (up [] (assign.wpIn (Fence.wide.inRound l) 0 P (Exit.then (fun a w => w.heap[l]? = some o ∧ body.wpIn (Fence.wide.inRound l) 0 P
        (roundQ (fun w => ∃ z, Pk (k + 1) z ∧ St W Fb (objE l o' :: objE d (.deferred (some [])) :: Lk (k + 1) z) w) (fun w => ∃ z, Px k z ∧ St W Fb (objE l o' :: objE d (.deferred (some [])) :: Lk (k + 1) z) w) jx) a (w.putObj l o')) (fun _ _ _ => False)))))
    (hdone : ∀ l d o y, Pk ms.length y → G N R (St W0 F (objE l o :: objE d (.deferred (some [])) :: Lk ms.length y)) (up [⟨.collected d, #[]⟩] (Q .normal)))
    (hstop : ∀ l d o k y, k < ms.length → Px k y → G N R (St W0 F (objE l o :: objE d (.deferred (some [])) :: Lk (k + 1) y)) (up [⟨.collected d, #[]⟩] (Q (.exit jx)))) :
    G N R (St W0 F L) (up [] ((Code.rangeFunc g #[t] assign body).wpIn Fence.wide 0 P Q)) := by
  intro a w hR hS;show Code.wpIn _ _ _ _ _ (upA [] a) w
  rw [upA_nil];refine wpIn_rangeFunc fun fn _ => ?_;obtain ⟨rec, hrec⟩ : ∃ rec : LoopState → Option Code → Loop, rec = fun st pe => { state := st, pending := pe, fn, tmps := a.tmps, params := #[t], assign, body, defers := w.heap.size } := ⟨_, rfl⟩;have hS1 := (hS.newObj (.deferred (some []))).newObj (.loop (rec .ready none));rw [World.size_alloc] at hS1;obtain ⟨W1, hW1⟩ : ∃ W1, (w.alloc (.deferred (some []))).alloc (.loop (rec .ready none)) = W1 := ⟨_, rfl⟩;rw [hW1] at hS1;obtain ⟨d, hd⟩ : ∃ d, d = w.heap.size := ⟨_, rfl⟩;obtain ⟨l, hl⟩ : ∃ l, l = w.heap.size + 1 := ⟨_, rfl⟩;rw [← hl, ← hd, ← h0] at hS1;refine ⟨l, [{ target := .collected d, args := #[] }], W1, { target := .fn (.func gf) lb.toArray, args := #[.func (.yield l) #[] #[]] }, W1, gf, (.func (.yield l) #[] #[] :: lb).toArray, W1, ?_, ?_, fun _ _ => trivial, ?_, (fun h => by cases h), ?_⟩
  · rw [← hW1, hrec, hd, hl]; exact run_enterLoop_outer _ _ _ _ _
  · simp only [resolve, hR.eval hg];simp [go_sem]
  · simp [invoke, go_sem, hf]
  refine callsIn_wide.2 ?_;have hst : St W1 ((objE l (.loop (rec .ready none)) :: objE d (.deferred (some [])) :: Lk 0 g0).flatMap Ent.fp) (objE l (.loop (rec .ready none)) :: objE d (.deferred (some [])) :: Lk 0 g0) W1 := St.start _ hS1.ok hS1.apart;obtain ⟨F1, hF1⟩ : ∃ F1, (objE l (.loop (rec .ready none)) :: objE d (.deferred (some [])) :: Lk 0 g0).flatMap Ent.fp = F1 := ⟨_, rfl⟩;rw [hF1] at hst
  have back : ∀ L' w', St W1 F1 L' w' → St W0 F L' w' := fun L' w' h => by
    have := St.join (L0 := objE l (.loop (rec .ready none)) :: objE d (.deferred (some [])) :: Lk 0 g0) (Lr := []) (by simpa using hS1) (F0 := F1) (fun k hk => by rw [← hF1] at hk; exact List.mem_flatMap.1 hk) h;simpa using this
  refine (hit l W1 (fun k w' => ∃ y, Pk k y ∧ St W1 F1 (objE l (.loop (rec .ready none)) :: objE d (.deferred (some [])) :: Lk k y) w') (fun k w' => ∃ y, Px k y ∧ St W1 F1 (objE l (.loop (rec .done (some (.exit jx)))) :: objE d (.deferred (some [])) :: Lk (k + 1) y) w')
    (fun k w w' ⟨y, hy, hS⟩ hb => ⟨y, hy, by simpa using hS.then (St.of_below hb)⟩) (fun k w' ⟨y, _, h⟩ => hT k _ _ y w' (back _ w' h)) ⟨g0, hp0, hst⟩ ?_).mono ?_
  · rintro k x hx w' ⟨y, hy, hS'⟩;have ho := hS'.obj 0 rfl;have hyl := run_yield (P := P) (args := #[x]) ho (by rw [hrec]; rfl);rw [hrec] at hyl;refine ⟨fn, _, assign, body, hyl, roundIn_of_wpIn trivial ?_⟩
    have hRt : Rf N ((t, x) :: R) { tmps := a.tmps.setIfInBounds t x, defers := [] } := by
      have := hR.put (v := x) ht;exact ⟨this.size, rfl, this.get⟩
    have h1 := hround W1 F1 l d _ (.loop { rec .ready none with state := .busy }) k x y hy hx (fun L' w' h => hT2 L' w' (back L' w' h)) _ w' hRt hS'
    unfold up at h1
    rw [upA_nil] at h1;refine wpIn_mono (by simpa using h1) ?_;rintro e a1 w1 hq;cases e with
    | normal =>
      obtain ⟨hlo, hq⟩ : w1.heap[l]? = some (.loop (rec .ready none)) ∧ _ := hq;refine ⟨_, run_beginRound hlo (by rw [hrec]), ?_⟩;refine wpIn_mono hq ?_;rintro e a2 w2 hq
      have fin : ∀ (jump : Option Code) (L' : List Ent), St W1 F1 (objE l (.loop { rec .ready none with state := .busy }) :: L') w2 →
          (Instr.endRound l jump).run P w2 = .ok (.bool jump.isNone) (w2.putObj l (.loop (rec (if jump.isNone then .ready else .done) jump))) ∧ St W1 F1 (objE l (.loop (rec (if jump.isNone then .ready else .done) jump)) :: L') (w2.putObj l (.loop (rec (if jump.isNone then .ready else .done) jump))) := fun jump L' h => by
        have := run_endRound (P := P) jump (h.obj 0 rfl);rw [hrec] at this ⊢;exact ⟨this, h.putObj 0 rfl⟩
      cases e with
      | normal => obtain ⟨z, hz, hq⟩ := hq; obtain ⟨h3, h4⟩ := fin none _ hq; exact ⟨_, _, h3, true, rfl, z, hz, h4⟩
      | exit id => obtain ⟨rfl, z, hz, hq⟩ := hq; obtain ⟨h3, h4⟩ := fin (some (.exit id)) _ hq; exact ⟨_, _, h3, false, rfl, z, hz, h4⟩
      | goto _ => exact hq.elim
      | ret => exact hq.elim
      | panic _ => exact hq.elim
      | outgrown => exact hq.elim
    | exit _ => exact hq.elim
    | goto _ => exact hq.elim
    | ret => exact hq.elim
    | panic _ => exact hq.elim
    | outgrown => exact hq.elim
  · rintro e w' ⟨⟨v, rfl⟩, ⟨y, hy, h⟩ | ⟨k, hk, y, hy, h⟩⟩
    · have h' := back _ _ h;have := run_endLoop (P := P) (h'.obj 0 rfl) (by rw [hrec]; simp);rw [hrec] at this;refine ⟨none, _, this, ?_⟩;have h5 := hdone l d _ y hy a _ hR (h'.putObj 0 rfl (o' := .loop { rec .ready none with state := .exhausted }))
      unfold up upA at h5
      rw [hR.defers] at h5 ⊢;rw [hrec] at h5;exact h5
    · have h' := back _ _ h;have := run_endLoop (P := P) (h'.obj 0 rfl) (by rw [hrec]; simp);rw [hrec] at this;refine ⟨some (.exit jx), _, this, ?_⟩;have h5 := hstop l d _ k y hk hy a _ hR (h'.putObj 0 rfl (o' := .loop { rec .done (some (.exit jx)) with state := .exhausted }))
      unfold up upA at h5
      rw [hR.defers] at h5 ⊢;rw [hrec] at h5;exact wpIn_exit h5
theorem g_split {S : World → Prop} {id : Nat} {l : List Oper} (k : Nat) (hd : (l.take k).all noDef = true) [NoOut Q]
    (h : G N R S (wpList P l.toArray (Qn (fun a w => wpListIn Fence.wide 0 P l.toArray Q (l.drop k) a w) Q) (l.take k))) : G N R S ((Code.region id l.toArray false).wp P Q) := by
  obtain ⟨pre, hpre⟩ : ∃ pre, l.take k = pre := ⟨_, rfl⟩;obtain ⟨rest, hrest⟩ : ∃ rest, l.drop k = rest := ⟨_, rfl⟩;have hl : l = pre ++ rest := by rw [← hpre, ← hrest, List.take_append_drop]
  rw [hpre] at hd h;rw [hrest] at h;intro a w hR hS;refine wpIn_wide.1 (wpIn_region_lit (n := 0) ?_)
  have key : ∀ (m : List Oper) (a : Act) (w : World), m.all noDef = true → wpList P l.toArray (Qn (fun a w => wpListIn Fence.wide 0 P l.toArray Q rest a w) Q) m a w → wpListIn Fence.wide 0 P l.toArray Q (m ++ rest) a w := by
    intro m;induction m with
    | nil => intro a w _ h; exact h
    | cons o m ih =>
      intro a w hd h;simp only [List.all_cons, Bool.and_eq_true] at hd;unfold wpList at h
      rw [List.cons_append];unfold wpListIn
      split at h
      · rename_i hw
        rw [if_pos hw];rcases h with h | ⟨_, h⟩
        · have h1 : o.wp P a w (wpList P l.toArray (Qn (fun a w => wpListIn Fence.wide 0 P l.toArray Q rest a w) Q) m) (upQ [] Q) := by
            have h2 := wp_qn h;have e : upQ [] Q = Q := by funext e a w; unfold upQ up; rw [upA_nil]
            rw [e]; exact h2
          have h3 := op_in (F := Fence.wide) (n := 0) (D := []) (fun _ _ _ h => h) hd.1 h1 (K' := wpListIn Fence.wide 0 P l.toArray Q (m ++ rest)) fun b w hb => by rw [upA_nil]; exact ih b w hd.2 hb
          rw [upA_nil] at h3; exact h3
        · obtain ⟨a0, w0, h⟩ := h;exact absurd (⟨a0, w0, h⟩ : LetsOut Q) NoOut.no
      · rename_i hw
        rw [if_neg hw];exact ⟨fun _ _ => trivial, ih _ _ hd.2 h⟩
  have := key pre a w hd (h a w hR hS);rw [← hl] at this;exact this
theorem g_yield {S S1 S2 : World → Prop} {ops : Array Oper} {rest : List Oper} {d l : Nat} {y m : Operand} {x : Value} {ats : Array TypeId} {ty : TypeId} {pos : String} {af : Array Edge} [NoOut Q]
    (hy : ev R y = some (.func (.yield l) #[] #[])) (hm : ev R m = some x) (hd : Nat.blt d N = true) (hr : rest.all noDef = true) (hY : ∀ w, S w → Yields P l x w fun b w' => if b then S1 w' else S2 w')
    (h1 : G N ((d, .bool true) :: R) S1 (wpList P ops Q rest)) (h2 : G N ((d, .bool false) :: R) S2 (wpList P ops Q rest)) :
    G N R S (fun a w => wpListIn Fence.wide 0 P ops Q (⟨some d, .call ⟨.value y, #[m], ats⟩, ty, pos, af, none⟩ :: rest) a w) := by
  intro a w hR hS;obtain ⟨f, tmps, assign, body, hr0, hround⟩ := hY w hS;have e : upQ [] Q = Q := by funext e a w; unfold upQ up; rw [upA_nil]
  have go : ∀ a w, wpList P ops Q rest a w → wpListIn Fence.wide 0 P ops Q rest a w := fun a w h => by
    have := list_in (F := Fence.wide) (n := 0) (D := []) (ops := ops) (Q := Q) (a := a) (w := w) (fun e a w h => by rw [upA_nil]; exact h) hr h;rw [upA_nil] at this; exact this
  refine wpListIn_plain rfl fun K hK => ⟨fun _ _ => trivial, ?_⟩;rw [Fence.wide_round, Oper.semAt_none]
  have e : (execOp a.eval ⟨some d, .call ⟨.value y, #[m], ats⟩, ty, pos, af, none⟩).run P w = .ok (.round l f tmps assign body) w := by
    simp [execOp, resolve, Deferred.ofValue, invoke, hR.eval hy, hR.eval hm, hr0]
  rw [e];refine ⟨(fun h => by cases h), hround.mono ?_⟩;rintro e w' ⟨b, rfl, h⟩;cases b with
  | true => exact hK _ _ (go _ _ (h1 _ _ (hR.put hd) h))
  | false => exact hK _ _ (go _ _ (h2 _ _ (hR.put hd) h))
instance no_bodyW {fn : Func} {Rr : World → Prop} : NoOut (bodyPost P fn fun e w => (∃ v, e = .returned v) ∧ Rr w) := ⟨fun ⟨_, _, ⟨_, h⟩, _⟩ => by cases h⟩
theorem fn_introR {f : FuncId} {fn : Func} {c : Code} {vs : List Value} {w : World} {Rr : Ending → World → Prop} (hf : P.funcs[f]? = some fn) (hb : fn.body = some c) (hN : fn.ntmps = N) (hn : Nat.ble vs.length N = true)
    (hR : regsFrom 0 vs = R) (h : G N R (St w [] []) (up [] (c.wpIn Fence.wide 0 P (bodyPostM Fence.wide 0 P fn Rr)))) : Calls P f vs.toArray w Rr := by
  subst hR;have hn' : vs.length ≤ N := Nat.le_of_ble_eq_true hn;refine callsIn_wide.1 (callsIn_of_wp_marks (n := 0) hf hb trivial ?_);have h1 := h { tmps := vs.toArray ++ Array.replicate (fn.ntmps - vs.toArray.size) undef, defers := [] } w ⟨?_, rfl, fun i v hi => ?_⟩ (St.refl w)
  · unfold up at h1
    rw [upA_nil] at h1;exact h1
  · simp [hN]; omega
  · obtain ⟨_, h2⟩ := lookup_regsFrom vs 0 i v hi;simp only [Nat.sub_zero] at h2;have hlt : i < vs.length := (List.getElem?_eq_some_iff.1 h2).1;simp [Array.getElem?_append, hlt]
    exact (List.getElem?_eq_some_iff.1 h2).2
instance no_body {fn : Func} {Rr : Value → World → Prop} : NoOut (bodyPostM Fence.wide 0 P fn fun e w => ∃ v, e = .returned v ∧ Rr v w) := ⟨fun ⟨_, _, _, h, _⟩ => by cases h⟩
instance no_bodyX {fn : Func} {α : Type} {A : α → Prop} {f : α → Value} {B : α → World → Prop} : NoOut (bodyPostM Fence.wide 0 P fn fun e w => ∃ x, A x ∧ e = .returned (f x) ∧ B x w) := ⟨fun ⟨_, _, _, _, h, _⟩ => by cases h⟩
theorem up_end {fn : Func} {Rr : Ending → World → Prop} {v : Value} (hv : ∀ a w, Rf N R a → St W0 F L w → (results fn a.tmps).run P w = .ok v w) (h : ∀ w, St W0 F L w → Rr (.returned v) w) : G N R (St W0 F L) (up [] (bodyPostM Fence.wide 0 P fn Rr .ret)) := fun a w hR hS => by
  show LeavesInM _ _ _ _ _ _ (a.defers ++ []) _ _
  rw [hR.defers];exact ⟨v, hv a w hR hS, h w hS⟩
theorem up_endM {fn : Func} {Rr : Ending → World → Prop} {v : Value} {d : Nat} (i : Nat) (hi : L[i]? = some (objE d (.deferred (some [])))) (hv : ∀ a w, Rf N R a → St W0 F (L.set i (objE d (.deferred none))) w → (results fn a.tmps).run P w = .ok v w)
    (h : ∀ w, St W0 F (L.set i (objE d (.deferred none))) w → Rr (.returned v) w) : G N R (St W0 F L) (up [⟨.collected d, #[]⟩] (bodyPostM Fence.wide 0 P fn Rr .ret)) := fun a w hR hS => by
  show LeavesInM _ _ _ _ _ _ (a.defers ++ [⟨.collected d, #[]⟩]) _ _
  rw [hR.defers];exact ⟨by simp, .inl ⟨d, _, rfl, run_takeDeferred (hS.obj i hi), v, hv a _ hR (hS.putObj i hi), h _ (hS.putObj i hi)⟩⟩
end
end Go.Proofs.YtjdmdpjbijkjaaaGreat

namespace Go.Proofs.YtjdmdpjbijkjaaaGreat
open Go Go.RowKit
theorem topK_last {p : Nat → Bool} {lo k : Nat} : ∀ {c : Nat}, topK p lo c = some k → ∀ j, k < j → j < c → p j = false
  | 0, h, _, _, _ => by cases h
  | c + 1, h, j, h1, h2 => by
    rw [topK] at h;split at h
    · cases h; omega
    · rename_i hh
      have h3 := topK_is h;by_cases e : j = c
      · subst e; simpa [show lo ≤ j by omega] using hh
      · exact topK_last h j h1 (by omega)
def First (x : Tx) (t : MT) (f i j : Nat) : Prop := f ≤ i ∧ i ≤ x.n ∧ mM x t i j = true ∧ (∀ a b, f ≤ a → a < i → mM x t a b = false) ∧ (∀ b, j < b → mM x t i b = false)
theorem findF_some {x : Tx} {t : MT} : ∀ {c f i j : Nat}, x.n + 1 ≤ c + f → First x t f i j → findF x t c f = some (i, j)
  | 0, f, i, j, hc, ⟨h1, h2, _⟩ => by omega
  | c + 1, f, i, j, hc, ⟨h1, h2, h3, h4, h5⟩ => by
    rw [findF];by_cases e : f = i
    · subst e;rw [topK_some (k := j) (Nat.zero_le _) (by have := mM_in t h2 h3; omega) h3 fun b h6 _ => h5 b h6]
    · rw [topK_none fun b _ _ => h4 f b (Nat.le_refl _) (by omega)];exact findF_some (by omega) ⟨by omega, h2, h3, fun a b h6 h7 => h4 a b (by omega) h7, h5⟩
theorem findF_none {x : Tx} {t : MT} : ∀ {c f : Nat}, (∀ a b, f ≤ a → a ≤ x.n → mM x t a b = false) → c + f ≤ x.n + 1 → findF x t c f = none
  | 0, f, h, _ => rfl
  | c + 1, f, h, hc => by
    rw [findF, topK_none fun b _ _ => h f b (Nat.le_refl _) (by omega)];exact findF_none (fun a b h1 h2 => h a b (by omega) h2) (by omega)
theorem mM_out {x : Tx} {t : MT} {i b : Nat} (hi : i ≤ x.n) (hb : x.n < b) : mM x t i b = false := by
  cases h : mM x t i b with
  | false => rfl
  | true => have := mM_in t hi h; omega
theorem findF_is {x : Tx} {t : MT} : ∀ {c f i j : Nat}, c + f ≤ x.n + 1 → findF x t c f = some (i, j) → First x t f i j
  | 0, f, i, j, _, h => by cases h
  | c + 1, f, i, j, hc, h => by
    rw [findF] at h;split at h
    · rename_i j' hj
      cases h;have h1 := topK_is hj;refine ⟨Nat.le_refl _, by omega, h1.2.2, fun a b h2 h3 => by omega, fun b hb => ?_⟩;by_cases hb2 : b < x.n + 1
      · exact topK_last hj b hb hb2
      · exact mM_out (by omega) (by omega)
    · rename_i hj
      obtain ⟨h1, h2, h3, h4, h5⟩ := findF_is (by omega) h;refine ⟨by omega, h2, h3, fun a b h6 h7 => ?_, h5⟩;by_cases e : a = f
      · subst e;by_cases hb : b < x.n + 1
        · exact topK_no hj b (Nat.zero_le _) hb
        · exact mM_out (by omega) (by omega)
      · exact h4 a b (by omega) h7
theorem findF_no {x : Tx} {t : MT} : ∀ {c f : Nat}, x.n + 1 ≤ c + f → findF x t c f = none → ∀ a b, f ≤ a → a ≤ x.n → mM x t a b = false
  | 0, f, hc, _, a, b, h1, h2 => by omega
  | c + 1, f, hc, h, a, b, h1, h2 => by
    rw [findF] at h;split at h
    · cases h
    · rename_i hj
      by_cases e : a = f
      · subst e;by_cases hb : b < x.n + 1
        · exact topK_no hj b (Nat.zero_le _) hb
        · exact mM_out h2 (by omega)
      · exact findF_no (by omega) h a b (by omega) h2
theorem findR_yes {x : Tx} {t : MT} {f i j : Nat} (hn : x.n ≤ 1024) (h : First x t f i j) : findR x t f = (gM x t i j (setS mN 0 (i, j)), true) := by
  unfold findR
  rw [if_pos ⟨by omega, by have := h.1; have := h.2.1; omega, hn⟩, findF_some (by have := h.1; have := h.2.1; rw [Int.toNat_natCast]; omega) (by rw [Int.toNat_natCast]; exact h)]
theorem findR_no {x : Tx} {t : MT} {f : Nat} (h : ∀ a b, f ≤ a → a ≤ x.n → mM x t a b = false) : findR x t f = (m0, false) := by
  unfold findR
  split
  · rename_i hh
    rw [findF_none (by rw [Int.toNat_natCast]; exact h) (by rw [Int.toNat_natCast]; omega)]
  · rfl
theorem findR_cases (x : Tx) (t : MT) (f : Nat) (hf : f ≤ x.n) (hn : x.n ≤ 1024) : (∃ i j, First x t f i j ∧ findR x t f = (gM x t i j (setS mN 0 (i, j)), true)) ∨ ((∀ a b, f ≤ a → a ≤ x.n → mM x t a b = false) ∧ findR x t f = (m0, false)) := by
  cases h : findF x t (x.n + 1 - f) f with
  | some p =>
    obtain ⟨i, j⟩ := p;have h1 := findF_is (by omega) h;exact .inl ⟨i, j, h1, findR_yes hn h1⟩
  | none =>
    have h1 := findF_no (by omega) h;exact .inr ⟨h1, findR_no h1⟩
mutual
theorem gM_0 {x : Tx} : ∀ (t : MT) (i j : Nat) (m : Spn), gM x t i j m 0 = m 0
  | .mk k s mi ma nu v q, i, j, m => by
    have e1 : (if 1 ≤ nu ∧ nu < 10 then setS m nu.toNat ((i : Int), (j : Int)) else m) 0 = m 0 := by
      split
      · unfold setS; rw [if_neg (by omega)]
      · rfl
    rw [gM_mk];split
    · exact gRow_0 q i j m
    · split
      · exact gAny_0 q i j m
      · split
        · exact (gKid_0 q i j _).trans e1
        · split
          · exact gRep_0 (fun a b m => gKid_0 q a b m) _ _ _ i j m
          · rfl
theorem gRow_0 {x : Tx} : ∀ (q : List MT) (i j : Nat) (m : Spn), gRow x q i j m 0 = m 0
  | [], _, _, _ => by rw [gRow_nil]
  | t :: q, i, j, m => by
    rw [gRow_cons];split
    · rw [gRow_0 q, gM_0 t]
    · rfl
theorem gAny_0 {x : Tx} : ∀ (q : List MT) (i j : Nat) (m : Spn), gAny x q i j m 0 = m 0
  | [], _, _, _ => by rw [gAny_nil]
  | t :: q, i, j, m => by
    rw [gAny_cons];split
    · exact gM_0 t i j m
    · exact gAny_0 q i j m
theorem gKid_0 {x : Tx} : ∀ (q : List MT) (i j : Nat) (m : Spn), gKid x q i j m 0 = m 0
  | [], _, _, _ => by rw [gKid_nil]
  | t :: q, i, j, m => by rw [gKid_cons]; exact gM_0 t i j m
theorem gRep_0 {n : Nat} {K : Nat → Nat → Bool} {g : Nat → Nat → Spn → Spn} (hg : ∀ i j m, g i j m 0 = m 0) : ∀ (f : Nat) (lo hi : Int) (i j : Nat) (m : Spn), gRep n K g f lo hi i j m 0 = m 0
  | 0, _, _, _, _, _ => rfl
  | f + 1, lo, hi, i, j, m => by
    rw [gRep];by_cases e : i = j
    · rw [if_pos e];split
      · exact hg _ _ _
      · rfl
    · rw [if_neg e];generalize topK (fun k => K i k && rep n K (n + 1) (max (lo - 1) 0) (if 0 < hi then hi - 1 else hi) k j) (i + 1) (j + 1) = o
      cases o with
      | none => rfl
      | some k => exact (gRep_0 hg f _ _ k j _).trans (hg _ _ _)
end
abbrev txt (l : List UInt8) : Tx := ⟨l, true⟩
theorem find_fact {x : Tx} {t : MT} {fr : Int} (h0 : 0 ≤ fr) (h : (findR x t fr).2 = true) : fr ≤ ((findR x t fr).1 0).1 ∧ ((findR x t fr).1 0).1 ≤ ((findR x t fr).1 0).2 ∧ ((findR x t fr).1 0).2 ≤ x.n := by
  by_cases hc : 0 ≤ fr ∧ fr ≤ x.n ∧ x.n ≤ 1024
  · obtain ⟨f, rfl⟩ := Int.eq_ofNat_of_zero_le h0;rcases findR_cases x t f (by omega) hc.2.2 with ⟨i, j, hF, e⟩ | ⟨_, e⟩
    · have := mM_in t hF.2.1 hF.2.2.1;have h1 := hF.1;rw [e];dsimp only;rw [gM_0];show (f : Int) ≤ (i : Int) ∧ (i : Int) ≤ (j : Int) ∧ (j : Int) ≤ _
      omega
    · rw [e] at h; cases h
  · rw [find_out hc] at h; cases h
def alls (x : Tx) (t : MT) : Nat → Int → Int → List Spn
  | 0, _, _ => []
  | f + 1, fr, en =>
    if (findR x t fr).2 then
      (if ((findR x t fr).1 0).1 = ((findR x t fr).1 0).2 then (if ((findR x t fr).1 0).2 = en then alls x t f (((findR x t fr).1 0).2 + 1) en else (findR x t fr).1 :: alls x t f (((findR x t fr).1 0).2 + 1) (-1))
      else (findR x t fr).1 :: alls x t f ((findR x t fr).1 0).2 ((findR x t fr).1 0).2)
    else []
theorem alls_no {x : Tx} {t : MT} {f : Nat} {fr en : Int} (h : (findR x t fr).2 = false) : alls x t f fr en = [] := by
  cases f with
  | zero => rfl
  | succ f => rw [alls, h]; rfl
def allM (l : List UInt8) (t : MT) : List Spn := alls (txt l) t (l.length + 2) 0 (-1)
theorem drop_next {α : Type} {l r : List α} {a : α} {k : Nat} (h : l.drop k = a :: r) : l[k]? = some a ∧ l.drop (k + 1) = r ∧ k < l.length := by
  have h1 : l[k]? = some a := by rw [← List.head?_drop, h]; rfl
  refine ⟨h1, ?_, (List.getElem?_eq_some_iff.1 h1).1⟩;rw [← List.tail_drop, h]; rfl
section
variable {P : Program} {N : Nat} {R : Regs} {S : World → Prop} {W0 : World} {F : List Nat} {L : List Ent} {dst : Option Tmp} {t ty : TypeId} {pos : String} {af : Array Edge} {gd : Option (Nat × Bool)} {x : Operand}
theorem y_ldW {b n : Nat} {t' : TypeId} {cs : List Value} (hS : ∀ w, S w → w.heap[b]? = some (.cells cs.toArray t' (0, 0))) (hx : ev R x = some (.pointer (some ⟨b, 0, none⟩))) (ha : ∀ w, (isAgg t).run P w = .ok true w) (hz : ∀ w, (sizeOf t).run P w = .ok n w) (hn : cs.length = n) :
    Yv P N R S ⟨dst, .load t x, ty, pos, af, gd⟩ (.agg cs.toArray) := fun a w hR h => by
  have e := run_row (P := P) (off := 0) (vs := cs) (hS w h) ha hz (by rw [List.drop_zero, List.take_of_length_le (by omega)]) hn;simp [execOp, hR.eval hx, Instr.loadAt, Instr.sureAddr, e]
theorem y_ldW1 {b : Nat} {t' : TypeId} {v : Value} (hS : ∀ w, S w → w.heap[b]? = some (.cells [v].toArray t' (0, 0))) (hx : ev R x = some (.pointer (some ⟨b, 0, none⟩))) (ha : ∀ w, (isAgg t).run P w = .ok false w) :
    Yv P N R S ⟨dst, .load t x, ty, pos, af, gd⟩ v := y_load1 hx ha fun w h => by rw [cell_of_row w b 0 _ t' (0, 0) (hS w h)]; rfl
theorem qn_ {ops : Array Oper} {Q : Exit → Act → World → Prop} {T : Act → World → Prop} (h : G N R S T) : G N R S (wpList P ops (Qn T Q) []) := h
end
def itT (b1 b2 : Nat) (t : MT) (l : List UInt8) (w : World) : Prop := w.heap[b1]? = some (.cells (nC t).toArray 31 (0, 0)) ∧ w.heap[b2]? = some (.cells [st8 l].toArray 9 (0, 0)) ∧ t.rd w
set_option maxRecDepth 100000 in
theorem iter_ok (b1 b2 : Nat) (t : MT) (l : List UInt8) (hx : (txt l).n ≤ 1000000) (hle : wT t ≤ 1000000) : Iter Tryz.prog 25 [.pointer (some ⟨b1, 0, none⟩), .pointer (some ⟨b2, 0, none⟩)] ((allM l t).map fun m => .agg (spC m).toArray) (itT b1 b2 t l) := fun yl w E X hclo hT0 hE0 hround => by
  refine fn_intro Tryz.func25 rfl Tryz.ntmps25 rfl rfl (s_ (o_ ?_));refine xg 1 [] rfl rfl (ntso_ ?_);refine xg 1 [] rfl rfl (n_ (t_ (g_block ?_)));refine g_loop (α := {x : Nat × Nat × Int × Int // (allM l t).drop x.1 = alls (txt l) t x.2.1 x.2.2.1 x.2.2.2 ∧ x.1 ≤ (allM l t).length ∧ (l.length : Int) + 2 ≤ x.2.1 + x.2.2.1 ∧ 0 ≤ x.2.2.1 ∧ x.2.2.1 ≤ l.length + 1}) (fun x => [(0, .func (.yield yl) #[] #[]), (1, .pointer (some ⟨b1, 0, none⟩)), (2, .pointer (some ⟨b2, 0, none⟩)), (4, .int .i64 x.1.2.2.2), (5, .int .i64 x.1.2.2.1)]) (fun x => E x.1.1) (fun x => x.1.2.1) ⟨(0, l.length + 2, 0, -1), rfl, Nat.zero_le _, by dsimp only; omega, by dsimp only; omega, by dsimp only; omega⟩ [0, 1, 2, 4, 5] rfl (fun w2 h => hclo 0 _ _ hE0 h.below) ?_;rintro ⟨⟨k, f, fr, en⟩, hms, hk, hff, hf0, hf1⟩;dsimp only at hms hk hff hf0 hf1;dsimp only;refine g_rebase fun w1 hE => ?_;have hTk : ∀ {L : List Ent} (w2 : World), St w1 [] L w2 → itT b1 b2 t l w2 := fun w2 hS => hT0 _ w2 (hclo k _ _ hE hS.below);refine g_block (s_ (o_ (g_val (v := .agg (nC t).toArray) rfl rfl rfl (y_ldW (fun w2 hS => (hTk _ hS).1) rfl Tryz.isAgg31 Tryz.sizeOf31 (nC_len _)) ?_)));refine g_val (v := st8 l) rfl rfl rfl (y_ldW1 (fun w2 hS => (hTk _ hS).2.1) rfl Tryz.isAgg9) (xg 1 [] rfl rfl ?_);obtain ⟨r, hr⟩ : ∃ r, findR (txt l) t fr = r := ⟨_, rfl⟩;refine g_c1 (m_find (txt l) t fr hx hle) (fun w2 hS => (hTk _ hS).2.2) rfl rfl rfl ?_;rw [hr];refine xg 3 [] rfl rfl (g_alloc rfl rfl Tryz.zeroValue59 rfl (fun b1 => ?_));refine xg 2 [0] rfl (by omega) (n_ (t_ (s_ (s_ (o_ ?_)))));refine xg 2 [] rfl rfl (n_ (t_ ?_));first | refine g_casep 17 rfl (fun h1 => ?_) fun h1 => ?_ | refine g_caseb 17 rfl (fun h1 => ?_) fun h1 => ?_
  ·refine g_cond_t rfl (g_ret (g_then_ret (g_in_ret (g_then_ret (g_in_ret (g_end0 Tryz.results25 ?_))))));have hr2 : r.2 = false := by simpa using h1
   rw [alls_no (by rw [hr]; exact hr2)] at hms;obtain rfl : k = (allM l t).length := by have := List.drop_eq_nil_iff.1 hms; omega
   exact fun w2 hS => ⟨⟨_, rfl⟩, .inl (by rw [List.length_map]; exact hclo _ _ _ hE hS.below)⟩
  refine g_cond_f rfl (g_skip (t_ (s_ ?_)));have hr2 : r.2 = true := by simpa using h1
  have hf := find_fact (x := txt l) (t := t) (fr := fr) (by omega) (by rw [hr]; exact hr2);rw [hr] at hf;obtain ⟨f, rfl⟩ : ∃ f0, f = f0 + 1 := ⟨f - 1, by have : (txt l).n = l.length := rfl; omega⟩;rw [alls, hr, if_pos hr2] at hms;have hn0 : (txt l).n = l.length := rfl;refine o_ (xg 2 [0] rfl (by omega) ?_);refine g_alloc rfl rfl Tryz.zeroValue57 rfl (fun b2 => (xg 1 [0] rfl (by omega) ?_));refine n_ (t_ (s_ (s_ (o_ (xg 5 [0,0,0] rfl (by omega) ?_)))));refine n_ (t_ (g_casep 24 rfl (fun h2 => ?_) fun h2 => ?_))
  ·refine g_cond_t rfl (s_ (o_ (xg 4 [0] rfl (by omega) ?_)));refine n_ (t_ (s_ (s_ (o_ (xg 4 [0,0] rfl (by omega) ?_)))));refine n_ (t_ (g_casep 31 rfl (fun h3 => ?_) fun h3 => ?_))
   ·refine g_cond_t rfl (g_exit (g_then_exit (g_then_exit (g_in_exit ?_))));rw [if_pos h2, if_pos h3] at hms;exact g_again ⟨(k, f, (r.1 0).2 + 1, en), hms, by dsimp only; omega, by dsimp only; omega, by dsimp only; omega, by dsimp only; omega⟩ [0, 1, 2, 4, 5] (by dsimp only; omega) rfl (fun w2 h => hclo k _ _ hE h.below)
   refine g_cond_f rfl (g_skip (t_ (o_ (xg 1 [] rfl rfl ?_))));refine n_ (t_ (s_ ?_));rw [if_pos h2, if_neg h3] at hms;obtain ⟨hk1, hk2, hk3⟩ := drop_next hms;refine g_split 2 rfl (xg 2 [1] rfl (by omega) ?_);refine qn_ (g_yield (S1 := E (k + 1)) (S2 := X k) rfl rfl rfl rfl (fun w2 hS => hround k (.agg (spC r.1).toArray) (by rw [List.getElem?_map, hk1]; rfl) w2 (hclo k _ _ hE hS.below)) ?_ ?_)
   ·refine g_val rfl rfl rfl (y_lit false (y_not rfl) rfl) (n_ (t_ (g_cond_f rfl (g_skip (g_in_normal ?_)))));exact g_again ⟨(k + 1, f, (r.1 0).2 + 1, -1), hk2, by dsimp only; omega, by dsimp only; omega, by dsimp only; omega, by dsimp only; omega⟩ [0, 1, 2, 4, 5] (by dsimp only; omega) rfl (fun w2 h => h)
   ·refine g_val rfl rfl rfl (y_lit true (y_not rfl) rfl) (n_ (t_ (g_cond_t rfl (g_ret (g_in_ret (g_then_ret (g_in_ret ?_)))))));refine g_end0 Tryz.results25 ?_;exact fun w2 hS => ⟨⟨_, rfl⟩, .inr ⟨k, by rw [List.length_map]; exact hk3, hS⟩⟩
  refine g_cond_f rfl (g_quiet (by kernel_rfl) (by kernel_rfl) ?_);refine xq 6 [0,0] rfl (by omega) (q_nil (t_ (s_ ?_)));rw [if_neg h2] at hms;obtain ⟨hk1, hk2, hk3⟩ := drop_next hms;refine g_split 2 rfl (xg 2 [1] rfl (by omega) ?_);refine qn_ (g_yield (S1 := E (k + 1)) (S2 := X k) rfl rfl rfl rfl (fun w2 hS => hround k (.agg (spC r.1).toArray) (by rw [List.getElem?_map, hk1]; rfl) w2 (hclo k _ _ hE hS.below)) ?_ ?_)
  ·refine g_val rfl rfl rfl (y_lit false (y_not rfl) rfl) (n_ (t_ (g_cond_f rfl (g_skip (g_in_normal ?_)))));exact g_again ⟨(k + 1, f, (r.1 0).2, (r.1 0).2), hk2, by dsimp only; omega, by dsimp only; omega, by dsimp only; omega, by dsimp only; omega⟩ [0, 1, 2, 4, 5] (by dsimp only; omega) rfl (fun w2 h => h)
  ·refine g_val rfl rfl rfl (y_lit true (y_not rfl) rfl) (n_ (t_ (g_cond_t rfl (g_ret (g_in_ret (g_then_ret (g_in_ret ?_)))))));refine g_end0 Tryz.results25 ?_;exact fun w2 hS => ⟨⟨_, rfl⟩, .inr ⟨k, by rw [List.length_map]; exact hk3, hS⟩⟩
end Go.Proofs.YtjdmdpjbijkjaaaGreat

namespace Go.Proofs.YtjdmdpjbijkjaaaGreat
open Go Go.RowKit
theorem alls_ord {x : Tx} {t : MT} : ∀ (f : Nat) (fr en : Int), 0 ≤ fr → (∀ (k : Nat) m, (alls x t f fr en)[k]? = some m → fr ≤ (m 0).1 ∧ (m 0).1 ≤ (m 0).2 ∧ (m 0).2 ≤ x.n) ∧ (∀ (k : Nat) m m', (alls x t f fr en)[k]? = some m → (alls x t f fr en)[k + 1]? = some m' → (m 0).2 ≤ (m' 0).1)
  | 0, _, _, _ => ⟨fun _ _ h => by simp [alls] at h, fun _ _ _ h => by simp [alls] at h⟩
  | f + 1, fr, en, h0 => by
    have key : ∀ (fr' en' : Int), ((findR x t fr).1 0).2 ≤ fr' → fr ≤ ((findR x t fr).1 0).1 ∧ ((findR x t fr).1 0).1 ≤ ((findR x t fr).1 0).2 ∧ ((findR x t fr).1 0).2 ≤ x.n →
        (∀ (k : Nat) m, ((findR x t fr).1 :: alls x t f fr' en')[k]? = some m → fr ≤ (m 0).1 ∧ (m 0).1 ≤ (m 0).2 ∧ (m 0).2 ≤ x.n) ∧ (∀ (k : Nat) m m', ((findR x t fr).1 :: alls x t f fr' en')[k]? = some m → ((findR x t fr).1 :: alls x t f fr' en')[k + 1]? = some m' → (m 0).2 ≤ (m' 0).1) := by
      intro fr' en' h1 h2;obtain ⟨i1, i2⟩ := alls_ord f fr' en' (by omega);refine ⟨fun k m h => ?_, fun k m m' h h' => ?_⟩
      · cases k with
        | zero => simp at h; subst h; exact h2
        | succ k => rw [List.getElem?_cons_succ] at h; have := i1 k m h; omega
      · rw [List.getElem?_cons_succ] at h';cases k with
        | zero => simp at h; subst h; have := i1 0 m' h'; omega
        | succ k => rw [List.getElem?_cons_succ] at h; exact i2 k m m' h h'
    rw [alls];split
    · rename_i hr
      have hf := find_fact h0 hr;split
      · split
        · obtain ⟨i1, i2⟩ := alls_ord f (((findR x t fr).1 0).2 + 1) en (by omega);exact ⟨fun k m h => by have := i1 k m h; omega, i2⟩
        · exact key _ _ (by omega) hf
      · exact key _ _ (by omega) hf
    · exact ⟨fun _ _ h => by simp at h, fun _ _ _ h => by simp at h⟩
def mAt (ms : List Spn) (k : Nat) : Spn := ms.getD k m0
theorem mAt_eq {ms : List Spn} {k : Nat} {m : Spn} (h : ms[k]? = some m) : mAt ms k = m := by unfold mAt; rw [List.getD_eq_getElem?_getD, h]; rfl
def rS (ct : Int) (l : List UInt8) (fm : Spn → List UInt8) (ms : List Spn) : Nat → Int × Int × List UInt8
  | 0 => (0, 0, [])
  | k + 1 => if (k : Int) + 1 < ct then rS ct l fm ms k else ((mAt ms k 0).2, (rS ct l fm ms k).2.1 + 1, ((rS ct l fm ms k).2.2 ++ (l.take (mAt ms k 0).1.toNat).drop (rS ct l fm ms k).1.toNat) ++ fm (mAt ms k))
def brk (gl : Bool) (ct : Int) (l : List UInt8) (fm : Spn → List UInt8) (ms : List Spn) (k : Nat) : Prop := ¬ (k : Int) + 1 < ct ∧ (gl = false ∨ 1024 < (rS ct l fm ms (k + 1)).2.2.length)
def Kok (gl : Bool) (ct : Int) (l : List UInt8) (fm : Spn → List UInt8) (ms : List Spn) (K : Nat) : Prop :=
  (K = ms.length ∧ ∀ j, j < K → ¬ brk gl ct l fm ms j) ∨ ∃ k, K = k + 1 ∧ k < ms.length ∧ brk gl ct l fm ms k ∧ ∀ j, j < k → ¬ brk gl ct l fm ms j
def RP (ct : Int) (gl : Bool) (l : List UInt8) (fm : Spn → List UInt8) (ms : List Spn) (x : List UInt8 × Int × Int) : Prop :=
  (ct < 1 ∧ x = ([], 0, 1)) ∨ (1 ≤ ct ∧ 1024 < l.length ∧ x = ([], 0, 161)) ∨ (1 ≤ ct ∧ l.length ≤ 1024 ∧ ∃ K, Kok gl ct l fm ms K ∧
    ((1024 < ((rS ct l fm ms K).2.2 ++ l.drop (rS ct l fm ms K).1.toNat).length ∧ x = ([], 0, 161)) ∨ (((rS ct l fm ms K).2.2 ++ l.drop (rS ct l fm ms K).1.toNat).length ≤ 1024 ∧ x = ((rS ct l fm ms K).2.2 ++ l.drop (rS ct l fm ms K).1.toNat, (rS ct l fm ms K).2.1, 0))))
theorem rS_at {ct : Int} {l : List UInt8} {t : MT} {fm : Spn → List UInt8} : ∀ (k : Nat), k ≤ (allM l t).length → 0 ≤ (rS ct l fm (allM l t) k).1 ∧ (rS ct l fm (allM l t) k).1 ≤ l.length ∧ ∀ m, (allM l t)[k]? = some m → (rS ct l fm (allM l t) k).1 ≤ (m 0).1
  | 0, _ => ⟨Int.le_refl _, by show (0 : Int) ≤ _; omega, fun m h => ((alls_ord (x := txt l) (t := t) (l.length + 2) 0 (-1) (Int.le_refl 0)).1 0 m h).1⟩
  | k + 1, hk => by
    obtain ⟨m, hm⟩ : ∃ m, (allM l t)[k]? = some m := ⟨_, List.getElem?_eq_getElem (show k < (allM l t).length by omega)⟩;obtain ⟨i1, i2, i3⟩ := rS_at (ct := ct) (l := l) (t := t) (fm := fm) k (by omega);have h1 := (alls_ord (x := txt l) (t := t) (l.length + 2) 0 (-1) (Int.le_refl 0)).1 k m hm;have h2 := (alls_ord (x := txt l) (t := t) (l.length + 2) 0 (-1) (Int.le_refl 0)).2 k m;have hn : ((txt l).n : Int) = l.length := rfl;have h3 := i3 m hm;rw [rS];split
    · exact ⟨i1, i2, fun m' h' => by have := h2 m' hm h'; omega⟩
    · rw [mAt_eq hm];dsimp only;exact ⟨by omega, by omega, fun m' h' => h2 m' hm h'⟩
theorem rS_len {gl : Bool} {ct : Int} {l : List UInt8} {fm : Spn → List UInt8} {ms : List Spn} : ∀ (k : Nat), (∀ j, j < k → ¬ brk gl ct l fm ms j) → (rS ct l fm ms k).2.2.length ≤ 1024
  | 0, _ => by show (0 : Nat) ≤ _; omega
  | k + 1, h => by
    have ih := rS_len k (fun j hj => h j (by omega));by_cases hc : (k : Int) + 1 < ct
    · rw [rS, if_pos hc]; exact ih
    · have h1 := h k (by omega);unfold brk at h1
      by_cases h2 : 1024 < (rS ct l fm ms (k + 1)).2.2.length
      · exact absurd ⟨hc, .inr h2⟩ h1
      · omega
theorem rS_skip {ct : Int} {l : List UInt8} {fm : Spn → List UInt8} {ms : List Spn} {k : Nat} (h : (k : Int) + 1 < ct) : rS ct l fm ms (k + 1) = rS ct l fm ms k := by rw [rS, if_pos h]
theorem rS_take {ct : Int} {l : List UInt8} {fm : Spn → List UInt8} {ms : List Spn} {k : Nat} {m : Spn} (h : ¬ (k : Int) + 1 < ct) (hm : ms[k]? = some m) : rS ct l fm ms (k + 1) = ((m 0).2, (rS ct l fm ms k).2.1 + 1, ((rS ct l fm ms k).2.2 ++ (l.take (m 0).1.toNat).drop (rS ct l fm ms k).1.toNat) ++ fm m) := by rw [rS, if_neg h, mAt_eq hm]
theorem len_b {W0 w : World} {F : List Nat} {L : List Ent} {b : Nat} {p v : Value} {l : List UInt8} (i j : Nat) (hij : i ≠ j) (hS : St W0 F L w) (hi : L[i]? = some (.cells b 52 [p, v])) (hj : L[j]? = some (.bytes 5 v l)) (hp : bOk b p) :
    Calls Tryz.prog 16 #[.pointer (some ⟨b, 0, none⟩)] w fun e w' => e = .returned (.int .i64 (l.length : Int)) ∧ w' = w := by
  have hb := hS.cells hi;have hr : w.ownsRow 0 5 1 v l.length (bcells l) := hS.get hj
  have hne : v.ownBlock ≠ some b := fun e => by
    have hil : i < L.length := (List.getElem?_eq_some_iff.1 hi).1;have hjl : j < L.length := (List.getElem?_eq_some_iff.1 hj).1;have e1 := (List.getElem?_eq_some_iff.1 hi).2;have e2 := (List.getElem?_eq_some_iff.1 hj).2;rcases Nat.lt_or_ge i j with h | h
    · exact (List.pairwise_iff_getElem.1 hS.apart i j hil hjl h) b (by rw [e1]; simp [Ent.fp]) (by rw [e2]; simp [Ent.fp, e])
    · exact (List.pairwise_iff_getElem.1 hS.apart j i hjl hil (by omega)) b (by rw [e2]; simp [Ent.fp, e]) (by rw [e1]; simp [Ent.fp])
  have hl : (Lib.byteCells l).length = l.length := by simp [Lib.byteCells]
  have hat : Lib.BuilderAtF 52 5 0 b p (Lib.byteCells l) w := ⟨Nat.zero_le _, v, hb, by rw [hl]; exact World.ownsRowF_of hr, hne⟩
  have hI : Lib.IsBuilderF 52 5 0 b (Lib.byteCells l) w := by
    rcases hp with rfl | rfl
    · exact .inl hat
    · exact .inr hat
  refine (Tryz.Builder_Len_f 0 b (Lib.byteCells l) w hI).mono ?_;rintro e w' ⟨he, hw⟩;exact ⟨by rw [he, hl], hw⟩
theorem str_keep {W0 w w' : World} {L : List Ent} {b d c : Nat} {p v u : Value} (i j k : Nat) (hS : St W0 [] L w) (hi : L[i]? = some (.cells b 52 [p, v])) (hj : L[j]? = some (objE d (.deferred (some [])))) (hk : L[k]? = some (.cells c 3 [u])) (hb : Below W0.heap.size W0 w') (ho : Lib.OthersKept 5 (some b) w w') : St W0 [] [objE d (.deferred (some [])), .cells c 3 [u]] w' := by
  have h1 := hS.cells hi;have h2 := hS.obj j hj;have h3 := hS.cells hk;have h2' := ho d _ h2 (fun e => by cases e; rw [h1] at h2; cases h2) (fun _ _ e => by cases e);have h3' := ho c _ h3 (fun e => by cases e; rw [h1] at h3; cases h3) (fun _ _ e => by cases e);have own : ∀ (e : Ent) (n : Nat), L[n]? = some e → ∀ k ∈ e.fp, W0.heap.size ≤ k ∨ k ∈ ([] : List Nat) := fun e n hn => hS.own e (List.mem_of_getElem? hn);refine ⟨hb.os, hb.tape, hb.output, hb.size, fun k hk _ => hb.block k hk, fun e he => ?_, fun e he => ?_, ?_⟩
  · simp only [List.mem_cons, List.not_mem_nil, or_false] at he;rcases he with rfl | rfl
    · exact h2'
    · exact h3'
  · simp only [List.mem_cons, List.not_mem_nil, or_false] at he;rcases he with rfl | rfl
    · exact own _ j hj
    · exact own _ k hk
  · refine List.pairwise_cons.2 ⟨fun y hy q hq hqy => ?_, List.pairwise_cons.2 ⟨fun _ h => (by cases h), List.Pairwise.nil⟩⟩;simp only [List.mem_cons, List.not_mem_nil, or_false] at hy;subst hy;simp [Ent.fp, objE] at hq hqy
    subst hq hqy;rw [h2] at h3; cases h3
set_option maxRecDepth 100000 in
theorem matches_any (t : MT) (l : List UInt8) (w : World) : Calls Tryz.prog 13 #[.agg (nC t).toArray, st8 l] w fun e w' => ∃ y : Nat × Nat, e = .returned (.func (.func 25) #[] #[.pointer (some ⟨y.1, 0, none⟩), .pointer (some ⟨y.2, 0, none⟩)]) ∧ St w [] [.cells y.1 31 (nC t), .cells y.2 9 [st8 l]] w' := by
 refine fn_intro Tryz.func13 rfl Tryz.ntmps13 rfl rfl (s_ (o_ ?_));refine g_box rfl rfl rfl rfl (fun b1 => (g_box rfl rfl rfl rfl (fun b2 => ?_)));refine xg 1 [] rfl rfl (ntso_ ?_);refine g_val rfl rfl rfl (y_makeFunc rfl) (xg 1 [] rfl rfl ?_);refine n_ (t_ (g_ret (g_end1 Tryz.results13 rfl ?_)));exact fun w2 hS => ⟨(b1, b2), rfl, hS.pick [1, 0] rfl⟩
end Go.Proofs.YtjdmdpjbijkjaaaGreat

namespace Go.Proofs.YtjdmdpjbijkjaaaGreat
open Go Go.RowKit
theorem alls_len {x : Tx} {t : MT} : ∀ (f : Nat) (fr en : Int), (alls x t f fr en).length ≤ f
  | 0, _, _ => Nat.le_refl _
  | f + 1, fr, en => by
    have h := fun a b => alls_len (x := x) (t := t) f a b;rw [alls];split
    · split
      · split
        · exact Nat.le_succ_of_le (h _ _)
        · exact Nat.succ_le_succ (h _ _)
      · exact Nat.succ_le_succ (h _ _)
    · exact Nat.zero_le _
theorem allM_len (l : List UInt8) (t : MT) : (allM l t).length ≤ l.length + 2 := alls_len _ _ _
theorem rS_dn {ct : Int} {l : List UInt8} {fm : Spn → List UInt8} {ms : List Spn} : ∀ (k : Nat), 0 ≤ (rS ct l fm ms k).2.1 ∧ (rS ct l fm ms k).2.1 ≤ k
  | 0 => ⟨Int.le_refl _, Int.le_refl _⟩
  | k + 1 => by
    have := rS_dn (ct := ct) (l := l) (fm := fm) (ms := ms) k;rw [rS];split
    · omega
    · dsimp only; omega
theorem rS_K {gl : Bool} {ct : Int} {l : List UInt8} {fm : Spn → List UInt8} {ms : List Spn} {K : Nat} {B : Nat} (hfm : ∀ m, (fm m).length ≤ B) (hK : Kok gl ct l fm ms K) : (rS ct l fm ms K).2.2.length ≤ 1024 + l.length + B := by
  rcases hK with ⟨_, h⟩ | ⟨k, rfl, _, _, h⟩
  · have := rS_len K h; omega
  · have h1 := rS_len k h;rw [rS];split
    · omega
    · have h2 := hfm (mAt ms k);rw [List.length_append, List.length_append, List.length_drop, List.length_take]; omega
namespace Rd
set_option maxRecDepth 100000 in
theorem replace_any (t : MT) (p : Option Addr) (n c : Nat) (tx : Nat → ByteArray) (nn : Nat → Int) (l : List UInt8) (ct : Int) (gl : Bool) (hx : (txt l).n ≤ 1000000) (hle : wT t ≤ 1000000) (hn : n ≤ 1000000) (hfl : ∀ m k, k ≤ n → (fillU l m tx nn k).length ≤ 1099511627776) (w : World) (hok : t.rd w) (hr : RdSl w p n 2 (pcF tx nn)) :
    Calls Tryz.prog 7 #[.agg (nC t).toArray, .slice p n c, st8 l, .int .i64 ct, .bool gl] w fun e w' => ∃ x : List UInt8 × Int × Int, RP ct gl l (fun m => fillU l m tx nn n) (allM l t) x ∧ e = .returned (.tuple #[st8 x.1, .int .i64 x.2.1, .int .i64 x.2.2]) ∧ Below w.heap.size w w' := by
 have hsz : (⟨l.toArray⟩ : ByteArray).size = l.length := by rw [size_mk]
 have hln := allM_len l t;have hn1 : (txt l).n = l.length := rfl;refine fn_introR Tryz.func7 rfl Tryz.ntmps7 rfl rfl (s_ (o_ ?_));refine g_box rfl rfl rfl rfl (fun bn => (g_box rfl rfl rfl rfl (fun bl => ?_)));refine g_box rfl rfl rfl rfl (fun bt => (g_box rfl rfl rfl rfl (fun bc => ?_)));refine g_box rfl rfl rfl rfl (fun bg => (xg 3 [] rfl rfl ?_));refine n_ (t_ (s_ (g_block (s_ (o_ (xg 3 [1,0] rfl (by omega) ?_))))));refine n_ (t_ (g_casep 18 rfl (fun h1 => ?_) fun h1 => ?_))
 ·refine g_cond_t rfl (s_ (o_ (xg 3 [] rfl rfl ?_)));refine n_ (t_ (g_ret (g_in_ret (g_then_ret (up_end (v := .tuple #[st8 [], .int .i64 0, .int .i64 1]) (fun a w2 hR _ => by simp [results, Tryz.results7, hR.getD (t := 10) rfl, hR.getD (t := 11) rfl, hR.getD (t := 12) rfl]; rfl) ?_)))));exact fun w2 hS => ⟨([], 0, 1), .inl ⟨by omega, rfl⟩, rfl, hS.below⟩
 refine g_cond_f rfl (s_ (o_ (xg 4 [2,0] rfl (by omega) ?_)));refine n_ (t_ (g_casep 21 rfl (fun h2 => ?_) fun h2 => ?_))
 ·refine g_cond_t rfl (s_ (o_ (xg 3 [] rfl rfl ?_)));refine n_ (t_ (g_ret (g_in_ret (g_then_ret (up_end (v := .tuple #[st8 [], .int .i64 0, .int .i64 161]) (fun a w2 hR _ => by simp [results, Tryz.results7, hR.getD (t := 10) rfl, hR.getD (t := 11) rfl, hR.getD (t := 12) rfl]; rfl) ?_)))));exact fun w2 hS => ⟨([], 0, 161), .inr (.inl ⟨by omega, by omega, rfl⟩), rfl, hS.below⟩
 refine g_cond_f rfl (g_skip (g_in_normal (t_ (s_ (o_ (g_alloc rfl rfl Tryz.zeroValue52 rfl (fun bb => ?_)))))));refine g_nrm (L' := .cells bb 52 [.pointer none, .slice none 0 0] :: _) rfl (g_nilBytes 5 ?_);refine ntso_ (g_alloc rfl rfl Tryz.zeroValue3 rfl (fun ba => ?_));refine g_alloc rfl rfl Tryz.zeroValue3 rfl (fun bs => (g_alloc rfl rfl Tryz.zeroValue3 rfl (fun bd => ?_)));refine xg 3 [2,1,0] rfl (by omega) (n_ (t_ (s_ (s_ (o_ ?_)))));refine g_val (v := .agg (nC t).toArray) rfl rfl rfl (y_ldN (vs := nC t) 9 rfl Tryz.isAgg31 Tryz.sizeOf31 rfl (by rw [List.drop_zero, List.take_of_length_le (by rw [nC_len]; decide)]) (nC_len _)) (xg 1 [7] rfl (by omega) ?_);refine g_callNew (fun y : Nat × Nat => .func (.func 25) #[] #[.pointer (some ⟨y.1, 0, none⟩), .pointer (some ⟨y.2, 0, none⟩)]) (fun y => [.cells y.1 31 (nC t), .cells y.2 9 [st8 l]]) rfl rfl rfl Tryz.call13 (fun w2 hS => matches_any t l w2) ?_;rintro ⟨m1, m2⟩;dsimp only;simp only [zc0,zc1];refine n_ (t_ (g_cutD (α := {x : Nat × Nat × Obj × Nat × Value × Value // Kok gl ct l (fun m => fillU l m tx nn n) (allM l t) x.2.2.2.1 ∧ bOk bb x.2.2.2.2.1} ) (fun x => [⟨.collected x.1.2.1, #[]⟩]) (fun x => [(7, .pointer (some ⟨bt, 0, none⟩)), (13, .pointer (some ⟨bb, 0, none⟩)), (14, .pointer (some ⟨ba, 0, none⟩)), (16, .pointer (some ⟨bd, 0, none⟩)), (10, .string ByteArray.empty), (11, .int .i64 0), (12, .int .i64 0)]) (fun x => [objE x.1.1 x.1.2.2.1, objE x.1.2.1 (.deferred (some [])), .bytes 5 x.1.2.2.2.2.2 (rS ct l (fun m => fillU l m tx nn n) (allM l t) x.1.2.2.2.1).2.2, .cells bb 52 [x.1.2.2.2.2.1, x.1.2.2.2.2.2], .cells ba 3 [.int .i64 (rS ct l (fun m => fillU l m tx nn n) (allM l t) x.1.2.2.2.1).1], .cells bs 3 [.int .i64 ((x.1.2.2.2.1 : Nat) : Int)], .cells bd 3 [.int .i64 (rS ct l (fun m => fillU l m tx nn n) (allM l t) x.1.2.2.2.1).2.1], .cells m1 31 (nC t), .cells m2 9 [st8 l], .cells bl 35 [.slice p n c], .cells bt 9 [st8 l], .cells bc 3 [.int .i64 ct], .cells bg 4 [.bool gl]]) ?_ ?_))
 ·rintro ⟨⟨lr, d, o, K, y⟩, hK, hy⟩;try dsimp only
  dsimp only at hK hy;have hKl : K ≤ (allM l t).length := by rcases hK with ⟨h, _⟩ | ⟨_, h, h2, _⟩ <;> omega
  obtain ⟨hat0, hat1, _⟩ := rS_at (ct := ct) (l := l) (t := t) (fm := (fun m => fillU l m tx nn n)) K hKl;have hsl := rS_K (fun m => hfl m n (Nat.le_refl _)) hK;refine t_ (s_ (o_ (xg 2 [10,4] rfl (by omega) ?_)));refine g_val (v := st8 (l.drop (rS ct l (fun m => fillU l m tx nn n) (allM l t) K).1.toNat)) rfl rfl rfl (y_val (y_sfr rfl rfl Tryz.underlying9 (by omega) (by rw [size_mk]; omega)) (by rw [size_mk, show (l.length : Nat) = ((l.length : Nat) : Int).toNat by omega, ext8 l (by omega) (by omega) (by omega), Int.toNat_natCast, List.take_length]; rfl)) (g_cm [3,2] (m_ws bb y.1 y.2 (rS ct l (fun m => fillU l m tx nn n) (allM l t) K).2.2 (l.drop (rS ct l (fun m => fillU l m tx nn n) (allM l t) K).1.toNat) hy ((by rw [List.length_drop]; omega))) any_I rfl rfl rfl rfl (fun v8 => ?_));simp only [zc0,zc1];refine n_ (t_ (s_ (s_ (o_ (g_call (fun _ : Unit => .int .i64 (((rS ct l (fun m => fillU l m tx nn n) (allM l t) K).2.2 ++ l.drop (rS ct l (fun m => fillU l m tx nn n) (allM l t) K).1.toNat).length : Int)) (fun _ => _) rfl rfl rfl Tryz.call16 (fun w2 hS => (len_b 0 1 (by decide) hS rfl rfl (bOk_own bb)).mono fun e w3 ⟨he, hw⟩ => ⟨(), he, by rw [hw]; exact hS⟩) (fun _ => ?_))))));refine xg 1 [0] rfl rfl (n_ (t_ ?_));refine g_casep 62 rfl (fun h3 => ?_) fun h3 => ?_
  ·refine g_cond_t rfl (s_ (o_ (xg 3 [] rfl rfl ?_)));refine n_ (t_ (g_ret (g_then_ret (up_endM 3 rfl (v := .tuple #[st8 [], .int .i64 0, .int .i64 161]) (fun a w2 hR _ => by simp [results, Tryz.results7, hR.getD (t := 10) rfl, hR.getD (t := 11) rfl, hR.getD (t := 12) rfl]; rfl) ?_))));exact fun w2 hS => ⟨([], 0, 161), .inr (.inr ⟨by omega, by omega, K, hK, .inl ⟨by omega, rfl⟩⟩), rfl, hS.below⟩
  refine g_cond_f rfl (g_skip (t_ (s_ (k_go [3,5] rfl (by kernel_rfl) (fun _ _ _ _ _ h => h) fun hQ => ?_))));refine k_xc 1 [3,5] [1] hQ (by kernel_rfl) rfl rfl rfl rfl rfl rfl (by omega) (k_one 0 (by kernel_rfl) ?_);refine k_op 0 rfl (g_call (fun _ : Unit => st8 ((rS ct l (fun m => fillU l m tx nn n) (allM l t) K).2.2 ++ l.drop (rS ct l (fun m => fillU l m tx nn n) (allM l t) K).1.toNat)) (fun _ => St w [] [objE d (.deferred (some [])), .cells bd 3 [.int .i64 (rS ct l (fun m => fillU l m tx nn n) (allM l t) K).2.1]]) rfl rfl rfl Tryz.call17 (fun w2 hS => (str_b 0 1 (by decide) hS rfl rfl (bOk_own bb)).mono fun e w3 ⟨he, hb, ho⟩ => ⟨(), he, str_keep 0 3 6 hS rfl rfl rfl hb ho⟩) (fun _ => ?_));refine k_nil (k_end (zpk [0,0] rfl) ?_);refine k_x 2 [0,0] [] hQ (by kernel_rfl) rfl rfl rfl rfl rfl rfl (k_x 3 [0,0] [] hQ (by kernel_rfl) rfl rfl rfl rfl rfl rfl ?_);refine k_x 4 [0,0] [] hQ (by kernel_rfl) rfl rfl rfl rfl rfl rfl (k_done (by kernel_rfl) ?_);refine t_ (g_ret (up_endM 0 rfl (v := .tuple #[st8 ((rS ct l (fun m => fillU l m tx nn n) (allM l t) K).2.2 ++ l.drop (rS ct l (fun m => fillU l m tx nn n) (allM l t) K).1.toNat), .int .i64 (rS ct l (fun m => fillU l m tx nn n) (allM l t) K).2.1, .int .i64 0]) (fun a w2 hR _ => by simp [results, Tryz.results7, hR.getD (t := 10) rfl, hR.getD (t := 11) rfl, hR.getD (t := 12) rfl]) ?_));exact fun w2 hS => ⟨_, .inr (.inr ⟨by omega, by omega, K, hK, .inr ⟨by omega, rfl⟩⟩), rfl, hS.below⟩
 intro hj;refine g_block (G.weaken (fun w2 hS2 => hS2.pick [5,5,4,3,2,0,0,3,2,1,0] rfl) ?_);refine g_range 1 (fun k (y : Value × Value) => [.bytes 5 y.2 (rS ct l (fun m => fillU l m tx nn n) (allM l t) k).2.2, .cells bb 52 [y.1, y.2], .cells ba 3 [.int .i64 (rS ct l (fun m => fillU l m tx nn n) (allM l t) k).1], .cells bs 3 [.int .i64 ((k : Nat) : Int)], .cells bd 3 [.int .i64 (rS ct l (fun m => fillU l m tx nn n) (allM l t) k).2.1], .cells m1 31 (nC t), .cells m2 9 [st8 l], .cells bl 35 [.slice p n c], .cells bt 9 [st8 l], .cells bc 3 [.int .i64 ct], .cells bg 4 [.bool gl]]) (fun k y => bOk bb y.1 ∧ ∀ j, j < k → ¬ brk gl ct l (fun m => fillU l m tx nn n) (allM l t) j) (fun k y => bOk bb y.1 ∧ brk gl ct l (fun m => fillU l m tx nn n) (allM l t) k ∧ ∀ j, j < k → ¬ brk gl ct l (fun m => fillU l m tx nn n) (allM l t) j) (.pointer none, .slice none 0 0) rfl Tryz.call25 rfl (iter_ok m1 m2 t l hx hle) (fun k A B y w2 hS => ⟨hS.cells (i := 7) rfl, hS.cells (i := 8) rfl, hS.okOf hok (fun _ _ => List.not_mem_nil)⟩) rfl ⟨.inl rfl, fun j hj => by omega⟩ (fun w2 => RdSl w2 p n 2 (pcF tx nn)) (fun L2 w2 hS => rd_keepF hr List.not_mem_nil hS) ?_ ?_ ?_
 ·intro W Fb lr d o o2 k x y hy hx2 hT3
  obtain ⟨m, hm, rfl⟩ : ∃ m, (allM l t)[k]? = some m ∧ x = .agg (spC m).toArray := by
    rw [List.getElem?_map] at hx2;cases hm : (allM l t)[k]? with
    | none => rw [hm] at hx2; cases hx2
    | some m => rw [hm] at hx2; cases hx2; exact ⟨m, rfl, rfl⟩
  have hkl : k < (allM l t).length := (List.getElem?_eq_some_iff.1 hm).1;obtain ⟨hat0, hat1, hat2⟩ := rS_at (ct := ct) (l := l) (t := t) (fm := (fun m => fillU l m tx nn n)) k (by omega);have hat3 := hat2 m hm;have hdn := rS_dn (ct := ct) (l := l) (fm := (fun m => fillU l m tx nn n)) (ms := allM l t) k;have hat4 := (alls_ord (x := txt l) (t := t) (l.length + 2) 0 (-1) (Int.le_refl 0)).1 k m hm;have hn0 : ((txt l).n : Int) = l.length := rfl;have hsl := rS_len (gl := gl) (ct := ct) (l := l) (fm := (fun m => fillU l m tx nn n)) (ms := allM l t) k hy.2;refine o_ (g_alloc rfl rfl Tryz.zeroValue59 rfl (fun bm => ?_));refine xg 1 [0] rfl (by omega) (n_ (t_ ?_));refine g_put 1 rfl ?_;simp only [zs0,zs1];refine g_block (s_ (s_ (o_ (xg 3 [6,6] rfl (by omega) ?_))));refine ntso_ (xg 3 [6,12,0] rfl (by omega) ?_);refine n_ (t_ (g_casep 33 rfl (fun h4 => ?_) fun h4 => ?_))
  ·refine g_cond_t rfl (g_exit (g_then_exit (g_in_exit ?_)));have e1 := rS_skip (l := l) (fm := (fun m => fillU l m tx nn n)) (ms := allM l t) h4;refine fun a2 w2 _ hS2 => ⟨y, ⟨hy.1, fun j hj => ?_⟩, by (try dsimp only); rw [e1]; exact hS2.pick [1,1,1,1,1,1,1,1,1,1,1,1,1] rfl⟩;by_cases ej : j < k
   · exact hy.2 j ej
   obtain rfl : j = k := by omega
   rintro ⟨hb1, hb2⟩;exact hb1 h4
  refine g_cond_f rfl (g_skip (t_ (s_ (o_ (xg 5 [11,5,0] rfl (by omega) ?_)))));refine g_val (v := st8 ((l.take (m 0).1.toNat).drop (rS ct l (fun m => fillU l m tx nn n) (allM l t) k).1.toNat)) rfl rfl rfl (y_val (y_ssl rfl rfl rfl Tryz.underlying9 (by omega) (by omega) (by rw [size_mk]; omega)) (by rw [ext8 l (by omega) (by omega) (by omega)]; rfl)) (g_cm [4,3] (m_ws bb y.1 y.2 (rS ct l (fun m => fillU l m tx nn n) (allM l t) k).2.2 ((l.take (m 0).1.toNat).drop (rS ct l (fun m => fillU l m tx nn n) (allM l t) k).1.toNat) hy.1 ((by rw [List.length_drop, List.length_take]; omega))) any_I rfl rfl rfl rfl (fun v10 => ?_));simp only [zc0,zc1];refine ntso_ (xg 3 [10,11,2] rfl (by omega) ?_);refine g_c1 (m_fill p n c tx nn l m hn (fun k hk => Nat.le_trans (hfl m k hk) (by decide))) (fun w2 hS => hT3 _ w2 hS) rfl rfl rfl (g_cm [0,0] (m_ws bb (.pointer (some ⟨bb, 0, none⟩)) v10 ((rS ct l (fun m => fillU l m tx nn n) (allM l t) k).2.2 ++ (l.take (m 0).1.toNat).drop (rS ct l (fun m => fillU l m tx nn n) (allM l t) k).1.toNat) (fillU l m tx nn n) (bOk_own bb) ((by have := hfl m n (Nat.le_refl _); rw [List.length_append, List.length_drop, List.length_take]; omega))) any_I rfl rfl rfl rfl (fun v11 => ?_));simp only [zc0,zc1];refine ntso_ (xg 4 [2,5] rfl (by omega) ?_);refine ntso_ (xg 3 [7,7] rfl (by omega) ?_);refine ntso_ (xg 3 [13] rfl (by omega) ?_);first | refine g_casep 53 rfl (fun h5 => ?_) fun h5 => ?_ | refine g_caseb 53 rfl (fun h5 => ?_) fun h5 => ?_
  ·refine xg 3 [] rfl rfl (n_ (t_ (g_cond_t rfl (g_exit (g_in_exit_ne rfl ?_)))));have e1 := rS_take (l := l) (fm := (fun m => fillU l m tx nn n)) h4 hm;exact fun a2 w2 _ hS2 => ⟨rfl, (.pointer (some ⟨bb, 0, none⟩), v11), ⟨bOk_own bb, ⟨h4, .inl (by simpa using h5)⟩, hy.2⟩, by (try dsimp only); rw [e1]; exact hS2.pick [3,3,1,0,1,1,1,1,1,1,1,1,1] rfl⟩
  refine g_call (fun _ : Unit => .int .i64 ((((rS ct l (fun m => fillU l m tx nn n) (allM l t) k).2.2 ++ (l.take (m 0).1.toNat).drop (rS ct l (fun m => fillU l m tx nn n) (allM l t) k).1.toNat) ++ fillU l m tx nn n).length : Int)) (fun _ => _) rfl rfl rfl Tryz.call16 (fun w2 hS => (len_b 0 1 (by decide) hS rfl rfl (bOk_own bb)).mono fun e w3 ⟨he, hw⟩ => ⟨(), he, by rw [hw]; exact hS⟩) (fun _ => (xg 2 [0] rfl rfl ?_));refine n_ (t_ (g_casep 56 rfl (fun h6 => ?_) fun h6 => ?_))
  ·refine g_cond_t rfl (g_exit (g_in_exit_ne rfl ?_));have e1 := rS_take (l := l) (fm := (fun m => fillU l m tx nn n)) h4 hm;exact fun a2 w2 _ hS2 => ⟨rfl, (.pointer (some ⟨bb, 0, none⟩), v11), ⟨bOk_own bb, ⟨h4, .inr (by rw [e1]; (try dsimp only); omega)⟩, hy.2⟩, by (try dsimp only); rw [e1]; exact hS2.pick [3,3,1,0,1,1,1,1,1,1,1,1,1] rfl⟩
  refine g_cond_f rfl (g_skip (g_in_normal ?_));have e1 := rS_take (l := l) (fm := (fun m => fillU l m tx nn n)) h4 hm;refine fun a2 w2 _ hS2 => ⟨(.pointer (some ⟨bb, 0, none⟩), v11), ⟨bOk_own bb, fun j hj => ?_⟩, by (try dsimp only); rw [e1]; exact hS2.pick [3,3,1,0,1,1,1,1,1,1,1,1,1] rfl⟩;by_cases ej : j < k
  · exact hy.2 j ej
  obtain rfl : j = k := by omega
  rintro ⟨hb1, hb2⟩;(rw [e1] at hb2; (try dsimp only at hb2); rcases hb2 with hb2 | hb2 <;> first | omega | simp [hb2] at h5)
 ·intro lr d o y hy;rw [List.length_map] at hy ⊢;refine g_in_normal ?_;exact g_fall (hj ⟨(lr, d, o, (allM l t).length, y), .inl ⟨rfl, hy.2⟩, hy.1⟩) [7, 13, 14, 16, 10, 11, 12] rfl (zpk [0,0,0,0,0,0,0,0,0,0,0,0,0] rfl)
 intro lr d o k y hkl hy;rw [List.length_map] at hkl;refine g_in_exit ?_;exact g_fall (hj ⟨(lr, d, o, k + 1, y), .inr ⟨k, rfl, hkl, hy.2⟩, hy.1⟩) [7, 13, 14, 16, 10, 11, 12] rfl (zpk [0,0,0,0,0,0,0,0,0,0,0,0,0] rfl)
end Rd
end Go.Proofs.YtjdmdpjbijkjaaaGreat

