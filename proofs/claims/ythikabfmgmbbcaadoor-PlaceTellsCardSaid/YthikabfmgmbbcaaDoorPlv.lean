/- Moved at any bits; PlaceTells. -/
import Derived.Test.YthikabfmgmbbcaaDoorPlu
namespace Go.Proofs.YthikabfmgmbbcaaDoor
open Go Go.RowKit

theorem gmoved_any (u v : Nat) (s : ByteArray) (hs : s.size ≤ 1073741824) (w : World) :
    Calls Tryd.prog 11 #[.complex .f64 u v, .string s] w fun e w' => (∃ p : { p : Nat × Nat // mvR u v s.data.toList p.1 p.2 }, e = .returned (.complex .f64 p.1.1 p.1.2) ∧ Below w.heap.size w w') := by
  refine fn_intro Tryd.func11 rfl Tryd.ntmps11 rfl rfl ?_
  refine g_seq (g_ops ?_)
  refine g_val rfl rfl rfl (y_assign rfl) ?_
  refine g_nil (g_then ?_)
  refine g_scope (α := {x : Int × Int × Int // 0 ≤ x.1 ∧ x.1 ≤ s.size ∧ -1 ≤ x.2.2 ∧ x.2.2 < x.1 ∧ (x.2.1 = 0 → x.2.2 = -1) ∧ 0 ≤ x.2.1 ∧ lcL (pre s x.1) = (x.2.1, x.1 - 1 - x.2.2)}) (fun z => match z with | x => [(0, .complex .f64 u v), (1, .string s), (5, .int .i64 x.1.2.1), (6, .int .i64 x.1.2.2), (7, .int .i64 x.1.1)]) (fun z => match z with | x => St w [] []) (fun z => match z with | x => 0) (fun z => match z with | x => s.size - x.1.1.toNat) ?_ ?_
  · skip
    refine g_seq (g_ops ?_)
    refine g_val rfl rfl rfl (y_assign rfl) ?_
    refine g_val rfl rfl rfl (y_assign rfl) ?_
    refine g_nil (g_then (g_seq (g_ops ?_)))
    refine g_val rfl rfl rfl (y_assign rfl) ?_
    refine g_nil (g_then (g_seq (g_label ?_)))
    have hc0 : lcL (pre s 0) = (0, 0 - 1 - (-1)) := by rw [pre_0]; rfl
    refine g_then (g_seq (g_seq (g_ops ?_)))
    refine g_val rfl rfl rfl (y_move rfl) ?_
    refine g_val rfl rfl rfl (y_move rfl) ?_
    refine g_val rfl rfl rfl (y_slen rfl Tryd.underlying9) ?_
    refine g_val rfl rfl rfl (y_ilt rfl rfl) ?_
    refine g_nil (g_then ?_)
    first | refine g_casep 11 rfl (fun h1 => ?_) (fun h1 => ?_) | refine g_caseb 11 rfl (fun h1 => ?_) (fun h1 => ?_)
    · skip
      refine g_cond_t rfl (g_seq (g_seq (g_ops ?_)))
      refine g_val rfl rfl rfl (y_move rfl) ?_
      refine g_val rfl rfl rfl (y_move rfl) ?_
      refine g_val rfl rfl rfl (y_sat rfl rfl Tryd.underlying9 (by omega) (by omega)) ?_
      refine g_val rfl rfl rfl (y_ieq rfl rfl) ?_
      refine g_nil (g_then ?_)
      first | refine g_casep 15 rfl (fun h2 => ?_) (fun h2 => ?_) | refine g_caseb 15 rfl (fun h2 => ?_) (fun h2 => ?_)
      · skip
        refine g_cond_t rfl (g_ops ?_)
        refine g_val rfl rfl rfl (y_move rfl) ?_
        refine g_val rfl rfl rfl (by first | exact y_addi rfl rfl (by first | omega | (simp only [size_mk, ByteArray.size_append, ByteArray.size_extract]; omega)) | exact y_iadd rfl rfl) ?_
        refine g_val rfl rfl rfl (y_move rfl) ?_
        refine g_val rfl rfl rfl (y_assign rfl) ?_
        refine g_val rfl rfl rfl (y_assign rfl) ?_
        refine g_nil (g_then (g_seq (g_ops ?_)))
        refine g_val rfl rfl rfl (y_move rfl) ?_
        refine g_val rfl rfl rfl (by first | exact y_addi rfl rfl (by first | omega | (simp only [size_mk, ByteArray.size_append, ByteArray.size_extract]; omega)) | exact y_iadd rfl rfl) ?_
        refine g_val rfl rfl rfl (y_assign rfl) ?_
        refine g_nil (g_then (g_goto (g_then_goto ?_)))
        exact g_jump ⟨(0 + 1, _, _), by dsimp only; omega, by dsimp only; omega, by dsimp only; omega, by dsimp only; omega, by dsimp only; omega, by dsimp only; omega, by dsimp only; first | (rw [lc_10 s 0 (by omega) (by omega) (by omega), hc0]; refine Prod.ext rfl ?_; show (0 : Int) = _; omega) | (rw [lc_n s 0 (by omega) (by omega) (by omega), hc0]; refine Prod.ext rfl ?_; show 0 - 1 - (-1) + 1 = _; omega)⟩ [0, 1, 5, 6, 7] rfl (fun j hj => by cases hj) rfl (fun w h => h.sub .slnil)
      · skip
        refine g_cond_f rfl (g_skip (g_then (g_seq (g_ops ?_))))
        refine g_val rfl rfl rfl (y_move rfl) ?_
        refine g_val rfl rfl rfl (by first | exact y_addi rfl rfl (by first | omega | (simp only [size_mk, ByteArray.size_append, ByteArray.size_extract]; omega)) | exact y_iadd rfl rfl) ?_
        refine g_val rfl rfl rfl (y_assign rfl) ?_
        refine g_nil (g_then (g_goto (g_then_goto ?_)))
        exact g_jump ⟨(0 + 1, _, _), by dsimp only; omega, by dsimp only; omega, by dsimp only; omega, by dsimp only; omega, by dsimp only; omega, by dsimp only; omega, by dsimp only; first | (rw [lc_10 s 0 (by omega) (by omega) (by omega), hc0]; refine Prod.ext rfl ?_; show (0 : Int) = _; omega) | (rw [lc_n s 0 (by omega) (by omega) (by omega), hc0]; refine Prod.ext rfl ?_; show 0 - 1 - (-1) + 1 = _; omega)⟩ [0, 1, 5, 6, 7] rfl (fun j hj => by cases hj) rfl (fun w h => h.sub .slnil)
    · skip
      refine g_cond_f rfl (g_skip (g_then (g_seq (g_seq (g_ops ?_)))))
      refine g_val rfl rfl rfl (y_move rfl) ?_
      refine g_val rfl rfl rfl (y_lit true (y_ieq rfl rfl) (by decide)) ?_
      refine g_nil (g_then (g_cond_t rfl (g_seq (g_ops ?_))))
      refine g_val rfl rfl rfl (y_move rfl) ?_
      refine g_val rfl rfl rfl (y_real rfl) ?_
      refine g_val rfl rfl rfl (y_move rfl) ?_
      refine g_val rfl rfl rfl (y_imag rfl) ?_
      refine g_val rfl rfl rfl (y_move rfl) ?_
      refine g_val rfl rfl rfl (y_slen rfl Tryd.underlying9) ?_
      refine g_val rfl rfl rfl (y_toF rfl Tryd.underlying3 Tryd.underlying29) ?_
      refine g_fadd rfl rfl rfl rfl (fun r1 hr1 => ?_)
      refine g_val rfl rfl rfl (y_cplx rfl rfl) ?_
      refine g_val rfl rfl rfl (y_assign rfl) ?_
      refine g_nil (g_then (g_ret (g_then_ret (g_jumps_ret ?_))))
      refine g_end1 Tryd.results11 rfl ?_
      first | exact fun w hS => ⟨⟨(u, r1), by unfold mvR; rw [← pre_all s 0 (by omega), hc0]; dsimp only; rw [if_pos (by omega)]; refine ⟨rfl, ?_⟩; first | exact hr1 | (rw [show 0 - 1 - (-1) = (s.size : Int) by omega]; exact hr1)⟩, rfl, hS.below⟩ | exact fun w hS => ⟨⟨(r1, fl ((s.size : Int) - (-1))), by unfold mvR; rw [← pre_all s 0 (by omega), hc0]; dsimp only; rw [if_neg (by omega)]; refine ⟨hr1, ?_⟩; rw [show 0 - 1 - (-1) + 1 = (s.size : Int) - (-1) by omega]⟩, rfl, hS.below⟩
  · rintro (x)
    · refine ⟨_, rfl, ?_⟩
      dsimp only
      obtain ⟨⟨i, n, k⟩, hx⟩ := x
      dsimp only at hx ⊢
      obtain ⟨hi0, hi1, hk0, hk1, hkn, hn0, hc⟩ := hx
      have hbd := lc_bd (pre s i)
      rw [hc] at hbd
      dsimp only at hbd
      have hpl : (pre s i).length ≤ s.size := by unfold pre; rw [List.length_take, dlen]; omega
      refine g_seq (g_skip (g_then (g_seq (g_seq (g_ops ?_)))))
      refine g_val rfl rfl rfl (y_move rfl) ?_
      refine g_val rfl rfl rfl (y_move rfl) ?_
      refine g_val rfl rfl rfl (y_slen rfl Tryd.underlying9) ?_
      refine g_val rfl rfl rfl (y_ilt rfl rfl) ?_
      refine g_nil (g_then ?_)
      first | refine g_casep 11 rfl (fun h3 => ?_) (fun h3 => ?_) | refine g_caseb 11 rfl (fun h3 => ?_) (fun h3 => ?_)
      · skip
        refine g_cond_t rfl (g_seq (g_seq (g_ops ?_)))
        refine g_val rfl rfl rfl (y_move rfl) ?_
        refine g_val rfl rfl rfl (y_move rfl) ?_
        refine g_val rfl rfl rfl (y_sat rfl rfl Tryd.underlying9 (by omega) (by omega)) ?_
        refine g_val rfl rfl rfl (y_ieq rfl rfl) ?_
        refine g_nil (g_then ?_)
        first | refine g_casep 15 rfl (fun h4 => ?_) (fun h4 => ?_) | refine g_caseb 15 rfl (fun h4 => ?_) (fun h4 => ?_)
        · skip
          refine g_cond_t rfl (g_ops ?_)
          refine g_val rfl rfl rfl (y_move rfl) ?_
          refine g_val rfl rfl rfl (by first | exact y_addi rfl rfl (by first | omega | (simp only [size_mk, ByteArray.size_append, ByteArray.size_extract]; omega)) | exact y_iadd rfl rfl) ?_
          refine g_val rfl rfl rfl (y_move rfl) ?_
          refine g_val rfl rfl rfl (y_assign rfl) ?_
          refine g_val rfl rfl rfl (y_assign rfl) ?_
          refine g_nil (g_then (g_seq (g_ops ?_)))
          refine g_val rfl rfl rfl (y_move rfl) ?_
          refine g_val rfl rfl rfl (by first | exact y_addi rfl rfl (by first | omega | (simp only [size_mk, ByteArray.size_append, ByteArray.size_extract]; omega)) | exact y_iadd rfl rfl) ?_
          refine g_val rfl rfl rfl (y_assign rfl) ?_
          refine g_nil (g_then (g_goto (g_then_goto ?_)))
          exact g_jump ⟨(i + 1, _, _), by dsimp only; omega, by dsimp only; omega, by dsimp only; omega, by dsimp only; omega, by dsimp only; omega, by dsimp only; omega, by dsimp only; first | (rw [lc_10 s i (by omega) (by omega) (by omega), hc]; refine Prod.ext rfl ?_; show (0 : Int) = _; omega) | (rw [lc_n s i (by omega) (by omega) (by omega), hc]; refine Prod.ext rfl ?_; show i - 1 - k + 1 = _; omega)⟩ [0, 1, 5, 6, 7] rfl (fun j hj => by cases hj; dsimp only; omega) rfl (fun w h => h.sub .slnil)
        · skip
          refine g_cond_f rfl (g_skip (g_then (g_seq (g_ops ?_))))
          refine g_val rfl rfl rfl (y_move rfl) ?_
          refine g_val rfl rfl rfl (by first | exact y_addi rfl rfl (by first | omega | (simp only [size_mk, ByteArray.size_append, ByteArray.size_extract]; omega)) | exact y_iadd rfl rfl) ?_
          refine g_val rfl rfl rfl (y_assign rfl) ?_
          refine g_nil (g_then (g_goto (g_then_goto ?_)))
          exact g_jump ⟨(i + 1, _, _), by dsimp only; omega, by dsimp only; omega, by dsimp only; omega, by dsimp only; omega, by dsimp only; omega, by dsimp only; omega, by dsimp only; first | (rw [lc_10 s i (by omega) (by omega) (by omega), hc]; refine Prod.ext rfl ?_; show (0 : Int) = _; omega) | (rw [lc_n s i (by omega) (by omega) (by omega), hc]; refine Prod.ext rfl ?_; show i - 1 - k + 1 = _; omega)⟩ [0, 1, 5, 6, 7] rfl (fun j hj => by cases hj; dsimp only; omega) rfl (fun w h => h.sub .slnil)
      · skip
        refine g_cond_f rfl (g_skip (g_then (g_seq (g_seq (g_ops ?_)))))
        refine g_val rfl rfl rfl (y_move rfl) ?_
        refine g_val rfl rfl rfl (y_ieq rfl rfl) ?_
        refine g_nil (g_then ?_)
        first | refine g_casep 22 rfl (fun h5 => ?_) (fun h5 => ?_) | refine g_caseb 22 rfl (fun h5 => ?_) (fun h5 => ?_)
        · skip
          refine g_cond_t rfl (g_seq (g_ops ?_))
          refine g_val rfl rfl rfl (y_move rfl) ?_
          refine g_val rfl rfl rfl (y_real rfl) ?_
          refine g_val rfl rfl rfl (y_move rfl) ?_
          refine g_val rfl rfl rfl (y_imag rfl) ?_
          refine g_val rfl rfl rfl (y_move rfl) ?_
          refine g_val rfl rfl rfl (y_slen rfl Tryd.underlying9) ?_
          refine g_val rfl rfl rfl (y_toF rfl Tryd.underlying3 Tryd.underlying29) ?_
          refine g_fadd rfl rfl rfl rfl (fun r1 hr1 => ?_)
          refine g_val rfl rfl rfl (y_cplx rfl rfl) ?_
          refine g_val rfl rfl rfl (y_assign rfl) ?_
          refine g_nil (g_then (g_ret (g_then_ret (g_jumps_ret ?_))))
          refine g_end1 Tryd.results11 rfl ?_
          first | exact fun w hS => ⟨⟨(u, r1), by unfold mvR; rw [← pre_all s i (by omega), hc]; dsimp only; rw [if_pos (by omega)]; refine ⟨rfl, ?_⟩; first | exact hr1 | (rw [show i - 1 - k = (s.size : Int) by omega]; exact hr1)⟩, rfl, hS.below⟩ | exact fun w hS => ⟨⟨(r1, fl ((s.size : Int) - k)), by unfold mvR; rw [← pre_all s i (by omega), hc]; dsimp only; rw [if_neg (by omega)]; refine ⟨hr1, ?_⟩; rw [show i - 1 - k + 1 = (s.size : Int) - k by omega]⟩, rfl, hS.below⟩
        · skip
          refine g_cond_f rfl (g_skip (g_then (g_seq (g_ops ?_))))
          refine g_val rfl rfl rfl (y_move rfl) ?_
          refine g_val rfl rfl rfl (y_real rfl) ?_
          refine g_val rfl rfl rfl (y_move rfl) ?_
          refine g_val rfl rfl rfl (y_toF rfl Tryd.underlying3 Tryd.underlying29) ?_
          refine g_fadd rfl rfl rfl rfl (fun r1 hr1 => ?_)
          refine g_val rfl rfl rfl (y_move rfl) ?_
          refine g_val rfl rfl rfl (y_slen rfl Tryd.underlying9) ?_
          refine g_val rfl rfl rfl (y_move rfl) ?_
          refine g_val rfl rfl rfl (by first | exact y_subi rfl rfl (by first | omega | (simp only [size_mk, ByteArray.size_append, ByteArray.size_extract]; omega)) | exact y_isub rfl rfl) ?_
          refine g_val rfl rfl rfl (y_toF rfl Tryd.underlying3 Tryd.underlying29) ?_
          refine g_val rfl rfl rfl (y_cplx rfl rfl) ?_
          refine g_val rfl rfl rfl (y_assign rfl) ?_
          refine g_nil (g_then (g_ret (g_jumps_ret ?_)))
          refine g_end1 Tryd.results11 rfl ?_
          first | exact fun w hS => ⟨⟨(u, r1), by unfold mvR; rw [← pre_all s i (by omega), hc]; dsimp only; rw [if_pos (by omega)]; refine ⟨rfl, ?_⟩; first | exact hr1 | (rw [show i - 1 - k = (s.size : Int) by omega]; exact hr1)⟩, rfl, hS.below⟩ | exact fun w hS => ⟨⟨(r1, fl ((s.size : Int) - k)), by unfold mvR; rw [← pre_all s i (by omega), hc]; dsimp only; rw [if_neg (by omega)]; refine ⟨hr1, ?_⟩; rw [show i - 1 - k + 1 = (s.size : Int) - k by omega]⟩, rfl, hS.below⟩

theorem grmoved_any (u v : Nat) (s : ByteArray) (hs : s.size ≤ 1073741824) (w : World) :
    Calls Tryd.prog 16 #[.complex .f64 u v, .string s] w fun e w' => (∃ p : { p : Nat × Nat // mvR u v s.data.toList p.1 p.2 }, e = .returned (.complex .f64 p.1.1 p.1.2) ∧ Below w.heap.size w w') := by
  have hbd := lc_bd s.data.toList
  rw [dlen] at hbd
  refine fn_intro Tryd.func16 rfl Tryd.ntmps16 rfl rfl ?_
  refine g_seq (g_ops ?_)
  refine g_val rfl rfl rfl (y_assign rfl) ?_
  refine g_nil (g_then (g_seq (g_ops ?_)))
  refine g_val rfl rfl rfl (y_move rfl) ?_
  refine g_call1 rfl rfl rfl Tryd.call21 (fun w hS => count_any s _ (by omega) rfl w) ?_
  refine g_val rfl rfl rfl (y_move rfl) ?_
  refine g_val rfl rfl rfl (y_extract rfl rfl) ?_
  refine g_val rfl rfl rfl (y_extract rfl rfl) ?_
  refine g_val rfl rfl rfl (y_assign rfl) ?_
  refine g_val rfl rfl rfl (y_assign rfl) ?_
  refine g_nil (g_then (g_seq (g_seq (g_ops ?_))))
  refine g_val rfl rfl rfl (y_move rfl) ?_
  refine g_val rfl rfl rfl (y_ieq rfl rfl) ?_
  refine g_nil (g_then ?_)
  first | refine g_casep 13 rfl (fun h1 => ?_) (fun h1 => ?_) | refine g_caseb 13 rfl (fun h1 => ?_) (fun h1 => ?_)
  · skip
    refine g_cond_t rfl (g_seq (g_ops ?_))
    refine g_val rfl rfl rfl (y_move rfl) ?_
    refine g_val rfl rfl rfl (y_real rfl) ?_
    refine g_val rfl rfl rfl (y_move rfl) ?_
    refine g_val rfl rfl rfl (y_imag rfl) ?_
    refine g_val rfl rfl rfl (y_move rfl) ?_
    refine g_val rfl rfl rfl (y_toF rfl Tryd.underlying3 Tryd.underlying29) ?_
    refine g_fadd rfl rfl rfl rfl (fun r1 hr1 => ?_)
    refine g_val rfl rfl rfl (y_cplx rfl rfl) ?_
    refine g_val rfl rfl rfl (y_assign rfl) ?_
    refine g_nil (g_then (g_ret (g_then_ret ?_)))
    refine g_end1 Tryd.results16 rfl ?_
    exact fun w hS => ⟨⟨(_, _), by unfold mvR; first | (rw [if_pos (by assumption)]; exact ⟨rfl, hr1⟩) | (rw [if_neg (by assumption)]; exact ⟨hr1, rfl⟩)⟩, rfl, hS.below⟩
  · skip
    refine g_cond_f rfl (g_skip (g_then (g_seq (g_ops ?_))))
    refine g_val rfl rfl rfl (y_move rfl) ?_
    refine g_val rfl rfl rfl (y_real rfl) ?_
    refine g_val rfl rfl rfl (y_move rfl) ?_
    refine g_val rfl rfl rfl (y_toF rfl Tryd.underlying3 Tryd.underlying29) ?_
    refine g_fadd rfl rfl rfl rfl (fun r1 hr1 => ?_)
    refine g_val rfl rfl rfl (y_move rfl) ?_
    refine g_val rfl rfl rfl (by first | exact y_addi rfl rfl (by first | omega | (simp only [size_mk, ByteArray.size_append, ByteArray.size_extract]; omega)) | exact y_iadd rfl rfl) ?_
    refine g_val rfl rfl rfl (y_toF rfl Tryd.underlying3 Tryd.underlying29) ?_
    refine g_val rfl rfl rfl (y_cplx rfl rfl) ?_
    refine g_val rfl rfl rfl (y_assign rfl) ?_
    refine g_nil (g_then (g_ret ?_))
    refine g_end1 Tryd.results16 rfl ?_
    exact fun w hS => ⟨⟨(_, _), by unfold mvR; first | (rw [if_pos (by assumption)]; exact ⟨rfl, hr1⟩) | (rw [if_neg (by assumption)]; exact ⟨hr1, rfl⟩)⟩, rfl, hS.below⟩

theorem tells_law (u v u' v' : Nat) (s : ByteArray) (w : World) (hT : Pow w) :
    Calls Tryd.prog 6 #[.agg #[.float .f64 u, .float .f64 v], .agg #[.float .f64 u', .float .f64 v'], .string s] w fun e w' => e = .returned (.bool true) ∧ Below w.heap.size w w' := by
  have hz1 := fig_size u
  have hz2 := fig_size v
  refine fn_intro Tryd.func6 rfl Tryd.ntmps6 rfl rfl ?_
  refine g_seq (g_ops ?_)
  refine g_box rfl rfl rfl rfl (fun b1 => ?_)
  refine g_box rfl rfl rfl rfl (fun b2 => ?_)
  refine g_val rfl rfl rfl (y_assign rfl) ?_
  refine g_nil (g_then (g_seq (g_seq (g_ops ?_))))
  refine g_val rfl rfl rfl (y_move rfl) ?_
  refine g_val rfl rfl rfl (y_slen rfl Tryd.underlying9) ?_
  refine g_val rfl rfl rfl (y_igt rfl rfl) ?_
  refine g_nil (g_then ?_)
  first | refine g_casep 13 rfl (fun h1 => ?_) (fun h1 => ?_) | refine g_caseb 13 rfl (fun h1 => ?_) (fun h1 => ?_)
  · skip
    refine g_cond_t rfl (g_seq (g_ops ?_))
    refine g_call1 rfl rfl rfl Tryd.call9 (fun w hS => alive_any w) ?_
    refine g_val rfl rfl rfl (y_assign rfl) ?_
    refine g_nil (g_then (g_ret (g_then_ret ?_)))
    refine g_end1 Tryd.results6 rfl ?_
    exact fun w hS => ⟨rfl, hS.below⟩
  · skip
    refine g_cond_f rfl (g_skip (g_then (g_seq (g_ops ?_))))
    refine g_val rfl rfl rfl (y_idxArr (m := 0) rfl rfl Tryd.underlying31 Tryd.sizeOf29 (by decide) (by decide) rfl) ?_
    refine g_val rfl rfl rfl (y_ld 1 rfl Tryd.isAgg29 rfl rfl) ?_
    refine g_val rfl rfl rfl (y_idxArr (m := 1) rfl rfl Tryd.underlying31 Tryd.sizeOf29 (by decide) (by decide) rfl) ?_
    refine g_val rfl rfl rfl (y_ld 1 rfl Tryd.isAgg29 rfl rfl) ?_
    refine g_val rfl rfl rfl (y_cplx rfl rfl) ?_
    refine g_val rfl rfl rfl (y_assign rfl) ?_
    refine g_nil (g_then (g_seq (g_ops ?_)))
    refine g_val rfl rfl rfl (y_idxArr (m := 0) rfl rfl Tryd.underlying31 Tryd.sizeOf29 (by decide) (by decide) rfl) ?_
    refine g_val rfl rfl rfl (y_ld 0 rfl Tryd.isAgg29 rfl rfl) ?_
    refine g_val rfl rfl rfl (y_idxArr (m := 1) rfl rfl Tryd.underlying31 Tryd.sizeOf29 (by decide) (by decide) rfl) ?_
    refine g_val rfl rfl rfl (y_ld 0 rfl Tryd.isAgg29 rfl rfl) ?_
    refine g_val rfl rfl rfl (y_cplx rfl rfl) ?_
    refine g_val rfl rfl rfl (y_assign rfl) ?_
    refine g_nil (g_then (g_seq (g_ops ?_)))
    refine g_val rfl rfl rfl (y_move rfl) ?_
    refine g_val rfl rfl rfl (y_move rfl) ?_
    refine g_callx (fun p : { p : Nat × Nat // mvR u v s.data.toList p.1 p.2 } => .complex .f64 p.1.1 p.1.2) rfl rfl rfl Tryd.call11 (fun w hS => gmoved_any u v s (by omega) w) (fun x => ?_)
    refine g_val rfl rfl rfl (y_assign rfl) ?_
    refine g_nil (g_then (g_seq (g_ops ?_)))
    refine g_val rfl rfl rfl (y_move rfl) ?_
    refine g_val rfl rfl rfl (y_move rfl) ?_
    refine g_callx (fun p : { p : Nat × Nat // mvR u v s.data.toList p.1 p.2 } => .complex .f64 p.1.1 p.1.2) rfl rfl rfl Tryd.call16 (fun w hS => grmoved_any u v s (by omega) w) (fun y => ?_)
    refine g_val rfl rfl rfl (y_assign rfl) ?_
    refine g_nil (g_then (g_seq (g_ops ?_)))
    refine g_call1 rfl rfl rfl Tryd.call9 (fun w hS => alive_any w) ?_
    refine g_val rfl rfl rfl (y_move rfl) ?_
    first | refine g_casep 32 rfl (fun h2 => ?_) (fun h2 => ?_) | refine g_caseb 32 rfl (fun h2 => ?_) (fun h2 => ?_)
    · skip
      refine g_val rfl rfl rfl (y_move rfl) ?_
      refine g_val rfl rfl rfl (y_move rfl) ?_
      refine g_call1 rfl rfl rfl Tryd.call17 (fun w hS => compare_any _ _ _ _ w) ?_
      refine g_val rfl rfl rfl (y_move rfl) ?_
      refine g_val rfl rfl rfl (y_move rfl) ?_
      refine g_call1 rfl rfl rfl Tryd.call18 (fun w hS => rcompare_any _ _ _ _ w) ?_
      refine g_val rfl rfl rfl (y_ieq rfl rfl) ?_
      refine g_val rfl rfl rfl (y_pick_t rfl rfl) ?_
      refine g_val rfl rfl rfl (y_move rfl) ?_
      first | refine g_casep 41 rfl (fun h3 => ?_) (fun h3 => ?_) | refine g_caseb 41 rfl (fun h3 => ?_) (fun h3 => ?_)
      · skip
        refine g_val rfl rfl rfl (y_move rfl) ?_
        refine g_call1 rfl rfl rfl Tryd.call19 (fun w hS => text_any _ _ w (pow_stays hT hS.below)) ?_
        refine g_val rfl rfl rfl (y_move rfl) ?_
        refine g_call1 rfl rfl rfl Tryd.call20 (fun w hS => rtext_any _ _ w) ?_
        refine g_val rfl rfl rfl (y_seq rfl rfl) ?_
        refine g_val rfl rfl rfl (y_pick_t rfl rfl) ?_
        refine g_val rfl rfl rfl (y_move rfl) ?_
        first | refine g_casep 48 rfl (fun h4 => ?_) (fun h4 => ?_) | refine g_caseb 48 rfl (fun h4 => ?_) (fun h4 => ?_)
        · skip
          refine g_val rfl rfl rfl (y_move rfl) ?_
          refine g_val rfl rfl rfl (y_move rfl) ?_
          refine g_call1 rfl rfl rfl Tryd.call15 (fun w hS => same_any _ _ _ _ w) ?_
          refine g_val rfl rfl rfl (y_pick_t rfl rfl) ?_
          refine g_val rfl rfl rfl (y_assign rfl) ?_
          refine g_nil (g_then (g_ret ?_))
          refine g_end1 Tryd.results6 rfl ?_
          have hsm := mv_same u v s.data.toList _ _ _ _ x.2 y.2
          exact fun w hS => ⟨ret_bool (by simp_all), hS.below⟩
        · skip
          refine g_not rfl rfl rfl ?_
          refine g_not rfl rfl rfl ?_
          refine g_not rfl rfl rfl ?_
          refine g_val rfl rfl rfl (y_pick_f rfl rfl) ?_
          refine g_val rfl rfl rfl (y_assign rfl) ?_
          refine g_nil (g_then (g_ret ?_))
          refine g_end1 Tryd.results6 rfl ?_
          exfalso
          simp_all
      · skip
        refine g_not rfl rfl rfl ?_
        refine g_not rfl rfl rfl ?_
        refine g_not rfl rfl rfl ?_
        refine g_not rfl rfl rfl ?_
        refine g_not rfl rfl rfl ?_
        refine g_val rfl rfl rfl (y_pick_f rfl rfl) ?_
        refine g_val rfl rfl rfl (y_move rfl) ?_
        refine g_not rfl rfl rfl ?_
        refine g_not rfl rfl rfl ?_
        refine g_not rfl rfl rfl ?_
        refine g_val rfl rfl rfl (y_pick_f rfl rfl) ?_
        refine g_val rfl rfl rfl (y_assign rfl) ?_
        refine g_nil (g_then (g_ret ?_))
        refine g_end1 Tryd.results6 rfl ?_
        exfalso
        simp_all
    · skip
      refine g_not rfl rfl rfl ?_
      refine g_not rfl rfl rfl ?_
      refine g_not rfl rfl rfl ?_
      refine g_not rfl rfl rfl ?_
      refine g_not rfl rfl rfl ?_
      refine g_not rfl rfl rfl ?_
      refine g_not rfl rfl rfl ?_
      refine g_val rfl rfl rfl (y_pick_f rfl rfl) ?_
      refine g_val rfl rfl rfl (y_move rfl) ?_
      refine g_not rfl rfl rfl ?_
      refine g_not rfl rfl rfl ?_
      refine g_not rfl rfl rfl ?_
      refine g_not rfl rfl rfl ?_
      refine g_not rfl rfl rfl ?_
      refine g_val rfl rfl rfl (y_pick_f rfl rfl) ?_
      refine g_val rfl rfl rfl (y_move rfl) ?_
      refine g_not rfl rfl rfl ?_
      refine g_not rfl rfl rfl ?_
      refine g_not rfl rfl rfl ?_
      refine g_val rfl rfl rfl (y_pick_f rfl rfl) ?_
      refine g_val rfl rfl rfl (y_assign rfl) ?_
      refine g_nil (g_then (g_ret ?_))
      refine g_end1 Tryd.results6 rfl ?_
      exfalso
      simp_all

theorem tabIs_third {P : Program} {W : World} {name : String} {k : IntKind} {zs : List Int} {a b : String × DataW Unit} {g : Nat} {t e : TypeId} {n : Nat}
    (hg : P.globalNamed name = some g) (hty : (P.globals[g]?).map (·.type) = some t) (ht : P.underlying t = some (.array n e)) (he : P.underlying e = some (.int k)) (hce : P.cellsOf e = 1) (hct : P.cellsOf t = n)
    (h : laidMet P [a, b, (name, Lib.tabData k zs)] W) : Lib.TabIs P W name k zs := by
  obtain ⟨ps, ⟨_, _, _, _, _, _, _, _, _, _, ⟨_, _, _, _, _, _, _, _, _, _, ⟨g', t', cs, fuel, p, q, hg', ht', hvar, hd, _, _⟩, _⟩, _⟩, _⟩ := h
  obtain rfl := Option.some.inj (hg.symm.trans hg')
  obtain rfl := Option.some.inj (hty.symm.trans ht')
  unfold Lib.TabIs
  rw [hvar, ← Lib.cells_of_tab ht he hce hct hd]
theorem pow_laid {W : World} (h : laidMetH Tryd.prog Rows.placeTellsRow.laid W) : Pow W := by
  have h' : laidMet Tryd.prog [("math/bits.deBruijn32tab", Rows.laid_math_bits_deBruijn32tab), ("math/bits.deBruijn64tab", Rows.laid_math_bits_deBruijn64tab), ("internal/strconv.uint64pow10", Lib.tabData .u64 Lib.pow10Tab)] W := h
  exact tabIs_third (g := 0) (t := 61) (e := 53) (n := 20) (by kernel_rfl) (by kernel_rfl) (by kernel_rfl) (by kernel_rfl) (by kernel_rfl) (by kernel_rfl) h'

end Go.Proofs.YthikabfmgmbbcaaDoor
