/- The laws of places. -/
import Derived.Test.YthikabfmgmbbcaaDoorPlz
namespace Go.Proofs.YthikabfmgmbbcaaDoor
open Go Go.RowKit

theorem at_law (s : ByteArray) (n : Int) (u v : Nat) (w : World) :
    Calls Tryd.prog 5 #[.string s, .int .i64 n, .agg #[.float .f64 u, .float .f64 v]] w fun e w' => e = .returned (.bool true) ∧ Below w.heap.size w w' := by
  refine fn_intro Tryd.func5 rfl Tryd.ntmps5 rfl rfl ?_
  refine g_seq (g_ops ?_)
  refine g_box rfl rfl rfl rfl (fun b1 => ?_)
  refine g_val rfl rfl rfl (y_assign rfl) ?_
  refine g_nil (g_then (g_seq (g_seq (g_ops ?_))))
  refine g_val rfl rfl rfl (y_move rfl) ?_
  refine g_val rfl rfl rfl (y_slen rfl Tryd.underlying9) ?_
  refine g_val rfl rfl rfl (y_igt rfl rfl) ?_
  refine g_nil (g_then ?_)
  first | refine g_casep 18 rfl (fun h1 => ?_) (fun h1 => ?_) | refine g_caseb 18 rfl (fun h1 => ?_) (fun h1 => ?_)
  · skip
    refine g_cond_t rfl (g_seq (g_ops ?_))
    refine g_call1 rfl rfl rfl Tryd.call9 (fun w hS => alive_any w) ?_
    refine g_val rfl rfl rfl (y_assign rfl) ?_
    refine g_nil (g_then (g_ret (g_then_ret ?_)))
    refine g_end1 Tryd.results5 rfl ?_
    exact fun w hS => ⟨ret_bool (by simp_all [cmp_self]), hS.below⟩
  · skip
    refine g_cond_f rfl (g_skip (g_then (g_seq (g_ops ?_))))
    refine g_val rfl rfl rfl (y_move rfl) ?_
    refine g_val rfl rfl rfl (y_move rfl) ?_
    refine g_call1 rfl rfl rfl Tryd.call10 (fun w hS => at_any _ _ _ (by omega) rfl w) ?_
    refine g_val rfl rfl rfl (y_move rfl) ?_
    refine g_val rfl rfl rfl (y_extract rfl rfl) ?_
    refine g_val rfl rfl rfl (y_extract rfl rfl) ?_
    refine g_val rfl rfl rfl (y_assign rfl) ?_
    refine g_val rfl rfl rfl (y_assign rfl) ?_
    refine g_nil (g_then (g_seq (g_ops ?_)))
    refine g_val rfl rfl rfl (y_move rfl) ?_
    refine g_val rfl rfl rfl (y_move rfl) ?_
    refine g_call1 rfl rfl rfl Tryd.call12 (fun w hS => rat_any _ _ _ (by omega) rfl w) ?_
    refine g_val rfl rfl rfl (y_move rfl) ?_
    refine g_val rfl rfl rfl (y_extract rfl rfl) ?_
    refine g_val rfl rfl rfl (y_extract rfl rfl) ?_
    refine g_val rfl rfl rfl (y_assign rfl) ?_
    refine g_val rfl rfl rfl (y_assign rfl) ?_
    refine g_nil (g_then (g_seq (g_ops ?_)))
    refine g_val rfl rfl rfl (y_idxArr (m := 0) rfl rfl Tryd.underlying31 Tryd.sizeOf29 (by decide) (by decide) rfl) ?_
    refine g_val rfl rfl rfl (y_ld 0 rfl Tryd.isAgg29 rfl rfl) ?_
    refine g_val rfl rfl rfl (y_idxArr (m := 1) rfl rfl Tryd.underlying31 Tryd.sizeOf29 (by decide) (by decide) rfl) ?_
    refine g_val rfl rfl rfl (y_ld 0 rfl Tryd.isAgg29 rfl rfl) ?_
    refine g_val rfl rfl rfl (y_cplx rfl rfl) ?_
    refine g_val rfl rfl rfl (y_assign rfl) ?_
    refine g_nil (g_then (g_seq (g_ops ?_)))
    refine g_val rfl rfl rfl (y_move rfl) ?_
    refine g_val rfl rfl rfl (y_move rfl) ?_
    refine g_call1 rfl rfl rfl Tryd.call13 (fun w hS => index_any _ _ _ _ (by omega) rfl w) ?_
    refine g_val rfl rfl rfl (y_move rfl) ?_
    refine g_val rfl rfl rfl (y_extract rfl rfl) ?_
    refine g_val rfl rfl rfl (y_extract rfl rfl) ?_
    refine g_val rfl rfl rfl (y_assign rfl) ?_
    refine g_val rfl rfl rfl (y_assign rfl) ?_
    refine g_nil (g_then (g_seq (g_ops ?_)))
    refine g_val rfl rfl rfl (y_move rfl) ?_
    refine g_val rfl rfl rfl (y_move rfl) ?_
    refine g_call1 rfl rfl rfl Tryd.call14 (fun w hS => rindex_any _ _ _ _ (by omega) rfl w) ?_
    refine g_val rfl rfl rfl (y_move rfl) ?_
    refine g_val rfl rfl rfl (y_extract rfl rfl) ?_
    refine g_val rfl rfl rfl (y_extract rfl rfl) ?_
    refine g_val rfl rfl rfl (y_assign rfl) ?_
    refine g_val rfl rfl rfl (y_assign rfl) ?_
    refine g_nil (g_then (g_seq (g_ops ?_)))
    refine g_call1 rfl rfl rfl Tryd.call9 (fun w hS => alive_any w) ?_
    refine g_val rfl rfl rfl (y_move rfl) ?_
    first | refine g_casep 50 rfl (fun h2 => ?_) (fun h2 => ?_) | refine g_caseb 50 rfl (fun h2 => ?_) (fun h2 => ?_)
    · skip
      refine g_val rfl rfl rfl (y_move rfl) ?_
      refine g_val rfl rfl rfl (y_move rfl) ?_
      refine g_call1 rfl rfl rfl Tryd.call15 (fun w hS => same_any _ _ _ _ w) ?_
      refine g_val rfl rfl rfl (y_pick_t rfl rfl) ?_
      refine g_val rfl rfl rfl (y_move rfl) ?_
      first | refine g_casep 55 rfl (fun h3 => ?_) (fun h3 => ?_) | refine g_caseb 55 rfl (fun h3 => ?_) (fun h3 => ?_)
      · skip
        refine g_val rfl rfl rfl (y_move rfl) ?_
        refine g_val rfl rfl rfl (y_move rfl) ?_
        refine g_val rfl rfl rfl (y_ieq rfl rfl) ?_
        refine g_val rfl rfl rfl (y_pick_t rfl rfl) ?_
        refine g_val rfl rfl rfl (y_move rfl) ?_
        first | refine g_casep 60 rfl (fun h4 => ?_) (fun h4 => ?_) | refine g_caseb 60 rfl (fun h4 => ?_) (fun h4 => ?_)
        · skip
          refine g_val rfl rfl rfl (y_move rfl) ?_
          refine g_val rfl rfl rfl (y_move rfl) ?_
          refine g_val rfl rfl rfl (y_ieq rfl rfl) ?_
          refine g_val rfl rfl rfl (y_pick_t rfl rfl) ?_
          refine g_val rfl rfl rfl (y_move rfl) ?_
          first | refine g_casep 65 rfl (fun h5 => ?_) (fun h5 => ?_) | refine g_caseb 65 rfl (fun h5 => ?_) (fun h5 => ?_)
          · skip
            refine g_val rfl rfl rfl (y_move rfl) ?_
            refine g_val rfl rfl rfl (y_move rfl) ?_
            refine g_val rfl rfl rfl (y_ieq rfl rfl) ?_
            refine g_val rfl rfl rfl (y_pick_t rfl rfl) ?_
            refine g_val rfl rfl rfl (y_assign rfl) ?_
            refine g_nil (g_then (g_ret ?_))
            refine g_end1 Tryd.results5 rfl ?_
            exact fun w hS => ⟨ret_bool (by simp_all [cmp_self]), hS.below⟩
          · skip
            refine g_not rfl rfl rfl ?_
            refine g_not rfl rfl rfl ?_
            refine g_not rfl rfl rfl ?_
            refine g_val rfl rfl rfl (y_pick_f rfl rfl) ?_
            refine g_val rfl rfl rfl (y_assign rfl) ?_
            refine g_nil (g_then (g_ret ?_))
            refine g_end1 Tryd.results5 rfl ?_
            exfalso
            simp_all [cmp_self]
        · skip
          refine g_not rfl rfl rfl ?_
          refine g_not rfl rfl rfl ?_
          refine g_not rfl rfl rfl ?_
          refine g_val rfl rfl rfl (y_pick_f rfl rfl) ?_
          refine g_val rfl rfl rfl (y_move rfl) ?_
          refine g_not rfl rfl rfl ?_
          refine g_not rfl rfl rfl ?_
          refine g_not rfl rfl rfl ?_
          refine g_val rfl rfl rfl (y_pick_f rfl rfl) ?_
          refine g_val rfl rfl rfl (y_assign rfl) ?_
          refine g_nil (g_then (g_ret ?_))
          refine g_end1 Tryd.results5 rfl ?_
          exfalso
          simp_all [cmp_self]
      · skip
        refine g_not rfl rfl rfl ?_
        refine g_not rfl rfl rfl ?_
        refine g_not rfl rfl rfl ?_
        refine g_val rfl rfl rfl (y_pick_f rfl rfl) ?_
        refine g_val rfl rfl rfl (y_move rfl) ?_
        refine g_not rfl rfl rfl ?_
        refine g_not rfl rfl rfl ?_
        refine g_not rfl rfl rfl ?_
        refine g_val rfl rfl rfl (y_pick_f rfl rfl) ?_
        refine g_val rfl rfl rfl (y_move rfl) ?_
        refine g_not rfl rfl rfl ?_
        refine g_not rfl rfl rfl ?_
        refine g_not rfl rfl rfl ?_
        refine g_val rfl rfl rfl (y_pick_f rfl rfl) ?_
        refine g_val rfl rfl rfl (y_assign rfl) ?_
        refine g_nil (g_then (g_ret ?_))
        refine g_end1 Tryd.results5 rfl ?_
        exfalso
        simp_all [cmp_self]
    · skip
      refine g_not rfl rfl rfl ?_
      refine g_not rfl rfl rfl ?_
      refine g_not rfl rfl rfl ?_
      refine g_val rfl rfl rfl (y_pick_f rfl rfl) ?_
      refine g_val rfl rfl rfl (y_move rfl) ?_
      refine g_not rfl rfl rfl ?_
      refine g_not rfl rfl rfl ?_
      refine g_not rfl rfl rfl ?_
      refine g_val rfl rfl rfl (y_pick_f rfl rfl) ?_
      refine g_val rfl rfl rfl (y_move rfl) ?_
      refine g_not rfl rfl rfl ?_
      refine g_not rfl rfl rfl ?_
      refine g_not rfl rfl rfl ?_
      refine g_val rfl rfl rfl (y_pick_f rfl rfl) ?_
      refine g_val rfl rfl rfl (y_move rfl) ?_
      refine g_not rfl rfl rfl ?_
      refine g_not rfl rfl rfl ?_
      refine g_not rfl rfl rfl ?_
      refine g_val rfl rfl rfl (y_pick_f rfl rfl) ?_
      refine g_val rfl rfl rfl (y_assign rfl) ?_
      refine g_nil (g_then (g_ret ?_))
      refine g_end1 Tryd.results5 rfl ?_
      exfalso
      simp_all [cmp_self]

theorem moves_law (s : ByteArray) (n : Int) (w : World) :
    Calls Tryd.prog 4 #[.string s, .int .i64 n] w fun e w' => e = .returned (.bool true) ∧ Below w.heap.size w w' := by
  refine fn_intro Tryd.func4 rfl Tryd.ntmps4 rfl rfl ?_
  refine g_seq (g_ops ?_)
  refine g_val rfl rfl rfl (y_assign rfl) ?_
  refine g_nil (g_then (g_seq (g_seq (g_ops ?_))))
  refine g_val rfl rfl rfl (y_move rfl) ?_
  refine g_val rfl rfl rfl (y_slen rfl Tryd.underlying9) ?_
  refine g_val rfl rfl rfl (y_igt rfl rfl) ?_
  refine g_val rfl rfl rfl (y_move rfl) ?_
  first | refine g_casep 13 rfl (fun h1 => ?_) (fun h1 => ?_) | refine g_caseb 13 rfl (fun h1 => ?_) (fun h1 => ?_)
  · skip
    refine g_not rfl rfl rfl ?_
    refine g_not rfl rfl rfl ?_
    refine g_val rfl rfl rfl (y_pick_t rfl rfl) ?_
    refine g_val rfl rfl rfl (y_move rfl) ?_
    refine g_not rfl rfl rfl ?_
    refine g_not rfl rfl rfl ?_
    refine g_not rfl rfl rfl ?_
    refine g_not rfl rfl rfl ?_
    refine g_val rfl rfl rfl (y_pick_t rfl rfl) ?_
    refine g_nil (g_then (g_cond_t rfl (g_seq (g_ops ?_))))
    refine g_call1 rfl rfl rfl Tryd.call9 (fun w hS => alive_any w) ?_
    refine g_val rfl rfl rfl (y_assign rfl) ?_
    refine g_nil (g_then (g_ret (g_then_ret ?_)))
    refine g_end1 Tryd.results4 rfl ?_
    exact fun w hS => ⟨ret_bool (by first | (simp; omega) | (simp_all; done)), hS.below⟩
  · skip
    refine g_val rfl rfl rfl (y_move rfl) ?_
    refine g_val rfl rfl rfl (y_ilt rfl rfl) ?_
    refine g_val rfl rfl rfl (y_pick_f rfl rfl) ?_
    refine g_val rfl rfl rfl (y_move rfl) ?_
    first | refine g_casep 17 rfl (fun h2 => ?_) (fun h2 => ?_) | refine g_caseb 17 rfl (fun h2 => ?_) (fun h2 => ?_)
    · skip
      refine g_not rfl rfl rfl ?_
      refine g_not rfl rfl rfl ?_
      refine g_not rfl rfl rfl ?_
      refine g_not rfl rfl rfl ?_
      refine g_val rfl rfl rfl (y_pick_t rfl rfl) ?_
      refine g_nil (g_then (g_cond_t rfl (g_seq (g_ops ?_))))
      refine g_call1 rfl rfl rfl Tryd.call9 (fun w hS => alive_any w) ?_
      refine g_val rfl rfl rfl (y_assign rfl) ?_
      refine g_nil (g_then (g_ret (g_then_ret ?_)))
      refine g_end1 Tryd.results4 rfl ?_
      exact fun w hS => ⟨ret_bool (by first | (simp; omega) | (simp_all; done)), hS.below⟩
    · skip
      refine g_val rfl rfl rfl (y_move rfl) ?_
      refine g_val rfl rfl rfl (y_move rfl) ?_
      refine g_val rfl rfl rfl (y_slen rfl Tryd.underlying9) ?_
      refine g_val rfl rfl rfl (y_ige rfl rfl) ?_
      refine g_val rfl rfl rfl (y_pick_f rfl rfl) ?_
      refine g_nil (g_then ?_)
      first | refine g_casep 22 rfl (fun h3 => ?_) (fun h3 => ?_) | refine g_caseb 22 rfl (fun h3 => ?_) (fun h3 => ?_)
      · skip
        refine g_cond_t rfl (g_seq (g_ops ?_))
        refine g_call1 rfl rfl rfl Tryd.call9 (fun w hS => alive_any w) ?_
        refine g_val rfl rfl rfl (y_assign rfl) ?_
        refine g_nil (g_then (g_ret (g_then_ret ?_)))
        refine g_end1 Tryd.results4 rfl ?_
        exact fun w hS => ⟨ret_bool (by first | (simp; omega) | (simp_all; done)), hS.below⟩
      · skip
        refine g_cond_f rfl (g_skip (g_then (g_seq (g_ops ?_))))
        refine g_val rfl rfl rfl (y_move rfl) ?_
        refine g_val rfl rfl rfl (y_move rfl) ?_
        have hst := at_step s n (by omega) (by omega)
        have hb1 := at_bd s n (by omega)
        have hb2 := at_bd s (n + 1) (by omega)
        refine g_call1 rfl rfl rfl Tryd.call10 (fun w hS => at_any _ _ _ (by omega) rfl w) ?_
        refine g_val rfl rfl rfl (y_move rfl) ?_
        refine g_val rfl rfl rfl (y_extract rfl rfl) ?_
        refine g_val rfl rfl rfl (y_extract rfl rfl) ?_
        refine g_val rfl rfl rfl (y_assign rfl) ?_
        refine g_val rfl rfl rfl (y_assign rfl) ?_
        refine g_nil (g_then (g_seq (g_ops ?_)))
        refine g_val rfl rfl rfl (y_move rfl) ?_
        refine g_val rfl rfl rfl (y_move rfl) ?_
        refine g_val rfl rfl rfl (by first | exact y_addi rfl rfl (by first | omega | (simp only [size_mk, ByteArray.size_append, ByteArray.size_extract]; omega)) | exact y_iadd rfl rfl) ?_
        refine g_call1 rfl rfl rfl Tryd.call10 (fun w hS => at_any _ _ _ (by omega) rfl w) ?_
        refine g_val rfl rfl rfl (y_move rfl) ?_
        refine g_val rfl rfl rfl (y_extract rfl rfl) ?_
        refine g_val rfl rfl rfl (y_extract rfl rfl) ?_
        refine g_val rfl rfl rfl (y_assign rfl) ?_
        refine g_val rfl rfl rfl (y_assign rfl) ?_
        refine g_nil (g_then (g_seq (g_ops ?_)))
        refine g_val rfl rfl rfl (y_move rfl) ?_
        refine g_val rfl rfl rfl (y_real rfl) ?_
        refine g_val rfl rfl rfl (y_move rfl) ?_
        refine g_val rfl rfl rfl (y_imag rfl) ?_
        refine g_val rfl rfl rfl (y_fadd rfl (fl_c fl_1) (fl_add (by omega) (by omega) (by omega))) ?_
        refine g_val rfl rfl rfl (y_cplx rfl rfl) ?_
        refine g_val rfl rfl rfl (y_assign rfl) ?_
        refine g_nil (g_then (g_seq (g_seq (g_ops ?_))))
        refine g_val rfl rfl rfl (y_move rfl) ?_
        refine g_val rfl rfl rfl (y_move rfl) ?_
        refine g_val rfl rfl rfl (y_sat rfl rfl Tryd.underlying9 (by omega) (by omega)) ?_
        refine g_val rfl rfl rfl (y_ieq rfl rfl) ?_
        refine g_nil (g_then ?_)
        first | refine g_casep 46 rfl (fun h4 => ?_) (fun h4 => ?_) | refine g_caseb 46 rfl (fun h4 => ?_) (fun h4 => ?_)
        · skip
          refine g_cond_t rfl (g_ops ?_)
          refine g_val rfl rfl rfl (y_move rfl) ?_
          refine g_val rfl rfl rfl (y_real rfl) ?_
          refine g_val rfl rfl rfl (y_fadd rfl (fl_c fl_1) (fl_add (by omega) (by omega) (by omega))) ?_
          refine g_val rfl rfl rfl (y_cplx rfl (fl_c fl_1)) ?_
          refine g_val rfl rfl rfl (y_assign rfl) ?_
          refine g_nil (g_then (g_seq (g_ops ?_)))
          refine g_call1 rfl rfl rfl Tryd.call9 (fun w hS => alive_any w) ?_
          refine g_val rfl rfl rfl (y_move rfl) ?_
          first | refine g_casep 52 rfl (fun h5 => ?_) (fun h5 => ?_) | refine g_caseb 52 rfl (fun h5 => ?_) (fun h5 => ?_)
          · skip
            refine g_val rfl rfl rfl (y_move rfl) ?_
            refine g_val rfl rfl rfl (y_ieq rfl rfl) ?_
            refine g_val rfl rfl rfl (y_pick_t rfl rfl) ?_
            refine g_val rfl rfl rfl (y_move rfl) ?_
            first | refine g_casep 56 rfl (fun h6 => ?_) (fun h6 => ?_) | refine g_caseb 56 rfl (fun h6 => ?_) (fun h6 => ?_)
            · skip
              refine g_val rfl rfl rfl (y_move rfl) ?_
              refine g_val rfl rfl rfl (y_ieq rfl rfl) ?_
              refine g_val rfl rfl rfl (y_pick_t rfl rfl) ?_
              refine g_val rfl rfl rfl (y_move rfl) ?_
              first | refine g_casep 60 rfl (fun h7 => ?_) (fun h7 => ?_) | refine g_caseb 60 rfl (fun h7 => ?_) (fun h7 => ?_)
              · skip
                refine g_val rfl rfl rfl (y_move rfl) ?_
                refine g_val rfl rfl rfl (y_move rfl) ?_
                refine g_val rfl rfl rfl ((by first | exact y_ceqI rfl rfl (by omega) (by omega) (by omega) (by omega) | exact y_ceq rfl rfl)) ?_
                refine g_val rfl rfl rfl (y_pick_t rfl rfl) ?_
                refine g_val rfl rfl rfl (y_move rfl) ?_
                first | refine g_casep 65 rfl (fun h8 => ?_) (fun h8 => ?_) | refine g_caseb 65 rfl (fun h8 => ?_) (fun h8 => ?_)
                · skip
                  refine g_val rfl rfl rfl (y_move rfl) ?_
                  refine g_val rfl rfl rfl (y_move rfl) ?_
                  refine g_val rfl rfl rfl (y_move rfl) ?_
                  refine g_val rfl rfl rfl (y_move rfl) ?_
                  refine g_val rfl rfl rfl (by first | exact y_addi rfl rfl (by first | omega | (simp only [size_mk, ByteArray.size_append, ByteArray.size_extract]; omega)) | exact y_iadd rfl rfl) ?_
                  refine g_val rfl rfl rfl (y_ssl rfl rfl rfl Tryd.underlying9 (by omega) (by omega) (by first | omega | (simp only [size_mk, List.length_cons, List.length_nil]; omega))) ?_
                  refine g_call1 (v := plV ((atR s (n + 1)).1, (atR s (n + 1)).2.1)) rfl rfl rfl Tryd.call11 (fun w hS => moved_any (atR s n).1 (atR s n).2.1 _ ((atR s (n + 1)).1, (atR s (n + 1)).2.1) (by rw [ByteArray.size_extract]; omega) (by omega) (by omega) (mv_step s n (by omega) (by omega)) w) ?_
                  refine g_val rfl rfl rfl (y_move rfl) ?_
                  refine g_val rfl rfl rfl ((by first | exact y_ceqI rfl rfl (by omega) (by omega) (by omega) (by omega) | exact y_ceq rfl rfl)) ?_
                  refine g_val rfl rfl rfl (y_pick_t rfl rfl) ?_
                  refine g_val rfl rfl rfl (y_move rfl) ?_
                  first | refine g_casep 76 rfl (fun h9 => ?_) (fun h9 => ?_) | refine g_caseb 76 rfl (fun h9 => ?_) (fun h9 => ?_)
                  · skip
                    refine g_val rfl rfl rfl (y_move rfl) ?_
                    refine g_val rfl rfl rfl (y_real rfl) ?_
                    refine g_val rfl rfl rfl ((by first | exact y_fgeI rfl (fl_c fl_1) (by omega) (by omega) | exact y_fge rfl rfl)) ?_
                    refine g_val rfl rfl rfl (y_pick_t rfl rfl) ?_
                    refine g_val rfl rfl rfl (y_move rfl) ?_
                    first | refine g_casep 81 rfl (fun h10 => ?_) (fun h10 => ?_) | refine g_caseb 81 rfl (fun h10 => ?_) (fun h10 => ?_)
                    · skip
                      refine g_val rfl rfl rfl (y_move rfl) ?_
                      refine g_val rfl rfl rfl (y_imag rfl) ?_
                      refine g_val rfl rfl rfl ((by first | exact y_fgeI rfl (fl_c fl_1) (by omega) (by omega) | exact y_fge rfl rfl)) ?_
                      refine g_val rfl rfl rfl (y_pick_t rfl rfl) ?_
                      refine g_val rfl rfl rfl (y_assign rfl) ?_
                      refine g_nil (g_then (g_ret ?_))
                      refine g_end1 Tryd.results4 rfl ?_
                      exact fun w hS => ⟨ret_bool (by first | (simp; omega) | (simp_all; done)), hS.below⟩
                    · skip
                      refine g_not rfl rfl rfl ?_
                      refine g_not rfl rfl rfl ?_
                      refine g_not rfl rfl rfl ?_
                      refine g_val rfl rfl rfl (y_pick_f rfl rfl) ?_
                      refine g_val rfl rfl rfl (y_assign rfl) ?_
                      refine g_nil (g_then (g_ret ?_))
                      refine g_end1 Tryd.results4 rfl ?_
                      exfalso
                      first | omega | (simp_all; done)
                  · skip
                    refine g_not rfl rfl rfl ?_
                    refine g_not rfl rfl rfl ?_
                    refine g_not rfl rfl rfl ?_
                    refine g_val rfl rfl rfl (y_pick_f rfl rfl) ?_
                    refine g_val rfl rfl rfl (y_move rfl) ?_
                    refine g_not rfl rfl rfl ?_
                    refine g_not rfl rfl rfl ?_
                    refine g_not rfl rfl rfl ?_
                    refine g_val rfl rfl rfl (y_pick_f rfl rfl) ?_
                    refine g_val rfl rfl rfl (y_assign rfl) ?_
                    refine g_nil (g_then (g_ret ?_))
                    refine g_end1 Tryd.results4 rfl ?_
                    exfalso
                    first | omega | (simp_all; done)
                · skip
                  refine g_not rfl rfl rfl ?_
                  refine g_not rfl rfl rfl ?_
                  refine g_not rfl rfl rfl ?_
                  refine g_not rfl rfl rfl ?_
                  refine g_not rfl rfl rfl ?_
                  refine g_not rfl rfl rfl ?_
                  refine g_not rfl rfl rfl ?_
                  refine g_not rfl rfl rfl ?_
                  refine g_not rfl rfl rfl ?_
                  refine g_val rfl rfl rfl (y_pick_f rfl rfl) ?_
                  refine g_val rfl rfl rfl (y_move rfl) ?_
                  refine g_not rfl rfl rfl ?_
                  refine g_not rfl rfl rfl ?_
                  refine g_not rfl rfl rfl ?_
                  refine g_val rfl rfl rfl (y_pick_f rfl rfl) ?_
                  refine g_val rfl rfl rfl (y_move rfl) ?_
                  refine g_not rfl rfl rfl ?_
                  refine g_not rfl rfl rfl ?_
                  refine g_not rfl rfl rfl ?_
                  refine g_val rfl rfl rfl (y_pick_f rfl rfl) ?_
                  refine g_val rfl rfl rfl (y_assign rfl) ?_
                  refine g_nil (g_then (g_ret ?_))
                  refine g_end1 Tryd.results4 rfl ?_
                  exfalso
                  first | omega | (simp_all; done)
              · skip
                refine g_not rfl rfl rfl ?_
                refine g_not rfl rfl rfl ?_
                refine g_not rfl rfl rfl ?_
                refine g_val rfl rfl rfl (y_pick_f rfl rfl) ?_
                refine g_val rfl rfl rfl (y_move rfl) ?_
                refine g_not rfl rfl rfl ?_
                refine g_not rfl rfl rfl ?_
                refine g_not rfl rfl rfl ?_
                refine g_not rfl rfl rfl ?_
                refine g_not rfl rfl rfl ?_
                refine g_not rfl rfl rfl ?_
                refine g_not rfl rfl rfl ?_
                refine g_not rfl rfl rfl ?_
                refine g_not rfl rfl rfl ?_
                refine g_val rfl rfl rfl (y_pick_f rfl rfl) ?_
                refine g_val rfl rfl rfl (y_move rfl) ?_
                refine g_not rfl rfl rfl ?_
                refine g_not rfl rfl rfl ?_
                refine g_not rfl rfl rfl ?_
                refine g_val rfl rfl rfl (y_pick_f rfl rfl) ?_
                refine g_val rfl rfl rfl (y_move rfl) ?_
                refine g_not rfl rfl rfl ?_
                refine g_not rfl rfl rfl ?_
                refine g_not rfl rfl rfl ?_
                refine g_val rfl rfl rfl (y_pick_f rfl rfl) ?_
                refine g_val rfl rfl rfl (y_assign rfl) ?_
                refine g_nil (g_then (g_ret ?_))
                refine g_end1 Tryd.results4 rfl ?_
                exfalso
                first | omega | (simp_all; done)
            · skip
              refine g_not rfl rfl rfl ?_
              refine g_not rfl rfl rfl ?_
              refine g_val rfl rfl rfl (y_pick_f rfl rfl) ?_
              refine g_val rfl rfl rfl (y_move rfl) ?_
              refine g_not rfl rfl rfl ?_
              refine g_not rfl rfl rfl ?_
              refine g_not rfl rfl rfl ?_
              refine g_val rfl rfl rfl (y_pick_f rfl rfl) ?_
              refine g_val rfl rfl rfl (y_move rfl) ?_
              refine g_not rfl rfl rfl ?_
              refine g_not rfl rfl rfl ?_
              refine g_not rfl rfl rfl ?_
              refine g_not rfl rfl rfl ?_
              refine g_not rfl rfl rfl ?_
              refine g_not rfl rfl rfl ?_
              refine g_not rfl rfl rfl ?_
              refine g_not rfl rfl rfl ?_
              refine g_not rfl rfl rfl ?_
              refine g_val rfl rfl rfl (y_pick_f rfl rfl) ?_
              refine g_val rfl rfl rfl (y_move rfl) ?_
              refine g_not rfl rfl rfl ?_
              refine g_not rfl rfl rfl ?_
              refine g_not rfl rfl rfl ?_
              refine g_val rfl rfl rfl (y_pick_f rfl rfl) ?_
              refine g_val rfl rfl rfl (y_move rfl) ?_
              refine g_not rfl rfl rfl ?_
              refine g_not rfl rfl rfl ?_
              refine g_not rfl rfl rfl ?_
              refine g_val rfl rfl rfl (y_pick_f rfl rfl) ?_
              refine g_val rfl rfl rfl (y_assign rfl) ?_
              refine g_nil (g_then (g_ret ?_))
              refine g_end1 Tryd.results4 rfl ?_
              exfalso
              first | omega | (simp_all; done)
          · skip
            refine g_not rfl rfl rfl ?_
            refine g_not rfl rfl rfl ?_
            refine g_val rfl rfl rfl (y_pick_f rfl rfl) ?_
            refine g_val rfl rfl rfl (y_move rfl) ?_
            refine g_not rfl rfl rfl ?_
            refine g_not rfl rfl rfl ?_
            refine g_val rfl rfl rfl (y_pick_f rfl rfl) ?_
            refine g_val rfl rfl rfl (y_move rfl) ?_
            refine g_not rfl rfl rfl ?_
            refine g_not rfl rfl rfl ?_
            refine g_not rfl rfl rfl ?_
            refine g_val rfl rfl rfl (y_pick_f rfl rfl) ?_
            refine g_val rfl rfl rfl (y_move rfl) ?_
            refine g_not rfl rfl rfl ?_
            refine g_not rfl rfl rfl ?_
            refine g_not rfl rfl rfl ?_
            refine g_not rfl rfl rfl ?_
            refine g_not rfl rfl rfl ?_
            refine g_not rfl rfl rfl ?_
            refine g_not rfl rfl rfl ?_
            refine g_not rfl rfl rfl ?_
            refine g_not rfl rfl rfl ?_
            refine g_val rfl rfl rfl (y_pick_f rfl rfl) ?_
            refine g_val rfl rfl rfl (y_move rfl) ?_
            refine g_not rfl rfl rfl ?_
            refine g_not rfl rfl rfl ?_
            refine g_not rfl rfl rfl ?_
            refine g_val rfl rfl rfl (y_pick_f rfl rfl) ?_
            refine g_val rfl rfl rfl (y_move rfl) ?_
            refine g_not rfl rfl rfl ?_
            refine g_not rfl rfl rfl ?_
            refine g_not rfl rfl rfl ?_
            refine g_val rfl rfl rfl (y_pick_f rfl rfl) ?_
            refine g_val rfl rfl rfl (y_assign rfl) ?_
            refine g_nil (g_then (g_ret ?_))
            refine g_end1 Tryd.results4 rfl ?_
            exfalso
            first | omega | (simp_all; done)
        · skip
          refine g_cond_f rfl (g_skip (g_then (g_seq (g_ops ?_))))
          refine g_call1 rfl rfl rfl Tryd.call9 (fun w hS => alive_any w) ?_
          refine g_val rfl rfl rfl (y_move rfl) ?_
          first | refine g_casep 52 rfl (fun h11 => ?_) (fun h11 => ?_) | refine g_caseb 52 rfl (fun h11 => ?_) (fun h11 => ?_)
          · skip
            refine g_val rfl rfl rfl (y_move rfl) ?_
            refine g_val rfl rfl rfl (y_ieq rfl rfl) ?_
            refine g_val rfl rfl rfl (y_pick_t rfl rfl) ?_
            refine g_val rfl rfl rfl (y_move rfl) ?_
            first | refine g_casep 56 rfl (fun h12 => ?_) (fun h12 => ?_) | refine g_caseb 56 rfl (fun h12 => ?_) (fun h12 => ?_)
            · skip
              refine g_val rfl rfl rfl (y_move rfl) ?_
              refine g_val rfl rfl rfl (y_ieq rfl rfl) ?_
              refine g_val rfl rfl rfl (y_pick_t rfl rfl) ?_
              refine g_val rfl rfl rfl (y_move rfl) ?_
              first | refine g_casep 60 rfl (fun h13 => ?_) (fun h13 => ?_) | refine g_caseb 60 rfl (fun h13 => ?_) (fun h13 => ?_)
              · skip
                refine g_val rfl rfl rfl (y_move rfl) ?_
                refine g_val rfl rfl rfl (y_move rfl) ?_
                refine g_val rfl rfl rfl ((by first | exact y_ceqI rfl rfl (by omega) (by omega) (by omega) (by omega) | exact y_ceq rfl rfl)) ?_
                refine g_val rfl rfl rfl (y_pick_t rfl rfl) ?_
                refine g_val rfl rfl rfl (y_move rfl) ?_
                first | refine g_casep 65 rfl (fun h14 => ?_) (fun h14 => ?_) | refine g_caseb 65 rfl (fun h14 => ?_) (fun h14 => ?_)
                · skip
                  refine g_val rfl rfl rfl (y_move rfl) ?_
                  refine g_val rfl rfl rfl (y_move rfl) ?_
                  refine g_val rfl rfl rfl (y_move rfl) ?_
                  refine g_val rfl rfl rfl (y_move rfl) ?_
                  refine g_val rfl rfl rfl (by first | exact y_addi rfl rfl (by first | omega | (simp only [size_mk, ByteArray.size_append, ByteArray.size_extract]; omega)) | exact y_iadd rfl rfl) ?_
                  refine g_val rfl rfl rfl (y_ssl rfl rfl rfl Tryd.underlying9 (by omega) (by omega) (by first | omega | (simp only [size_mk, List.length_cons, List.length_nil]; omega))) ?_
                  refine g_call1 (v := plV ((atR s (n + 1)).1, (atR s (n + 1)).2.1)) rfl rfl rfl Tryd.call11 (fun w hS => moved_any (atR s n).1 (atR s n).2.1 _ ((atR s (n + 1)).1, (atR s (n + 1)).2.1) (by rw [ByteArray.size_extract]; omega) (by omega) (by omega) (mv_step s n (by omega) (by omega)) w) ?_
                  refine g_val rfl rfl rfl (y_move rfl) ?_
                  refine g_val rfl rfl rfl ((by first | exact y_ceqI rfl rfl (by omega) (by omega) (by omega) (by omega) | exact y_ceq rfl rfl)) ?_
                  refine g_val rfl rfl rfl (y_pick_t rfl rfl) ?_
                  refine g_val rfl rfl rfl (y_move rfl) ?_
                  first | refine g_casep 76 rfl (fun h15 => ?_) (fun h15 => ?_) | refine g_caseb 76 rfl (fun h15 => ?_) (fun h15 => ?_)
                  · skip
                    refine g_val rfl rfl rfl (y_move rfl) ?_
                    refine g_val rfl rfl rfl (y_real rfl) ?_
                    refine g_val rfl rfl rfl ((by first | exact y_fgeI rfl (fl_c fl_1) (by omega) (by omega) | exact y_fge rfl rfl)) ?_
                    refine g_val rfl rfl rfl (y_pick_t rfl rfl) ?_
                    refine g_val rfl rfl rfl (y_move rfl) ?_
                    first | refine g_casep 81 rfl (fun h16 => ?_) (fun h16 => ?_) | refine g_caseb 81 rfl (fun h16 => ?_) (fun h16 => ?_)
                    · skip
                      refine g_val rfl rfl rfl (y_move rfl) ?_
                      refine g_val rfl rfl rfl (y_imag rfl) ?_
                      refine g_val rfl rfl rfl ((by first | exact y_fgeI rfl (fl_c fl_1) (by omega) (by omega) | exact y_fge rfl rfl)) ?_
                      refine g_val rfl rfl rfl (y_pick_t rfl rfl) ?_
                      refine g_val rfl rfl rfl (y_assign rfl) ?_
                      refine g_nil (g_then (g_ret ?_))
                      refine g_end1 Tryd.results4 rfl ?_
                      exact fun w hS => ⟨ret_bool (by first | (simp; omega) | (simp_all; done)), hS.below⟩
                    · skip
                      refine g_not rfl rfl rfl ?_
                      refine g_not rfl rfl rfl ?_
                      refine g_not rfl rfl rfl ?_
                      refine g_val rfl rfl rfl (y_pick_f rfl rfl) ?_
                      refine g_val rfl rfl rfl (y_assign rfl) ?_
                      refine g_nil (g_then (g_ret ?_))
                      refine g_end1 Tryd.results4 rfl ?_
                      exfalso
                      first | omega | (simp_all; done)
                  · skip
                    refine g_not rfl rfl rfl ?_
                    refine g_not rfl rfl rfl ?_
                    refine g_not rfl rfl rfl ?_
                    refine g_val rfl rfl rfl (y_pick_f rfl rfl) ?_
                    refine g_val rfl rfl rfl (y_move rfl) ?_
                    refine g_not rfl rfl rfl ?_
                    refine g_not rfl rfl rfl ?_
                    refine g_not rfl rfl rfl ?_
                    refine g_val rfl rfl rfl (y_pick_f rfl rfl) ?_
                    refine g_val rfl rfl rfl (y_assign rfl) ?_
                    refine g_nil (g_then (g_ret ?_))
                    refine g_end1 Tryd.results4 rfl ?_
                    exfalso
                    first | omega | (simp_all; done)
                · skip
                  refine g_not rfl rfl rfl ?_
                  refine g_not rfl rfl rfl ?_
                  refine g_not rfl rfl rfl ?_
                  refine g_not rfl rfl rfl ?_
                  refine g_not rfl rfl rfl ?_
                  refine g_not rfl rfl rfl ?_
                  refine g_not rfl rfl rfl ?_
                  refine g_not rfl rfl rfl ?_
                  refine g_not rfl rfl rfl ?_
                  refine g_val rfl rfl rfl (y_pick_f rfl rfl) ?_
                  refine g_val rfl rfl rfl (y_move rfl) ?_
                  refine g_not rfl rfl rfl ?_
                  refine g_not rfl rfl rfl ?_
                  refine g_not rfl rfl rfl ?_
                  refine g_val rfl rfl rfl (y_pick_f rfl rfl) ?_
                  refine g_val rfl rfl rfl (y_move rfl) ?_
                  refine g_not rfl rfl rfl ?_
                  refine g_not rfl rfl rfl ?_
                  refine g_not rfl rfl rfl ?_
                  refine g_val rfl rfl rfl (y_pick_f rfl rfl) ?_
                  refine g_val rfl rfl rfl (y_assign rfl) ?_
                  refine g_nil (g_then (g_ret ?_))
                  refine g_end1 Tryd.results4 rfl ?_
                  exfalso
                  first | omega | (simp_all; done)
              · skip
                refine g_not rfl rfl rfl ?_
                refine g_not rfl rfl rfl ?_
                refine g_not rfl rfl rfl ?_
                refine g_val rfl rfl rfl (y_pick_f rfl rfl) ?_
                refine g_val rfl rfl rfl (y_move rfl) ?_
                refine g_not rfl rfl rfl ?_
                refine g_not rfl rfl rfl ?_
                refine g_not rfl rfl rfl ?_
                refine g_not rfl rfl rfl ?_
                refine g_not rfl rfl rfl ?_
                refine g_not rfl rfl rfl ?_
                refine g_not rfl rfl rfl ?_
                refine g_not rfl rfl rfl ?_
                refine g_not rfl rfl rfl ?_
                refine g_val rfl rfl rfl (y_pick_f rfl rfl) ?_
                refine g_val rfl rfl rfl (y_move rfl) ?_
                refine g_not rfl rfl rfl ?_
                refine g_not rfl rfl rfl ?_
                refine g_not rfl rfl rfl ?_
                refine g_val rfl rfl rfl (y_pick_f rfl rfl) ?_
                refine g_val rfl rfl rfl (y_move rfl) ?_
                refine g_not rfl rfl rfl ?_
                refine g_not rfl rfl rfl ?_
                refine g_not rfl rfl rfl ?_
                refine g_val rfl rfl rfl (y_pick_f rfl rfl) ?_
                refine g_val rfl rfl rfl (y_assign rfl) ?_
                refine g_nil (g_then (g_ret ?_))
                refine g_end1 Tryd.results4 rfl ?_
                exfalso
                first | omega | (simp_all; done)
            · skip
              refine g_not rfl rfl rfl ?_
              refine g_not rfl rfl rfl ?_
              refine g_val rfl rfl rfl (y_pick_f rfl rfl) ?_
              refine g_val rfl rfl rfl (y_move rfl) ?_
              refine g_not rfl rfl rfl ?_
              refine g_not rfl rfl rfl ?_
              refine g_not rfl rfl rfl ?_
              refine g_val rfl rfl rfl (y_pick_f rfl rfl) ?_
              refine g_val rfl rfl rfl (y_move rfl) ?_
              refine g_not rfl rfl rfl ?_
              refine g_not rfl rfl rfl ?_
              refine g_not rfl rfl rfl ?_
              refine g_not rfl rfl rfl ?_
              refine g_not rfl rfl rfl ?_
              refine g_not rfl rfl rfl ?_
              refine g_not rfl rfl rfl ?_
              refine g_not rfl rfl rfl ?_
              refine g_not rfl rfl rfl ?_
              refine g_val rfl rfl rfl (y_pick_f rfl rfl) ?_
              refine g_val rfl rfl rfl (y_move rfl) ?_
              refine g_not rfl rfl rfl ?_
              refine g_not rfl rfl rfl ?_
              refine g_not rfl rfl rfl ?_
              refine g_val rfl rfl rfl (y_pick_f rfl rfl) ?_
              refine g_val rfl rfl rfl (y_move rfl) ?_
              refine g_not rfl rfl rfl ?_
              refine g_not rfl rfl rfl ?_
              refine g_not rfl rfl rfl ?_
              refine g_val rfl rfl rfl (y_pick_f rfl rfl) ?_
              refine g_val rfl rfl rfl (y_assign rfl) ?_
              refine g_nil (g_then (g_ret ?_))
              refine g_end1 Tryd.results4 rfl ?_
              exfalso
              first | omega | (simp_all; done)
          · skip
            refine g_not rfl rfl rfl ?_
            refine g_not rfl rfl rfl ?_
            refine g_val rfl rfl rfl (y_pick_f rfl rfl) ?_
            refine g_val rfl rfl rfl (y_move rfl) ?_
            refine g_not rfl rfl rfl ?_
            refine g_not rfl rfl rfl ?_
            refine g_val rfl rfl rfl (y_pick_f rfl rfl) ?_
            refine g_val rfl rfl rfl (y_move rfl) ?_
            refine g_not rfl rfl rfl ?_
            refine g_not rfl rfl rfl ?_
            refine g_not rfl rfl rfl ?_
            refine g_val rfl rfl rfl (y_pick_f rfl rfl) ?_
            refine g_val rfl rfl rfl (y_move rfl) ?_
            refine g_not rfl rfl rfl ?_
            refine g_not rfl rfl rfl ?_
            refine g_not rfl rfl rfl ?_
            refine g_not rfl rfl rfl ?_
            refine g_not rfl rfl rfl ?_
            refine g_not rfl rfl rfl ?_
            refine g_not rfl rfl rfl ?_
            refine g_not rfl rfl rfl ?_
            refine g_not rfl rfl rfl ?_
            refine g_val rfl rfl rfl (y_pick_f rfl rfl) ?_
            refine g_val rfl rfl rfl (y_move rfl) ?_
            refine g_not rfl rfl rfl ?_
            refine g_not rfl rfl rfl ?_
            refine g_not rfl rfl rfl ?_
            refine g_val rfl rfl rfl (y_pick_f rfl rfl) ?_
            refine g_val rfl rfl rfl (y_move rfl) ?_
            refine g_not rfl rfl rfl ?_
            refine g_not rfl rfl rfl ?_
            refine g_not rfl rfl rfl ?_
            refine g_val rfl rfl rfl (y_pick_f rfl rfl) ?_
            refine g_val rfl rfl rfl (y_assign rfl) ?_
            refine g_nil (g_then (g_ret ?_))
            refine g_end1 Tryd.results4 rfl ?_
            exfalso
            first | omega | (simp_all; done)

theorem on_law (a b c : ByteArray) (w : World) :
    Calls Tryd.prog 3 #[.string a, .string b, .string c] w fun e w' => e = .returned (.bool true) ∧ Below w.heap.size w w' := by
  refine fn_intro Tryd.func3 rfl Tryd.ntmps3 rfl rfl ?_
  refine g_seq (g_ops ?_)
  refine g_val rfl rfl rfl (y_assign rfl) ?_
  refine g_nil (g_then (g_seq (g_seq (g_ops ?_))))
  refine g_val rfl rfl rfl (y_move rfl) ?_
  refine g_val rfl rfl rfl (y_slen rfl Tryd.underlying9) ?_
  refine g_val rfl rfl rfl (y_igt rfl rfl) ?_
  refine g_val rfl rfl rfl (y_move rfl) ?_
  first | refine g_casep 15 rfl (fun h1 => ?_) (fun h1 => ?_) | refine g_caseb 15 rfl (fun h1 => ?_) (fun h1 => ?_)
  · skip
    refine g_not rfl rfl rfl ?_
    refine g_not rfl rfl rfl ?_
    refine g_not rfl rfl rfl ?_
    refine g_val rfl rfl rfl (y_pick_t rfl rfl) ?_
    refine g_val rfl rfl rfl (y_move rfl) ?_
    refine g_not rfl rfl rfl ?_
    refine g_not rfl rfl rfl ?_
    refine g_not rfl rfl rfl ?_
    refine g_val rfl rfl rfl (y_pick_t rfl rfl) ?_
    refine g_nil (g_then (g_cond_t rfl (g_seq (g_ops ?_))))
    refine g_call1 rfl rfl rfl Tryd.call9 (fun w hS => alive_any w) ?_
    refine g_val rfl rfl rfl (y_assign rfl) ?_
    refine g_nil (g_then (g_ret (g_then_ret ?_)))
    refine g_end1 Tryd.results3 rfl ?_
    exact fun w hS => ⟨ret_bool (by first | (simp; done) | (simp_all; done)), hS.below⟩
  · skip
    refine g_val rfl rfl rfl (y_move rfl) ?_
    refine g_val rfl rfl rfl (y_slen rfl Tryd.underlying9) ?_
    refine g_val rfl rfl rfl (y_igt rfl rfl) ?_
    refine g_val rfl rfl rfl (y_pick_f rfl rfl) ?_
    refine g_val rfl rfl rfl (y_move rfl) ?_
    first | refine g_casep 20 rfl (fun h2 => ?_) (fun h2 => ?_) | refine g_caseb 20 rfl (fun h2 => ?_) (fun h2 => ?_)
    · skip
      refine g_not rfl rfl rfl ?_
      refine g_not rfl rfl rfl ?_
      refine g_not rfl rfl rfl ?_
      refine g_val rfl rfl rfl (y_pick_t rfl rfl) ?_
      refine g_nil (g_then (g_cond_t rfl (g_seq (g_ops ?_))))
      refine g_call1 rfl rfl rfl Tryd.call9 (fun w hS => alive_any w) ?_
      refine g_val rfl rfl rfl (y_assign rfl) ?_
      refine g_nil (g_then (g_ret (g_then_ret ?_)))
      refine g_end1 Tryd.results3 rfl ?_
      exact fun w hS => ⟨ret_bool (by first | (simp; done) | (simp_all; done)), hS.below⟩
    · skip
      refine g_val rfl rfl rfl (y_move rfl) ?_
      refine g_val rfl rfl rfl (y_slen rfl Tryd.underlying9) ?_
      refine g_val rfl rfl rfl (y_igt rfl rfl) ?_
      refine g_val rfl rfl rfl (y_pick_f rfl rfl) ?_
      refine g_nil (g_then ?_)
      first | refine g_casep 24 rfl (fun h3 => ?_) (fun h3 => ?_) | refine g_caseb 24 rfl (fun h3 => ?_) (fun h3 => ?_)
      · skip
        refine g_cond_t rfl (g_seq (g_ops ?_))
        refine g_call1 rfl rfl rfl Tryd.call9 (fun w hS => alive_any w) ?_
        refine g_val rfl rfl rfl (y_assign rfl) ?_
        refine g_nil (g_then (g_ret (g_then_ret ?_)))
        refine g_end1 Tryd.results3 rfl ?_
        exact fun w hS => ⟨ret_bool (by first | (simp; done) | (simp_all; done)), hS.below⟩
      · skip
        refine g_cond_f rfl (g_skip (g_then (g_seq (g_ops ?_))))
        refine g_val rfl rfl rfl (y_move rfl) ?_
        refine g_val rfl rfl rfl (y_move rfl) ?_
        refine g_val rfl rfl rfl (y_slen rfl Tryd.underlying9) ?_
        obtain ⟨p, hp⟩ : ∃ p, p = plc a.data.toList := ⟨_, rfl⟩
        have hpb := plc_bd a.data.toList (by rw [dlen]; omega)
        rw [← hp] at hpb
        refine g_call1 (v := .tuple #[.complex .f64 (fl p.1) (fl p.2), .int .i64 0]) rfl rfl rfl Tryd.call10 (fun w hS => at_any a a.size (p.1, p.2, 0) (by omega) (by rw [at_all a _ rfl, hp]) w) ?_
        refine g_val rfl rfl rfl (y_move rfl) ?_
        refine g_val rfl rfl rfl (y_extract rfl rfl) ?_
        refine g_val rfl rfl rfl (y_extract rfl rfl) ?_
        refine g_val rfl rfl rfl (y_assign rfl) ?_
        refine g_val rfl rfl rfl (y_assign rfl) ?_
        refine g_nil (g_then (g_seq (g_ops ?_)))
        refine g_val rfl rfl rfl (y_move rfl) ?_
        refine g_val rfl rfl rfl (y_move rfl) ?_
        refine g_val rfl rfl rfl (y_scat rfl rfl (by first | omega | decide | (simp only [ByteArray.size_extract, ByteArray.size_append, size_mk, List.length_append, List.length_cons, List.length_nil] <;> omega))) ?_
        refine g_val rfl rfl rfl (y_move rfl) ?_
        refine g_val rfl rfl rfl (y_scat rfl rfl (by first | omega | decide | (simp only [ByteArray.size_extract, ByteArray.size_append, size_mk, List.length_append, List.length_cons, List.length_nil] <;> omega))) ?_
        refine g_val rfl rfl rfl (y_move rfl) ?_
        refine g_val rfl rfl rfl (y_slen rfl Tryd.underlying9) ?_
        refine g_val rfl rfl rfl (y_move rfl) ?_
        refine g_val rfl rfl rfl (y_slen rfl Tryd.underlying9) ?_
        refine g_val rfl rfl rfl (by first | exact y_addi rfl rfl (by first | omega | (simp only [size_mk, ByteArray.size_append, ByteArray.size_extract]; omega)) | exact y_iadd rfl rfl) ?_
        refine g_val rfl rfl rfl (y_move rfl) ?_
        refine g_val rfl rfl rfl (y_slen rfl Tryd.underlying9) ?_
        refine g_val rfl rfl rfl (by first | exact y_addi rfl rfl (by first | omega | (simp only [size_mk, ByteArray.size_append, ByteArray.size_extract]; omega)) | exact y_iadd rfl rfl) ?_
        obtain ⟨q, hq⟩ : ∃ q, q = plc (a ++ b ++ c).data.toList := ⟨_, rfl⟩
        have hqb := plc_bd (a ++ b ++ c).data.toList (by rw [dlen]; simp only [ByteArray.size_append]; omega)
        rw [← hq] at hqb
        obtain ⟨x, hx⟩ : ∃ x, x = plc (a ++ b).data.toList := ⟨_, rfl⟩
        have hxb := plc_bd (a ++ b).data.toList (by rw [dlen]; simp only [ByteArray.size_append]; omega)
        rw [← hx] at hxb
        refine g_call1 (v := .tuple #[.complex .f64 (fl q.1) (fl q.2), .int .i64 0]) rfl rfl rfl Tryd.call10 (fun w hS => at_any (a ++ b ++ c) _ (q.1, q.2, 0) (by simp only [ByteArray.size_append]; omega) (by rw [at_all _ _ (by simp only [ByteArray.size_append]; omega), hq]) w) ?_
        refine g_val rfl rfl rfl (y_move rfl) ?_
        refine g_val rfl rfl rfl (y_extract rfl rfl) ?_
        refine g_val rfl rfl rfl (y_extract rfl rfl) ?_
        refine g_val rfl rfl rfl (y_assign rfl) ?_
        refine g_val rfl rfl rfl (y_assign rfl) ?_
        refine g_nil (g_then (g_seq (g_ops ?_)))
        refine g_val rfl rfl rfl (y_move rfl) ?_
        refine g_val rfl rfl rfl (y_move rfl) ?_
        refine g_call1 (v := plV x) rfl rfl rfl Tryd.call11 (fun w hS => moved_any p.1 p.2 b x (by first | omega | decide | (simp only [ByteArray.size_append]; omega)) (by omega) (by omega) (by rw [hp, mv_app, hx, app_data]) w) ?_
        refine g_val rfl rfl rfl (y_move rfl) ?_
        refine g_call1 (v := plV q) rfl rfl rfl Tryd.call11 (fun w hS => moved_any x.1 x.2 c q (by first | omega | decide | (simp only [ByteArray.size_append]; omega)) (by omega) (by omega) (by rw [hx, mv_app, hq, app_data (a ++ b)]) w) ?_
        refine g_val rfl rfl rfl (y_assign rfl) ?_
        refine g_nil (g_then (g_seq (g_ops ?_)))
        refine g_call1 rfl rfl rfl Tryd.call9 (fun w hS => alive_any w) ?_
        refine g_val rfl rfl rfl (y_move rfl) ?_
        first | refine g_casep 56 rfl (fun h4 => ?_) (fun h4 => ?_) | refine g_caseb 56 rfl (fun h4 => ?_) (fun h4 => ?_)
        · skip
          refine g_val rfl rfl rfl (y_move rfl) ?_
          refine g_val rfl rfl rfl (y_ieq rfl rfl) ?_
          refine g_val rfl rfl rfl (y_pick_t rfl rfl) ?_
          refine g_val rfl rfl rfl (y_move rfl) ?_
          first | refine g_casep 60 rfl (fun h5 => ?_) (fun h5 => ?_) | refine g_caseb 60 rfl (fun h5 => ?_) (fun h5 => ?_)
          · skip
            refine g_val rfl rfl rfl (y_move rfl) ?_
            refine g_val rfl rfl rfl (y_ieq rfl rfl) ?_
            refine g_val rfl rfl rfl (y_pick_t rfl rfl) ?_
            refine g_val rfl rfl rfl (y_move rfl) ?_
            first | refine g_casep 64 rfl (fun h6 => ?_) (fun h6 => ?_) | refine g_caseb 64 rfl (fun h6 => ?_) (fun h6 => ?_)
            · skip
              refine g_val rfl rfl rfl (y_move rfl) ?_
              refine g_val rfl rfl rfl (y_move rfl) ?_
              refine g_val rfl rfl rfl ((by first | exact y_ceqI rfl rfl (by omega) (by omega) (by omega) (by omega) | exact y_ceq rfl rfl)) ?_
              refine g_val rfl rfl rfl (y_pick_t rfl rfl) ?_
              refine g_val rfl rfl rfl (y_move rfl) ?_
              first | refine g_casep 69 rfl (fun h7 => ?_) (fun h7 => ?_) | refine g_caseb 69 rfl (fun h7 => ?_) (fun h7 => ?_)
              · skip
                refine g_val rfl rfl rfl (y_move rfl) ?_
                refine g_val rfl rfl rfl (y_move rfl) ?_
                refine g_val rfl rfl rfl (y_move rfl) ?_
                refine g_val rfl rfl rfl (y_scat rfl rfl (by first | omega | decide | (simp only [ByteArray.size_extract, ByteArray.size_append, size_mk, List.length_append, List.length_cons, List.length_nil] <;> omega))) ?_
                refine g_call1 (v := plV q) rfl rfl rfl Tryd.call11 (fun w hS => moved_any p.1 p.2 (b ++ c) q (by first | omega | decide | (simp only [ByteArray.size_append]; omega)) (by omega) (by omega) (by rw [hp, mv_app, hq, ByteArray.append_assoc, app_data a]) w) ?_
                refine g_val rfl rfl rfl (y_move rfl) ?_
                refine g_val rfl rfl rfl ((by first | exact y_ceqI rfl rfl (by omega) (by omega) (by omega) (by omega) | exact y_ceq rfl rfl)) ?_
                refine g_val rfl rfl rfl (y_pick_t rfl rfl) ?_
                refine g_val rfl rfl rfl (y_move rfl) ?_
                first | refine g_casep 78 rfl (fun h8 => ?_) (fun h8 => ?_) | refine g_caseb 78 rfl (fun h8 => ?_) (fun h8 => ?_)
                · skip
                  refine g_val rfl rfl rfl (y_move rfl) ?_
                  refine g_call1 (v := plV p) rfl rfl rfl Tryd.call11 (fun w hS => moved_any p.1 p.2 ⟨#[]⟩ p (by first | omega | decide | (simp only [ByteArray.size_append]; omega)) (by omega) (by omega) (by rw [hp, mv_app]; simp) w) ?_
                  refine g_val rfl rfl rfl (y_move rfl) ?_
                  refine g_val rfl rfl rfl ((by first | exact y_ceqI rfl rfl (by omega) (by omega) (by omega) (by omega) | exact y_ceq rfl rfl)) ?_
                  refine g_val rfl rfl rfl (y_pick_t rfl rfl) ?_
                  refine g_val rfl rfl rfl (y_assign rfl) ?_
                  refine g_nil (g_then (g_ret ?_))
                  refine g_end1 Tryd.results3 rfl ?_
                  exact fun w hS => ⟨ret_bool (by first | (simp; done) | (simp_all; done)), hS.below⟩
                · skip
                  refine g_not rfl rfl rfl ?_
                  refine g_not rfl rfl rfl ?_
                  refine g_not rfl rfl rfl ?_
                  refine g_not rfl rfl rfl ?_
                  refine g_val rfl rfl rfl (y_pick_f rfl rfl) ?_
                  refine g_val rfl rfl rfl (y_assign rfl) ?_
                  refine g_nil (g_then (g_ret ?_))
                  refine g_end1 Tryd.results3 rfl ?_
                  exfalso
                  first | omega | (simp_all; done)
              · skip
                refine g_not rfl rfl rfl ?_
                refine g_not rfl rfl rfl ?_
                refine g_not rfl rfl rfl ?_
                refine g_not rfl rfl rfl ?_
                refine g_not rfl rfl rfl ?_
                refine g_not rfl rfl rfl ?_
                refine g_not rfl rfl rfl ?_
                refine g_val rfl rfl rfl (y_pick_f rfl rfl) ?_
                refine g_val rfl rfl rfl (y_move rfl) ?_
                refine g_not rfl rfl rfl ?_
                refine g_not rfl rfl rfl ?_
                refine g_not rfl rfl rfl ?_
                refine g_not rfl rfl rfl ?_
                refine g_val rfl rfl rfl (y_pick_f rfl rfl) ?_
                refine g_val rfl rfl rfl (y_assign rfl) ?_
                refine g_nil (g_then (g_ret ?_))
                refine g_end1 Tryd.results3 rfl ?_
                exfalso
                first | omega | (simp_all; done)
            · skip
              refine g_not rfl rfl rfl ?_
              refine g_not rfl rfl rfl ?_
              refine g_not rfl rfl rfl ?_
              refine g_val rfl rfl rfl (y_pick_f rfl rfl) ?_
              refine g_val rfl rfl rfl (y_move rfl) ?_
              refine g_not rfl rfl rfl ?_
              refine g_not rfl rfl rfl ?_
              refine g_not rfl rfl rfl ?_
              refine g_not rfl rfl rfl ?_
              refine g_not rfl rfl rfl ?_
              refine g_not rfl rfl rfl ?_
              refine g_not rfl rfl rfl ?_
              refine g_val rfl rfl rfl (y_pick_f rfl rfl) ?_
              refine g_val rfl rfl rfl (y_move rfl) ?_
              refine g_not rfl rfl rfl ?_
              refine g_not rfl rfl rfl ?_
              refine g_not rfl rfl rfl ?_
              refine g_not rfl rfl rfl ?_
              refine g_val rfl rfl rfl (y_pick_f rfl rfl) ?_
              refine g_val rfl rfl rfl (y_assign rfl) ?_
              refine g_nil (g_then (g_ret ?_))
              refine g_end1 Tryd.results3 rfl ?_
              exfalso
              first | omega | (simp_all; done)
          · skip
            refine g_not rfl rfl rfl ?_
            refine g_not rfl rfl rfl ?_
            refine g_val rfl rfl rfl (y_pick_f rfl rfl) ?_
            refine g_val rfl rfl rfl (y_move rfl) ?_
            refine g_not rfl rfl rfl ?_
            refine g_not rfl rfl rfl ?_
            refine g_not rfl rfl rfl ?_
            refine g_val rfl rfl rfl (y_pick_f rfl rfl) ?_
            refine g_val rfl rfl rfl (y_move rfl) ?_
            refine g_not rfl rfl rfl ?_
            refine g_not rfl rfl rfl ?_
            refine g_not rfl rfl rfl ?_
            refine g_not rfl rfl rfl ?_
            refine g_not rfl rfl rfl ?_
            refine g_not rfl rfl rfl ?_
            refine g_not rfl rfl rfl ?_
            refine g_val rfl rfl rfl (y_pick_f rfl rfl) ?_
            refine g_val rfl rfl rfl (y_move rfl) ?_
            refine g_not rfl rfl rfl ?_
            refine g_not rfl rfl rfl ?_
            refine g_not rfl rfl rfl ?_
            refine g_not rfl rfl rfl ?_
            refine g_val rfl rfl rfl (y_pick_f rfl rfl) ?_
            refine g_val rfl rfl rfl (y_assign rfl) ?_
            refine g_nil (g_then (g_ret ?_))
            refine g_end1 Tryd.results3 rfl ?_
            exfalso
            first | omega | (simp_all; done)
        · skip
          refine g_not rfl rfl rfl ?_
          refine g_not rfl rfl rfl ?_
          refine g_val rfl rfl rfl (y_pick_f rfl rfl) ?_
          refine g_val rfl rfl rfl (y_move rfl) ?_
          refine g_not rfl rfl rfl ?_
          refine g_not rfl rfl rfl ?_
          refine g_val rfl rfl rfl (y_pick_f rfl rfl) ?_
          refine g_val rfl rfl rfl (y_move rfl) ?_
          refine g_not rfl rfl rfl ?_
          refine g_not rfl rfl rfl ?_
          refine g_not rfl rfl rfl ?_
          refine g_val rfl rfl rfl (y_pick_f rfl rfl) ?_
          refine g_val rfl rfl rfl (y_move rfl) ?_
          refine g_not rfl rfl rfl ?_
          refine g_not rfl rfl rfl ?_
          refine g_not rfl rfl rfl ?_
          refine g_not rfl rfl rfl ?_
          refine g_not rfl rfl rfl ?_
          refine g_not rfl rfl rfl ?_
          refine g_not rfl rfl rfl ?_
          refine g_val rfl rfl rfl (y_pick_f rfl rfl) ?_
          refine g_val rfl rfl rfl (y_move rfl) ?_
          refine g_not rfl rfl rfl ?_
          refine g_not rfl rfl rfl ?_
          refine g_not rfl rfl rfl ?_
          refine g_not rfl rfl rfl ?_
          refine g_val rfl rfl rfl (y_pick_f rfl rfl) ?_
          refine g_val rfl rfl rfl (y_assign rfl) ?_
          refine g_nil (g_then (g_ret ?_))
          refine g_end1 Tryd.results3 rfl ?_
          exfalso
          first | omega | (simp_all; done)

end Go.Proofs.YthikabfmgmbbcaaDoor
