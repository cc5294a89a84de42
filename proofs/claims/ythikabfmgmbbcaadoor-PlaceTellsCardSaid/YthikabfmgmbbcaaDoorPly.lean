/- The document's index; orders; texts. -/
import Derived.Test.YthikabfmgmbbcaaDoorPlx
namespace Go.Proofs.YthikabfmgmbbcaaDoor
open Go Go.RowKit


theorem rindex_any (s : ByteArray) (u v : Nat) (R0 : Int × Int) (hs : s.size ≤ 1073741824) (hR : idxR s u v = R0) (w : World) :
    Calls Tryd.prog 14 #[.string s, .complex .f64 u v] w fun e w' => e = .returned (ixV R0) ∧ Below w.heap.size w w' := by
  refine fn_intro Tryd.func14 rfl Tryd.ntmps14 rfl rfl ?_
  refine g_seq (g_ops ?_)
  refine g_val rfl rfl rfl (y_assign rfl) ?_
  refine g_val rfl rfl rfl (y_assign rfl) ?_
  refine g_nil (g_then (g_seq (g_seq (g_ops ?_))))
  refine g_val rfl rfl rfl (y_assign rfl) ?_
  refine g_nil (g_then (g_block ?_))
  refine g_loop (α := {x : Int // 0 ≤ x ∧ x ≤ s.size + 1 ∧ ∀ k : Int, 0 ≤ k → k < x → hit s u v k = false}) (fun x => [(0, .string s), (1, .complex .f64 u v), (6, .int .i64 x.1)]) (fun x => St w [] []) (fun x => (s.size + 1) - x.1.toNat) ⟨0, by omega, by omega, fun k h0 h1 => by omega⟩ [0, 1, 6] rfl (fun w h => h.sub .slnil) ?_
  rintro ⟨n, hx⟩
  dsimp only
  obtain ⟨hn0, hn1, hh⟩ := hx
  refine g_seq (g_seq (g_ops ?_))
  refine g_val rfl rfl rfl (y_move rfl) ?_
  refine g_val rfl rfl rfl (y_move rfl) ?_
  refine g_val rfl rfl rfl (y_slen rfl Tryd.underlying9) ?_
  refine g_val rfl rfl rfl (y_ile rfl rfl) ?_
  refine g_nil (g_then ?_)
  first | refine g_casep 12 rfl (fun h1 => ?_) (fun h1 => ?_) | refine g_caseb 12 rfl (fun h1 => ?_) (fun h1 => ?_)
  · skip
    refine g_cond_t rfl (g_skip (g_then (g_seq (g_block (g_seq (g_ops ?_))))))
    refine g_val rfl rfl rfl (y_move rfl) ?_
    refine g_val rfl rfl rfl (y_move rfl) ?_
    refine g_call1 rfl rfl rfl Tryd.call12 (fun w hS => rat_any s n _ (by omega) rfl w) ?_
    refine g_val rfl rfl rfl (y_move rfl) ?_
    refine g_val rfl rfl rfl (y_extract rfl rfl) ?_
    refine g_val rfl rfl rfl (y_extract rfl rfl) ?_
    refine g_val rfl rfl rfl (y_assign rfl) ?_
    refine g_val rfl rfl rfl (y_assign rfl) ?_
    refine g_nil (g_then (g_seq (g_ops ?_)))
    refine g_val rfl rfl rfl (y_move rfl) ?_
    refine g_val rfl rfl rfl (y_move rfl) ?_
    refine g_val rfl rfl rfl ((by first | exact y_ceqI rfl rfl (by omega) (by omega) (by omega) (by omega) | exact y_ceq rfl rfl)) ?_
    refine g_nil (g_then ?_)
    first | refine g_casep 23 rfl (fun h2 => ?_) (fun h2 => ?_) | refine g_caseb 23 rfl (fun h2 => ?_) (fun h2 => ?_)
    · skip
      refine g_cond_t rfl (g_seq (g_ops ?_))
      refine g_val rfl rfl rfl (y_move rfl) ?_
      refine g_val rfl rfl rfl (y_assign rfl) ?_
      refine g_val rfl rfl rfl (y_assign rfl) ?_
      refine g_nil (g_then (g_ret (g_in_ret (g_then_ret (g_then_ret (g_in_ret (g_then_ret ?_)))))))
      refine g_end2 Tryd.results14 rfl rfl ?_
      exact fun w hS => ⟨ret_ix (hR.symm.trans (by first | exact idx_hit s u v n (by omega) (by omega) (by unfold hit; assumption) hh | exact idx_none s u v (fun k h0 h1 => hh k h0 (by omega)))), hS.below⟩
    · skip
      refine g_cond_f rfl (g_skip (g_in_normal (g_then (g_ops ?_))))
      refine g_val rfl rfl rfl (y_move rfl) ?_
      refine g_val rfl rfl rfl (by first | exact y_addi rfl rfl (by first | omega | (simp only [size_mk, ByteArray.size_append, ByteArray.size_extract]; omega)) | exact y_iadd rfl rfl) ?_
      refine g_val rfl rfl rfl (y_assign rfl) ?_
      refine g_nil ?_
      exact g_again ⟨n + 1, by omega, by omega, fun k h0 h1 => if q : k = n then by rw [q]; unfold hit; simp_all else hh k h0 (by omega)⟩ [0, 1, 6] (by dsimp only; omega) rfl (fun w h => h.sub .slnil)
  · skip
    refine g_cond_f rfl (g_exit (g_then_exit (g_then_exit (g_in_exit (g_then (g_seq (g_ops ?_)))))))
    refine g_val rfl rfl rfl (y_assign rfl) ?_
    refine g_val rfl rfl rfl (y_assign rfl) ?_
    refine g_nil (g_then (g_ret ?_))
    refine g_end2 Tryd.results14 rfl rfl ?_
    exact fun w hS => ⟨ret_ix (hR.symm.trans (by first | exact idx_hit s u v n (by omega) (by omega) (by unfold hit; assumption) hh | exact idx_none s u v (fun k h0 h1 => hh k h0 (by omega)))), hS.below⟩

theorem order_any (u v : Nat) (w : World) :
    Calls Tryd.prog 24 #[.float .f64 u, .float .f64 v] w fun e w' => e = .returned (.int .i64 (ordI u v)) ∧ Below w.heap.size w w' := by
  refine fn_intro Tryd.func24 rfl Tryd.ntmps24 rfl rfl ?_
  refine g_seq (g_ops ?_)
  refine g_val rfl rfl rfl (y_assign rfl) ?_
  refine g_nil (g_then (g_seq (g_block (g_seq (g_ops ?_)))))
  refine g_val rfl rfl rfl (y_move rfl) ?_
  refine g_val rfl rfl rfl (y_move rfl) ?_
  refine g_val rfl rfl rfl ((by first | exact y_fneI rfl rfl (by omega) (by omega) | exact y_fne rfl rfl)) ?_
  refine g_val rfl rfl rfl (y_move rfl) ?_
  first | refine g_casep 9 rfl (fun h1 => ?_) (fun h1 => ?_) | refine g_caseb 9 rfl (fun h1 => ?_) (fun h1 => ?_)
  · skip
    refine g_val rfl rfl rfl (y_move rfl) ?_
    refine g_val rfl rfl rfl (y_move rfl) ?_
    refine g_val rfl rfl rfl ((by first | exact y_fneI rfl rfl (by omega) (by omega) | exact y_fne rfl rfl)) ?_
    refine g_val rfl rfl rfl (y_pick_t rfl rfl) ?_
    refine g_val rfl rfl rfl (y_assign rfl) ?_
    refine g_nil (g_then ?_)
    first | refine g_casep 5 rfl (fun h2 => ?_) (fun h2 => ?_) | refine g_caseb 5 rfl (fun h2 => ?_) (fun h2 => ?_)
    · skip
      refine g_cond_t rfl (g_seq (g_ops ?_))
      refine g_val rfl rfl rfl (y_assign rfl) ?_
      refine g_nil (g_then (g_ret (g_in_ret (g_then_ret ?_))))
      refine g_end1 Tryd.results24 rfl ?_
      exact fun w hS => ⟨ret_int (by unfold ordI; simp_all), hS.below⟩
    · skip
      refine g_cond_f rfl (g_seq (g_ops ?_))
      refine g_val rfl rfl rfl (y_move rfl) ?_
      refine g_val rfl rfl rfl (y_move rfl) ?_
      refine g_val rfl rfl rfl ((by first | exact y_fneI rfl rfl (by omega) (by omega) | exact y_fne rfl rfl)) ?_
      refine g_val rfl rfl rfl (y_assign rfl) ?_
      refine g_nil (g_then ?_)
      first | refine g_casep 14 rfl (fun h3 => ?_) (fun h3 => ?_) | refine g_caseb 14 rfl (fun h3 => ?_) (fun h3 => ?_)
      · skip
        refine g_cond_t rfl (g_seq (g_ops ?_))
        refine g_val rfl rfl rfl (y_assign rfl) ?_
        refine g_nil (g_then (g_ret (g_in_ret (g_then_ret ?_))))
        refine g_end1 Tryd.results24 rfl ?_
        exact fun w hS => ⟨ret_int (by unfold ordI; simp_all), hS.below⟩
      · skip
        refine g_cond_f rfl (g_seq (g_ops ?_))
        refine g_val rfl rfl rfl (y_move rfl) ?_
        refine g_val rfl rfl rfl (y_move rfl) ?_
        refine g_val rfl rfl rfl ((by first | exact y_fneI rfl rfl (by omega) (by omega) | exact y_fne rfl rfl)) ?_
        refine g_val rfl rfl rfl (y_assign rfl) ?_
        refine g_nil (g_then ?_)
        first | refine g_casep 18 rfl (fun h4 => ?_) (fun h4 => ?_) | refine g_caseb 18 rfl (fun h4 => ?_) (fun h4 => ?_)
        · skip
          refine g_cond_t rfl (g_seq (g_ops ?_))
          refine g_val rfl rfl rfl (y_assign rfl) ?_
          refine g_nil (g_then (g_ret (g_in_ret (g_then_ret ?_))))
          refine g_end1 Tryd.results24 rfl ?_
          exact fun w hS => ⟨ret_int (by unfold ordI; simp_all), hS.below⟩
        · skip
          refine g_cond_f rfl (g_seq (g_ops ?_))
          refine g_val rfl rfl rfl (y_move rfl) ?_
          refine g_val rfl rfl rfl (y_move rfl) ?_
          refine g_val rfl rfl rfl (y_flt rfl rfl) ?_
          refine g_val rfl rfl rfl (y_assign rfl) ?_
          refine g_nil (g_then ?_)
          first | refine g_casep 22 rfl (fun h5 => ?_) (fun h5 => ?_) | refine g_caseb 22 rfl (fun h5 => ?_) (fun h5 => ?_)
          · skip
            refine g_cond_t rfl (g_seq (g_ops ?_))
            refine g_val rfl rfl rfl (y_assign rfl) ?_
            refine g_nil (g_then (g_ret (g_in_ret (g_then_ret ?_))))
            refine g_end1 Tryd.results24 rfl ?_
            exact fun w hS => ⟨ret_int (by unfold ordI; simp_all), hS.below⟩
          · skip
            refine g_cond_f rfl (g_seq (g_ops ?_))
            refine g_val rfl rfl rfl (y_move rfl) ?_
            refine g_val rfl rfl rfl (y_move rfl) ?_
            refine g_val rfl rfl rfl (y_fgt rfl rfl) ?_
            refine g_val rfl rfl rfl (y_assign rfl) ?_
            refine g_nil (g_then ?_)
            first | refine g_casep 26 rfl (fun h6 => ?_) (fun h6 => ?_) | refine g_caseb 26 rfl (fun h6 => ?_) (fun h6 => ?_)
            · skip
              refine g_cond_t rfl (g_seq (g_ops ?_))
              refine g_val rfl rfl rfl (y_assign rfl) ?_
              refine g_nil (g_then (g_ret (g_in_ret (g_then_ret ?_))))
              refine g_end1 Tryd.results24 rfl ?_
              exact fun w hS => ⟨ret_int (by unfold ordI; simp_all), hS.below⟩
            · skip
              refine g_cond_f rfl (g_skip (g_in_normal (g_then (g_seq (g_ops ?_)))))
              refine g_val rfl rfl rfl (y_assign rfl) ?_
              refine g_nil (g_then (g_ret ?_))
              refine g_end1 Tryd.results24 rfl ?_
              exact fun w hS => ⟨ret_int (by unfold ordI; simp_all), hS.below⟩
  · skip
    refine g_not rfl rfl rfl ?_
    refine g_not rfl rfl rfl ?_
    refine g_not rfl rfl rfl ?_
    refine g_val rfl rfl rfl (y_pick_f rfl rfl) ?_
    refine g_val rfl rfl rfl (y_assign rfl) ?_
    refine g_nil (g_then (g_cond_f rfl (g_seq (g_ops ?_))))
    refine g_val rfl rfl rfl (y_move rfl) ?_
    refine g_val rfl rfl rfl (y_move rfl) ?_
    refine g_val rfl rfl rfl ((by first | exact y_fneI rfl rfl (by omega) (by omega) | exact y_fne rfl rfl)) ?_
    refine g_val rfl rfl rfl (y_assign rfl) ?_
    refine g_nil (g_then ?_)
    first | refine g_casep 14 rfl (fun h7 => ?_) (fun h7 => ?_) | refine g_caseb 14 rfl (fun h7 => ?_) (fun h7 => ?_)
    · skip
      refine g_cond_t rfl (g_seq (g_ops ?_))
      refine g_val rfl rfl rfl (y_assign rfl) ?_
      refine g_nil (g_then (g_ret (g_in_ret (g_then_ret ?_))))
      refine g_end1 Tryd.results24 rfl ?_
      exact fun w hS => ⟨ret_int (by unfold ordI; simp_all), hS.below⟩
    · skip
      refine g_cond_f rfl (g_seq (g_ops ?_))
      refine g_val rfl rfl rfl (y_move rfl) ?_
      refine g_val rfl rfl rfl (y_move rfl) ?_
      refine g_val rfl rfl rfl ((by first | exact y_fneI rfl rfl (by omega) (by omega) | exact y_fne rfl rfl)) ?_
      refine g_val rfl rfl rfl (y_assign rfl) ?_
      refine g_nil (g_then ?_)
      first | refine g_casep 18 rfl (fun h8 => ?_) (fun h8 => ?_) | refine g_caseb 18 rfl (fun h8 => ?_) (fun h8 => ?_)
      · skip
        refine g_cond_t rfl (g_seq (g_ops ?_))
        refine g_val rfl rfl rfl (y_assign rfl) ?_
        refine g_nil (g_then (g_ret (g_in_ret (g_then_ret ?_))))
        refine g_end1 Tryd.results24 rfl ?_
        exact fun w hS => ⟨ret_int (by unfold ordI; simp_all), hS.below⟩
      · skip
        refine g_cond_f rfl (g_seq (g_ops ?_))
        refine g_val rfl rfl rfl (y_move rfl) ?_
        refine g_val rfl rfl rfl (y_move rfl) ?_
        refine g_val rfl rfl rfl (y_flt rfl rfl) ?_
        refine g_val rfl rfl rfl (y_assign rfl) ?_
        refine g_nil (g_then ?_)
        first | refine g_casep 22 rfl (fun h9 => ?_) (fun h9 => ?_) | refine g_caseb 22 rfl (fun h9 => ?_) (fun h9 => ?_)
        · skip
          refine g_cond_t rfl (g_seq (g_ops ?_))
          refine g_val rfl rfl rfl (y_assign rfl) ?_
          refine g_nil (g_then (g_ret (g_in_ret (g_then_ret ?_))))
          refine g_end1 Tryd.results24 rfl ?_
          exact fun w hS => ⟨ret_int (by unfold ordI; simp_all), hS.below⟩
        · skip
          refine g_cond_f rfl (g_seq (g_ops ?_))
          refine g_val rfl rfl rfl (y_move rfl) ?_
          refine g_val rfl rfl rfl (y_move rfl) ?_
          refine g_val rfl rfl rfl (y_fgt rfl rfl) ?_
          refine g_val rfl rfl rfl (y_assign rfl) ?_
          refine g_nil (g_then ?_)
          first | refine g_casep 26 rfl (fun h10 => ?_) (fun h10 => ?_) | refine g_caseb 26 rfl (fun h10 => ?_) (fun h10 => ?_)
          · skip
            refine g_cond_t rfl (g_seq (g_ops ?_))
            refine g_val rfl rfl rfl (y_assign rfl) ?_
            refine g_nil (g_then (g_ret (g_in_ret (g_then_ret ?_))))
            refine g_end1 Tryd.results24 rfl ?_
            exact fun w hS => ⟨ret_int (by unfold ordI; simp_all), hS.below⟩
          · skip
            refine g_cond_f rfl (g_skip (g_in_normal (g_then (g_seq (g_ops ?_)))))
            refine g_val rfl rfl rfl (y_assign rfl) ?_
            refine g_nil (g_then (g_ret ?_))
            refine g_end1 Tryd.results24 rfl ?_
            exact fun w hS => ⟨ret_int (by unfold ordI; simp_all), hS.below⟩

theorem isNaN_any (u : Nat) (w : World) :
    Calls Tryd.prog 27 #[.float .f64 u] w fun e w' => e = .returned (.bool (!feq u u)) ∧ Below w.heap.size w w' := by
  refine fn_intro Tryd.func27 rfl Tryd.ntmps27 rfl rfl ?_
  refine g_seq (g_ops ?_)
  refine g_val rfl rfl rfl (y_assign rfl) ?_
  refine g_nil (g_then (g_seq (g_ops ?_)))
  refine g_val rfl rfl rfl (y_move rfl) ?_
  refine g_val rfl rfl rfl (y_move rfl) ?_
  refine g_val rfl rfl rfl ((by first | exact y_fneI rfl rfl (by omega) (by omega) | exact y_fne rfl rfl)) ?_
  refine g_val rfl rfl rfl (y_assign rfl) ?_
  refine g_nil (g_then (g_ret ?_))
  refine g_end1 Tryd.results27 rfl ?_
  exact fun w hS => ⟨rfl, hS.below⟩

theorem cmpf_any (u v : Nat) (w : World) :
    Calls Tryd.prog 23 #[.float .f64 u, .float .f64 v] w fun e w' => e = .returned (.int .i64 (ordI u v)) ∧ Below w.heap.size w w' := by
  refine fn_intro Tryd.func23 rfl Tryd.ntmps23 rfl rfl ?_
  refine g_seq (g_ops ?_)
  refine g_val rfl rfl rfl (y_assign rfl) ?_
  refine g_nil (g_then (g_seq (g_ops ?_)))
  refine g_val rfl rfl rfl (y_move rfl) ?_
  refine g_call1 rfl rfl rfl Tryd.call27 (fun w hS => isNaN_any _ w) ?_
  refine g_val rfl rfl rfl (y_assign rfl) ?_
  refine g_nil (g_then (g_seq (g_ops ?_)))
  refine g_val rfl rfl rfl (y_move rfl) ?_
  refine g_call1 rfl rfl rfl Tryd.call27 (fun w hS => isNaN_any _ w) ?_
  refine g_val rfl rfl rfl (y_assign rfl) ?_
  refine g_nil (g_then (g_seq (g_seq (g_ops ?_))))
  refine g_val rfl rfl rfl (y_move rfl) ?_
  refine g_nil (g_then ?_)
  first | refine g_casep 11 rfl (fun h1 => ?_) (fun h1 => ?_) | refine g_caseb 11 rfl (fun h1 => ?_) (fun h1 => ?_)
  · skip
    refine g_cond_t rfl (g_seq (g_seq (g_ops ?_)))
    refine g_val rfl rfl rfl (y_move rfl) ?_
    refine g_nil (g_then ?_)
    first | refine g_casep 12 rfl (fun h2 => ?_) (fun h2 => ?_) | refine g_caseb 12 rfl (fun h2 => ?_) (fun h2 => ?_)
    · skip
      refine g_cond_t rfl (g_seq (g_ops ?_))
      refine g_val rfl rfl rfl (y_assign rfl) ?_
      refine g_nil (g_then (g_ret (g_then_ret (g_then_ret ?_))))
      refine g_end1 Tryd.results23 rfl ?_
      exact fun w hS => ⟨ret_int (by unfold ordI; simp_all), hS.below⟩
    · skip
      refine g_cond_f rfl (g_skip (g_then (g_seq (g_ops ?_))))
      refine g_val rfl rfl rfl (y_assign rfl) ?_
      refine g_nil (g_then (g_ret (g_then_ret ?_)))
      refine g_end1 Tryd.results23 rfl ?_
      exact fun w hS => ⟨ret_int (by unfold ordI; simp_all), hS.below⟩
  · skip
    refine g_cond_f rfl (g_skip (g_then (g_seq (g_seq (g_ops ?_)))))
    refine g_val rfl rfl rfl (y_move rfl) ?_
    refine g_nil (g_then ?_)
    first | refine g_casep 13 rfl (fun h3 => ?_) (fun h3 => ?_) | refine g_caseb 13 rfl (fun h3 => ?_) (fun h3 => ?_)
    · skip
      refine g_cond_t rfl (g_seq (g_ops ?_))
      refine g_val rfl rfl rfl (y_assign rfl) ?_
      refine g_nil (g_then (g_ret (g_then_ret ?_)))
      refine g_end1 Tryd.results23 rfl ?_
      exact fun w hS => ⟨ret_int (by unfold ordI; simp_all), hS.below⟩
    · skip
      refine g_cond_f rfl (g_skip (g_then (g_seq (g_seq (g_ops ?_)))))
      refine g_val rfl rfl rfl (y_move rfl) ?_
      refine g_val rfl rfl rfl (y_move rfl) ?_
      refine g_val rfl rfl rfl (y_flt rfl rfl) ?_
      refine g_nil (g_then ?_)
      first | refine g_casep 16 rfl (fun h4 => ?_) (fun h4 => ?_) | refine g_caseb 16 rfl (fun h4 => ?_) (fun h4 => ?_)
      · skip
        refine g_cond_t rfl (g_seq (g_ops ?_))
        refine g_val rfl rfl rfl (y_assign rfl) ?_
        refine g_nil (g_then (g_ret (g_then_ret ?_)))
        refine g_end1 Tryd.results23 rfl ?_
        exact fun w hS => ⟨ret_int (by unfold ordI; simp_all), hS.below⟩
      · skip
        refine g_cond_f rfl (g_skip (g_then (g_seq (g_seq (g_ops ?_)))))
        refine g_val rfl rfl rfl (y_move rfl) ?_
        refine g_val rfl rfl rfl (y_move rfl) ?_
        refine g_val rfl rfl rfl (y_fgt rfl rfl) ?_
        refine g_nil (g_then ?_)
        first | refine g_casep 19 rfl (fun h5 => ?_) (fun h5 => ?_) | refine g_caseb 19 rfl (fun h5 => ?_) (fun h5 => ?_)
        · skip
          refine g_cond_t rfl (g_seq (g_ops ?_))
          refine g_val rfl rfl rfl (y_assign rfl) ?_
          refine g_nil (g_then (g_ret (g_then_ret ?_)))
          refine g_end1 Tryd.results23 rfl ?_
          exact fun w hS => ⟨ret_int (by unfold ordI; simp_all), hS.below⟩
        · skip
          refine g_cond_f rfl (g_skip (g_then (g_seq (g_ops ?_))))
          refine g_val rfl rfl rfl (y_assign rfl) ?_
          refine g_nil (g_then (g_ret ?_))
          refine g_end1 Tryd.results23 rfl ?_
          exact fun w hS => ⟨ret_int (by unfold ordI; simp_all), hS.below⟩

theorem rcompare_any (u v u' v' : Nat) (w : World) :
    Calls Tryd.prog 18 #[.complex .f64 u v, .complex .f64 u' v'] w fun e w' => e = .returned (.int .i64 (cmpI u v u' v')) ∧ Below w.heap.size w w' := by
  refine fn_intro Tryd.func18 rfl Tryd.ntmps18 rfl rfl ?_
  refine g_seq (g_ops ?_)
  refine g_val rfl rfl rfl (y_assign rfl) ?_
  refine g_nil (g_then (g_seq (g_ops ?_)))
  refine g_val rfl rfl rfl (y_move rfl) ?_
  refine g_val rfl rfl rfl (y_real rfl) ?_
  refine g_val rfl rfl rfl (y_move rfl) ?_
  refine g_val rfl rfl rfl (y_real rfl) ?_
  refine g_call1 rfl rfl rfl Tryd.call24 (fun w hS => order_any _ _ w) ?_
  refine g_val rfl rfl rfl (y_assign rfl) ?_
  refine g_nil (g_then (g_seq (g_seq (g_ops ?_))))
  refine g_val rfl rfl rfl (y_move rfl) ?_
  refine g_val rfl rfl rfl (y_ine rfl rfl) ?_
  refine g_nil (g_then ?_)
  first | refine g_casep 12 rfl (fun h1 => ?_) (fun h1 => ?_) | refine g_caseb 12 rfl (fun h1 => ?_) (fun h1 => ?_)
  · skip
    refine g_cond_t rfl (g_seq (g_ops ?_))
    refine g_val rfl rfl rfl (y_move rfl) ?_
    refine g_val rfl rfl rfl (y_assign rfl) ?_
    refine g_nil (g_then (g_ret (g_then_ret ?_)))
    refine g_end1 Tryd.results18 rfl ?_
    exact fun w hS => ⟨ret_int (by unfold cmpI; simp_all), hS.below⟩
  · skip
    refine g_cond_f rfl (g_skip (g_then (g_seq (g_ops ?_))))
    refine g_val rfl rfl rfl (y_move rfl) ?_
    refine g_val rfl rfl rfl (y_imag rfl) ?_
    refine g_val rfl rfl rfl (y_move rfl) ?_
    refine g_val rfl rfl rfl (y_imag rfl) ?_
    refine g_call1 rfl rfl rfl Tryd.call24 (fun w hS => order_any _ _ w) ?_
    refine g_val rfl rfl rfl (y_assign rfl) ?_
    refine g_nil (g_then (g_ret ?_))
    refine g_end1 Tryd.results18 rfl ?_
    exact fun w hS => ⟨ret_int (by unfold cmpI; simp_all), hS.below⟩

theorem same_any (u v u' v' : Nat) (w : World) :
    Calls Tryd.prog 15 #[.complex .f64 u v, .complex .f64 u' v'] w fun e w' => e = .returned (.bool (decide (cmpI u v u' v' = 0))) ∧ Below w.heap.size w w' := by
  refine fn_intro Tryd.func15 rfl Tryd.ntmps15 rfl rfl ?_
  refine g_seq (g_ops ?_)
  refine g_val rfl rfl rfl (y_assign rfl) ?_
  refine g_nil (g_then (g_seq (g_ops ?_)))
  refine g_val rfl rfl rfl (y_move rfl) ?_
  refine g_val rfl rfl rfl (y_move rfl) ?_
  refine g_call1 rfl rfl rfl Tryd.call18 (fun w hS => rcompare_any _ _ _ _ w) ?_
  refine g_val rfl rfl rfl (y_ieq rfl rfl) ?_
  refine g_val rfl rfl rfl (y_assign rfl) ?_
  refine g_nil (g_then (g_ret ?_))
  refine g_end1 Tryd.results15 rfl ?_
  exact fun w hS => ⟨rfl, hS.below⟩

end Go.Proofs.YthikabfmgmbbcaaDoor
