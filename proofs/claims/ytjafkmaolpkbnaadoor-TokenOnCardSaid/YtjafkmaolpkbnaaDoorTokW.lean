/- The document's lines; TokenReads. -/
import Derived.Test.YtjafkmaolpkbnaaDoorTokV
namespace Go.Proofs.YtjafkmaolpkbnaaDoor
open Go Go.RowKit

theorem lin_start2 (s : ByteArray) (i b : Int) (h : 0 ≤ i ∧ i ≤ s.size) (hb : b = blkR s i) (h2 : b + 2 ≤ s.size) (h3 : bt s b = 92) (h4 : bt s (b + 1) = 10) : linR s i = finR s (linM false (from_ s (b + 2)) []) := by
  have hbb := blk_bd s i h
  have q1 := from_at s b (by omega) (by omega)
  have q2 := from_at s (b + 1) (by omega) (by omega)
  rw [(bt_92 s b).1 h3, q2, (bt_10 s (b + 1)).1 h4, show b + 1 + 1 = b + 2 by omega] at q1
  unfold linR
  rw [if_pos h, ← hb, q1]
  rfl
theorem lin_no2 (s : ByteArray) (i b : Int) (hb : b = blkR s i) (h2 : ¬ (0 ≤ i ∧ i ≤ s.size) ∨ s.size - b < 2 ∨ bt s b ≠ 92 ∨ bt s (b + 1) ≠ 10) : linR s i = (⟨#[]⟩, 0, 121) := by
  unfold linR
  by_cases h : 0 ≤ i ∧ i ≤ s.size
  · have hbb := blk_bd s i h
    rw [if_pos h, ← hb]
    split
    · rename_i r q
      exfalso
      have hl := from_len s b (by omega) (by omega)
      rw [q] at hl
      simp only [List.length_cons] at hl
      have q1 := from_at s b (by omega) (by omega)
      have q2 := from_at s (b + 1) (by omega) (by omega)
      rw [q, q2] at q1
      simp only [List.cons.injEq] at q1
      have e1 := (bt_92 s b).2 q1.1.symm
      have e2 := (bt_10 s (b + 1)).2 q1.2.1.symm
      omega
    · rfl
  · rw [if_neg h]

theorem rlines_any (s : ByteArray) (i : Int) (R0 : ByteArray × Int × Int) (hs : s.size ≤ 1073741824) (hR : linR s i = R0) (w : World) :
    Calls Tryd.prog 16 #[.string s, .int .i64 i] w fun e w' => e = .returned (cutV R0) ∧ Below w.heap.size w w' := by
  refine fn_intro Tryd.func16 rfl Tryd.ntmps16 rfl rfl ?_
  refine g_seq (g_ops ?_)
  refine g_val rfl rfl rfl (y_assign rfl) ?_
  refine g_val rfl rfl rfl (y_assign rfl) ?_
  refine g_val rfl rfl rfl (y_assign rfl) ?_
  refine g_nil (g_then (g_seq (g_ops ?_)))
  refine g_val rfl rfl rfl (y_move rfl) ?_
  refine g_val rfl rfl rfl (y_move rfl) ?_
  refine g_call1 rfl rfl rfl Tryd.call23 (fun w hS => rplace_any _ _ w) ?_
  refine g_val rfl rfl rfl (y_assign rfl) ?_
  refine g_nil (g_then (g_seq (g_ops ?_)))
  refine g_val rfl rfl rfl (y_move rfl) ?_
  refine g_val rfl rfl rfl (y_move rfl) ?_
  obtain ⟨b, hb⟩ : ∃ b, b = blkR s i := ⟨_, rfl⟩
  have hbb := blk_bd s i
  rw [← hb] at hbb
  refine g_call1 rfl rfl rfl Tryd.call17 (fun w hS => rblanks_any s i b (by omega) hb.symm w) ?_
  refine g_val rfl rfl rfl (y_assign rfl) ?_
  refine g_nil (g_then (g_seq (g_seq (g_ops ?_))))
  refine g_val rfl rfl rfl (y_move rfl) ?_
  refine g_val rfl rfl rfl ((by first | exact y_notp rfl | exact y_not rfl)) ?_
  refine g_val rfl rfl rfl (y_move rfl) ?_
  first | refine g_casep 18 rfl (fun h1 => ?_) (fun h1 => ?_) | refine g_caseb 18 rfl (fun h1 => ?_) (fun h1 => ?_)
  · skip
    refine g_not rfl rfl rfl ?_
    refine g_not rfl rfl rfl ?_
    refine g_not rfl rfl rfl ?_
    refine g_not rfl rfl rfl ?_
    refine g_not rfl rfl rfl ?_
    refine g_val rfl rfl rfl (y_pick_t rfl rfl) ?_
    refine g_val rfl rfl rfl (y_move rfl) ?_
    refine g_not rfl rfl rfl ?_
    refine g_not rfl rfl rfl ?_
    refine g_not rfl rfl rfl ?_
    refine g_not rfl rfl rfl ?_
    refine g_val rfl rfl rfl (y_pick_t rfl rfl) ?_
    refine g_val rfl rfl rfl (y_move rfl) ?_
    refine g_not rfl rfl rfl ?_
    refine g_not rfl rfl rfl ?_
    refine g_not rfl rfl rfl ?_
    refine g_not rfl rfl rfl ?_
    refine g_not rfl rfl rfl ?_
    refine g_val rfl rfl rfl (y_pick_t rfl rfl) ?_
    refine g_nil (g_then (g_cond_t rfl (g_seq (g_ops ?_))))
    refine g_val rfl rfl rfl (y_assign rfl) ?_
    refine g_val rfl rfl rfl (y_assign rfl) ?_
    refine g_val rfl rfl rfl (y_assign rfl) ?_
    refine g_nil (g_then (g_ret (g_then_ret ?_)))
    refine g_end3 Tryd.results16 rfl rfl rfl ?_
    exact fun w hS => ⟨ret_cut (by first | exact hR.symm.trans (lin_no2 s i b hb (by omega)) | (rw [show t ++ (⟨[10].toArray⟩ : ByteArray) = (⟨(t.data.toList ++ [10]).toArray⟩ : ByteArray) from ba_ext (by rw [app_data])]; first | exact hc.symm.trans (lin_end s j _ (by omega)) | exact hc.symm.trans (lin_10 s j _ (by omega) (by omega) (by omega))) | exact hc.symm.trans ((lin_92 s j _ (by omega) (by omega) (by omega)).trans (lin_e0 s (j + 1) _ (by omega)))), hS.below⟩
  · skip
    refine g_val rfl rfl rfl (y_move rfl) ?_
    refine g_val rfl rfl rfl (y_slen rfl Tryd.underlying9) ?_
    refine g_val rfl rfl rfl (y_move rfl) ?_
    refine g_val rfl rfl rfl (by first | exact y_subi rfl rfl (by first | omega | (simp only [size_mk, ByteArray.size_append, ByteArray.size_extract]; omega)) | exact y_isub rfl rfl) ?_
    refine g_val rfl rfl rfl (y_ilt rfl rfl) ?_
    refine g_val rfl rfl rfl (y_pick_f rfl rfl) ?_
    refine g_val rfl rfl rfl (y_move rfl) ?_
    first | refine g_casep 25 rfl (fun h2 => ?_) (fun h2 => ?_) | refine g_caseb 25 rfl (fun h2 => ?_) (fun h2 => ?_)
    · skip
      refine g_not rfl rfl rfl ?_
      refine g_not rfl rfl rfl ?_
      refine g_not rfl rfl rfl ?_
      refine g_not rfl rfl rfl ?_
      refine g_val rfl rfl rfl (y_pick_t rfl rfl) ?_
      refine g_val rfl rfl rfl (y_move rfl) ?_
      refine g_not rfl rfl rfl ?_
      refine g_not rfl rfl rfl ?_
      refine g_not rfl rfl rfl ?_
      refine g_not rfl rfl rfl ?_
      refine g_not rfl rfl rfl ?_
      refine g_val rfl rfl rfl (y_pick_t rfl rfl) ?_
      refine g_nil (g_then (g_cond_t rfl (g_seq (g_ops ?_))))
      refine g_val rfl rfl rfl (y_assign rfl) ?_
      refine g_val rfl rfl rfl (y_assign rfl) ?_
      refine g_val rfl rfl rfl (y_assign rfl) ?_
      refine g_nil (g_then (g_ret (g_then_ret ?_)))
      refine g_end3 Tryd.results16 rfl rfl rfl ?_
      exact fun w hS => ⟨ret_cut (by first | exact hR.symm.trans (lin_no2 s i b hb (by omega)) | (rw [show t ++ (⟨[10].toArray⟩ : ByteArray) = (⟨(t.data.toList ++ [10]).toArray⟩ : ByteArray) from ba_ext (by rw [app_data])]; first | exact hc.symm.trans (lin_end s j _ (by omega)) | exact hc.symm.trans (lin_10 s j _ (by omega) (by omega) (by omega))) | exact hc.symm.trans ((lin_92 s j _ (by omega) (by omega) (by omega)).trans (lin_e0 s (j + 1) _ (by omega)))), hS.below⟩
    · skip
      refine g_val rfl rfl rfl (y_move rfl) ?_
      refine g_val rfl rfl rfl (y_move rfl) ?_
      refine g_val rfl rfl rfl (y_sat rfl rfl Tryd.underlying9 (by omega) (by omega)) ?_
      refine g_val rfl rfl rfl (y_ine rfl rfl) ?_
      refine g_val rfl rfl rfl (y_pick_f rfl rfl) ?_
      refine g_val rfl rfl rfl (y_move rfl) ?_
      first | refine g_casep 31 rfl (fun h3 => ?_) (fun h3 => ?_) | refine g_caseb 31 rfl (fun h3 => ?_) (fun h3 => ?_)
      · skip
        refine g_not rfl rfl rfl ?_
        refine g_not rfl rfl rfl ?_
        refine g_not rfl rfl rfl ?_
        refine g_not rfl rfl rfl ?_
        refine g_not rfl rfl rfl ?_
        refine g_val rfl rfl rfl (y_pick_t rfl rfl) ?_
        refine g_nil (g_then (g_cond_t rfl (g_seq (g_ops ?_))))
        refine g_val rfl rfl rfl (y_assign rfl) ?_
        refine g_val rfl rfl rfl (y_assign rfl) ?_
        refine g_val rfl rfl rfl (y_assign rfl) ?_
        refine g_nil (g_then (g_ret (g_then_ret ?_)))
        refine g_end3 Tryd.results16 rfl rfl rfl ?_
        exact fun w hS => ⟨ret_cut (by first | exact hR.symm.trans (lin_no2 s i b hb (by omega)) | (rw [show t ++ (⟨[10].toArray⟩ : ByteArray) = (⟨(t.data.toList ++ [10]).toArray⟩ : ByteArray) from ba_ext (by rw [app_data])]; first | exact hc.symm.trans (lin_end s j _ (by omega)) | exact hc.symm.trans (lin_10 s j _ (by omega) (by omega) (by omega))) | exact hc.symm.trans ((lin_92 s j _ (by omega) (by omega) (by omega)).trans (lin_e0 s (j + 1) _ (by omega)))), hS.below⟩
      · skip
        refine g_val rfl rfl rfl (y_move rfl) ?_
        refine g_val rfl rfl rfl (y_move rfl) ?_
        refine g_val rfl rfl rfl (by first | exact y_addi rfl rfl (by first | omega | (simp only [size_mk, ByteArray.size_append, ByteArray.size_extract]; omega)) | exact y_iadd rfl rfl) ?_
        refine g_val rfl rfl rfl (y_sat rfl rfl Tryd.underlying9 (by omega) (by omega)) ?_
        refine g_val rfl rfl rfl (y_ine rfl rfl) ?_
        refine g_val rfl rfl rfl (y_pick_f rfl rfl) ?_
        refine g_nil (g_then ?_)
        first | refine g_casep 37 rfl (fun h4 => ?_) (fun h4 => ?_) | refine g_caseb 37 rfl (fun h4 => ?_) (fun h4 => ?_)
        · skip
          refine g_cond_t rfl (g_seq (g_ops ?_))
          refine g_val rfl rfl rfl (y_assign rfl) ?_
          refine g_val rfl rfl rfl (y_assign rfl) ?_
          refine g_val rfl rfl rfl (y_assign rfl) ?_
          refine g_nil (g_then (g_ret (g_then_ret ?_)))
          refine g_end3 Tryd.results16 rfl rfl rfl ?_
          exact fun w hS => ⟨ret_cut (by first | exact hR.symm.trans (lin_no2 s i b hb (by omega)) | (rw [show t ++ (⟨[10].toArray⟩ : ByteArray) = (⟨(t.data.toList ++ [10]).toArray⟩ : ByteArray) from ba_ext (by rw [app_data])]; first | exact hc.symm.trans (lin_end s j _ (by omega)) | exact hc.symm.trans (lin_10 s j _ (by omega) (by omega) (by omega))) | exact hc.symm.trans ((lin_92 s j _ (by omega) (by omega) (by omega)).trans (lin_e0 s (j + 1) _ (by omega)))), hS.below⟩
        · skip
          refine g_cond_f rfl (g_skip (g_then (g_seq (g_ops ?_))))
          refine g_val rfl rfl rfl (y_assign rfl) ?_
          refine g_nil (g_then (g_seq (g_seq (g_ops ?_))))
          refine g_val rfl rfl rfl (y_move rfl) ?_
          refine g_val rfl rfl rfl (by first | exact y_addi rfl rfl (by first | omega | (simp only [size_mk, ByteArray.size_append, ByteArray.size_extract]; omega)) | exact y_iadd rfl rfl) ?_
          refine g_val rfl rfl rfl (y_assign rfl) ?_
          refine g_nil (g_then (g_block ?_))
          refine g_loop (α := {x : Int × ByteArray // 0 ≤ x.1 ∧ x.1 ≤ s.size ∧ x.2.size ≤ x.1.toNat ∧ finR s (linM false (from_ s x.1) x.2.data.toList) = R0}) (fun x => [(0, .string s), (8, .int .i64 x.1.1), (9, .string x.1.2)]) (fun x => St w [] []) (fun x => s.size - x.1.1.toNat) ⟨(b + 2, ⟨#[]⟩), by dsimp only; omega, by dsimp only; omega, by dsimp only; rw [size_mk]; simp, by dsimp only; rw [← hR]; exact (lin_start2 s i b (by omega) hb (by omega) (by omega) (by omega)).symm⟩ [0, 8, 9] rfl (fun w h => h.sub .slnil) ?_
          rintro ⟨⟨j, t⟩, hx⟩
          dsimp only
          dsimp only at hx
          obtain ⟨hi0, hi1, hl, hc⟩ := hx
          refine g_seq (g_seq (g_ops ?_))
          refine g_val rfl rfl rfl (y_move rfl) ?_
          refine g_val rfl rfl rfl (y_move rfl) ?_
          refine g_val rfl rfl rfl (y_slen rfl Tryd.underlying9) ?_
          refine g_val rfl rfl rfl (y_ilt rfl rfl) ?_
          refine g_val rfl rfl rfl (y_move rfl) ?_
          first | refine g_casep 44 rfl (fun h5 => ?_) (fun h5 => ?_) | refine g_caseb 44 rfl (fun h5 => ?_) (fun h5 => ?_)
          · skip
            refine g_val rfl rfl rfl (y_move rfl) ?_
            refine g_val rfl rfl rfl (y_move rfl) ?_
            refine g_val rfl rfl rfl (y_sat rfl rfl Tryd.underlying9 (by omega) (by omega)) ?_
            refine g_val rfl rfl rfl (y_ine rfl rfl) ?_
            refine g_val rfl rfl rfl (y_pick_t rfl rfl) ?_
            refine g_nil (g_then ?_)
            first | refine g_casep 49 rfl (fun h6 => ?_) (fun h6 => ?_) | refine g_caseb 49 rfl (fun h6 => ?_) (fun h6 => ?_)
            · skip
              refine g_cond_t rfl (g_skip (g_then (g_seq (g_block (g_seq (g_seq (g_ops ?_)))))))
              refine g_val rfl rfl rfl (y_move rfl) ?_
              refine g_val rfl rfl rfl (y_move rfl) ?_
              refine g_val rfl rfl rfl (y_sat rfl rfl Tryd.underlying9 (by omega) (by omega)) ?_
              refine g_val rfl rfl rfl (y_ieq rfl rfl) ?_
              refine g_nil (g_then ?_)
              first | refine g_casep 55 rfl (fun h7 => ?_) (fun h7 => ?_) | refine g_caseb 55 rfl (fun h7 => ?_) (fun h7 => ?_)
              · skip
                refine g_cond_t rfl (g_seq (g_ops ?_))
                refine g_val rfl rfl rfl (y_move rfl) ?_
                refine g_val rfl rfl rfl (by first | exact y_addi rfl rfl (by first | omega | (simp only [size_mk, ByteArray.size_append, ByteArray.size_extract]; omega)) | exact y_iadd rfl rfl) ?_
                refine g_val rfl rfl rfl (y_assign rfl) ?_
                refine g_nil (g_then (g_seq (g_ops ?_)))
                refine g_val rfl rfl rfl (y_move rfl) ?_
                refine g_val rfl rfl rfl (y_move rfl) ?_
                refine g_val rfl rfl rfl (y_slen rfl Tryd.underlying9) ?_
                refine g_val rfl rfl rfl (y_ieq rfl rfl) ?_
                refine g_nil (g_then ?_)
                first | refine g_casep 61 rfl (fun h8 => ?_) (fun h8 => ?_) | refine g_caseb 61 rfl (fun h8 => ?_) (fun h8 => ?_)
                · skip
                  refine g_cond_t rfl (g_seq (g_ops ?_))
                  refine g_val rfl rfl rfl (y_assign rfl) ?_
                  refine g_val rfl rfl rfl (y_assign rfl) ?_
                  refine g_val rfl rfl rfl (y_assign rfl) ?_
                  refine g_nil (g_then (g_ret (g_then_ret (g_in_ret (g_then_ret (g_then_ret (g_in_ret (g_then_ret ?_))))))))
                  refine g_end3 Tryd.results16 rfl rfl rfl ?_
                  exact fun w hS => ⟨ret_cut (by first | exact hR.symm.trans (lin_no2 s i b hb (by omega)) | (rw [show t ++ (⟨[10].toArray⟩ : ByteArray) = (⟨(t.data.toList ++ [10]).toArray⟩ : ByteArray) from ba_ext (by rw [app_data])]; first | exact hc.symm.trans (lin_end s j _ (by omega)) | exact hc.symm.trans (lin_10 s j _ (by omega) (by omega) (by omega))) | exact hc.symm.trans ((lin_92 s j _ (by omega) (by omega) (by omega)).trans (lin_e0 s (j + 1) _ (by omega)))), hS.below⟩
                · skip
                  refine g_cond_f rfl (g_skip (g_then (g_ops ?_)))
                  refine g_val rfl rfl rfl (y_move rfl) ?_
                  refine g_val rfl rfl rfl (y_move rfl) ?_
                  refine g_val rfl rfl rfl (y_move rfl) ?_
                  refine g_val rfl rfl rfl (y_move rfl) ?_
                  refine g_val rfl rfl rfl (by first | exact y_addi rfl rfl (by first | omega | (simp only [size_mk, ByteArray.size_append, ByteArray.size_extract]; omega)) | exact y_iadd rfl rfl) ?_
                  refine g_val rfl rfl rfl (y_ssl rfl rfl rfl Tryd.underlying9 (by omega) (by omega) (by first | omega | (simp only [size_mk, List.length_cons, List.length_nil]; omega))) ?_
                  refine g_val rfl rfl rfl (y_scat rfl rfl (by first | omega | (simp only [ByteArray.size_extract, ByteArray.size_append, size_mk, List.length_append, List.length_cons, List.length_nil] <;> omega))) ?_
                  refine g_val rfl rfl rfl (y_assign rfl) ?_
                  refine g_nil (g_in_normal (g_then (g_ops ?_)))
                  refine g_val rfl rfl rfl (y_move rfl) ?_
                  refine g_val rfl rfl rfl (by first | exact y_addi rfl rfl (by first | omega | (simp only [size_mk, ByteArray.size_append, ByteArray.size_extract]; omega)) | exact y_iadd rfl rfl) ?_
                  refine g_val rfl rfl rfl (y_assign rfl) ?_
                  refine g_nil ?_
                  exact g_again ⟨(_, _), by dsimp only; omega, by dsimp only; omega, by dsimp only; first | (rw [cat_size _ s j (by omega) (by omega)]; omega) | (rw [cat_size _ s (j + 1) (by omega) (by omega)]; omega), by first | (dsimp only; rw [cat_ext _ s j (by omega) (by omega)]; exact (lin_c s j _ (by omega) (by omega) (by omega) (by omega)).symm.trans hc) | (dsimp only; rw [cat_ext _ s (j + 1) (by omega) (by omega)]; exact (lin_e s (j + 1) _ (by omega) (by omega)).symm.trans ((lin_92 s j _ (by omega) (by omega) (by omega)).symm.trans hc))⟩ [0, 8, 9] (by dsimp only; omega) rfl (fun w h => h.sub .slnil)
              · skip
                refine g_cond_f rfl (g_skip (g_then (g_ops ?_)))
                refine g_val rfl rfl rfl (y_move rfl) ?_
                refine g_val rfl rfl rfl (y_move rfl) ?_
                refine g_val rfl rfl rfl (y_move rfl) ?_
                refine g_val rfl rfl rfl (y_move rfl) ?_
                refine g_val rfl rfl rfl (by first | exact y_addi rfl rfl (by first | omega | (simp only [size_mk, ByteArray.size_append, ByteArray.size_extract]; omega)) | exact y_iadd rfl rfl) ?_
                refine g_val rfl rfl rfl (y_ssl rfl rfl rfl Tryd.underlying9 (by omega) (by omega) (by first | omega | (simp only [size_mk, List.length_cons, List.length_nil]; omega))) ?_
                refine g_val rfl rfl rfl (y_scat rfl rfl (by first | omega | (simp only [ByteArray.size_extract, ByteArray.size_append, size_mk, List.length_append, List.length_cons, List.length_nil] <;> omega))) ?_
                refine g_val rfl rfl rfl (y_assign rfl) ?_
                refine g_nil (g_in_normal (g_then (g_ops ?_)))
                refine g_val rfl rfl rfl (y_move rfl) ?_
                refine g_val rfl rfl rfl (by first | exact y_addi rfl rfl (by first | omega | (simp only [size_mk, ByteArray.size_append, ByteArray.size_extract]; omega)) | exact y_iadd rfl rfl) ?_
                refine g_val rfl rfl rfl (y_assign rfl) ?_
                refine g_nil ?_
                exact g_again ⟨(_, _), by dsimp only; omega, by dsimp only; omega, by dsimp only; first | (rw [cat_size _ s j (by omega) (by omega)]; omega) | (rw [cat_size _ s (j + 1) (by omega) (by omega)]; omega), by first | (dsimp only; rw [cat_ext _ s j (by omega) (by omega)]; exact (lin_c s j _ (by omega) (by omega) (by omega) (by omega)).symm.trans hc) | (dsimp only; rw [cat_ext _ s (j + 1) (by omega) (by omega)]; exact (lin_e s (j + 1) _ (by omega) (by omega)).symm.trans ((lin_92 s j _ (by omega) (by omega) (by omega)).symm.trans hc))⟩ [0, 8, 9] (by dsimp only; omega) rfl (fun w h => h.sub .slnil)
            · skip
              refine g_cond_f rfl (g_exit (g_then_exit (g_then_exit (g_in_exit (g_then (g_seq (g_ops ?_)))))))
              refine g_val rfl rfl rfl (y_move rfl) ?_
              refine g_buildSlice (offs := [0]) rfl rfl Tryd.underlying23 rfl Tryd.zeroValue5 (by kernel_rfl) (fun b1 => ?_)
              refine g_val rfl rfl rfl (y_cellsStr (l := [10]) 0 rfl Tryd.underlying23 Tryd.underlying9 Tryd.underlying5 rfl rfl rfl) ?_
              refine g_val rfl rfl rfl (y_scat rfl rfl (by first | omega | (simp only [ByteArray.size_extract, ByteArray.size_append, size_mk, List.length_append, List.length_cons, List.length_nil] <;> omega))) ?_
              refine g_val rfl rfl rfl (y_move rfl) ?_
              refine g_val rfl rfl rfl (y_assign rfl) ?_
              refine g_val rfl rfl rfl (y_assign rfl) ?_
              refine g_val rfl rfl rfl (y_assign rfl) ?_
              refine g_nil (g_then (g_ret ?_))
              refine g_end3 Tryd.results16 rfl rfl rfl ?_
              exact fun w hS => ⟨ret_cut (by first | exact hR.symm.trans (lin_no2 s i b hb (by omega)) | (rw [show t ++ (⟨[10].toArray⟩ : ByteArray) = (⟨(t.data.toList ++ [10]).toArray⟩ : ByteArray) from ba_ext (by rw [app_data])]; first | exact hc.symm.trans (lin_end s j _ (by omega)) | exact hc.symm.trans (lin_10 s j _ (by omega) (by omega) (by omega))) | exact hc.symm.trans ((lin_92 s j _ (by omega) (by omega) (by omega)).trans (lin_e0 s (j + 1) _ (by omega)))), hS.below⟩
          · skip
            refine g_not rfl rfl rfl ?_
            refine g_not rfl rfl rfl ?_
            refine g_not rfl rfl rfl ?_
            refine g_not rfl rfl rfl ?_
            refine g_val rfl rfl rfl (y_pick_f rfl rfl) ?_
            refine g_nil (g_then (g_cond_f rfl (g_exit (g_then_exit (g_then_exit (g_in_exit (g_then (g_seq (g_ops ?_)))))))))
            refine g_val rfl rfl rfl (y_move rfl) ?_
            refine g_buildSlice (offs := [0]) rfl rfl Tryd.underlying23 rfl Tryd.zeroValue5 (by kernel_rfl) (fun b2 => ?_)
            refine g_val rfl rfl rfl (y_cellsStr (l := [10]) 0 rfl Tryd.underlying23 Tryd.underlying9 Tryd.underlying5 rfl rfl rfl) ?_
            refine g_val rfl rfl rfl (y_scat rfl rfl (by first | omega | (simp only [ByteArray.size_extract, ByteArray.size_append, size_mk, List.length_append, List.length_cons, List.length_nil] <;> omega))) ?_
            refine g_val rfl rfl rfl (y_move rfl) ?_
            refine g_val rfl rfl rfl (y_assign rfl) ?_
            refine g_val rfl rfl rfl (y_assign rfl) ?_
            refine g_val rfl rfl rfl (y_assign rfl) ?_
            refine g_nil (g_then (g_ret ?_))
            refine g_end3 Tryd.results16 rfl rfl rfl ?_
            exact fun w hS => ⟨ret_cut (by first | exact hR.symm.trans (lin_no2 s i b hb (by omega)) | (rw [show t ++ (⟨[10].toArray⟩ : ByteArray) = (⟨(t.data.toList ++ [10]).toArray⟩ : ByteArray) from ba_ext (by rw [app_data])]; first | exact hc.symm.trans (lin_end s j _ (by omega)) | exact hc.symm.trans (lin_10 s j _ (by omega) (by omega) (by omega))) | exact hc.symm.trans ((lin_92 s j _ (by omega) (by omega) (by omega)).trans (lin_e0 s (j + 1) _ (by omega)))), hS.below⟩

theorem reads_law (s : ByteArray) (i : Int) (w : World) :
    Calls Tryd.prog 5 #[.string s, .int .i64 i] w fun e w' => e = .returned (.bool true) ∧ Below w.heap.size w w' := by
  refine fn_intro Tryd.func5 rfl Tryd.ntmps5 rfl rfl ?_
  refine g_seq (g_ops ?_)
  refine g_val rfl rfl rfl (y_assign rfl) ?_
  refine g_nil (g_then (g_seq (g_seq (g_ops ?_))))
  refine g_val rfl rfl rfl (y_move rfl) ?_
  refine g_val rfl rfl rfl (y_slen rfl Tryd.underlying9) ?_
  refine g_val rfl rfl rfl (y_igt rfl rfl) ?_
  refine g_nil (g_then ?_)
  first | refine g_casep 27 rfl (fun h1 => ?_) (fun h1 => ?_) | refine g_caseb 27 rfl (fun h1 => ?_) (fun h1 => ?_)
  · skip
    refine g_cond_t rfl (g_seq (g_ops ?_))
    refine g_call1 rfl rfl rfl Tryd.call6 (fun w hS => alive_any w) ?_
    refine g_val rfl rfl rfl (y_assign rfl) ?_
    refine g_nil (g_then (g_ret (g_then_ret ?_)))
    refine g_end1 Tryd.results5 rfl ?_
    exact fun w hS => ⟨ret_bool (by simp_all), hS.below⟩
  · skip
    refine g_cond_f rfl (g_skip (g_then (g_seq (g_ops ?_))))
    refine g_val rfl rfl rfl (y_move rfl) ?_
    refine g_val rfl rfl rfl (y_move rfl) ?_
    refine g_call1 rfl rfl rfl Tryd.call10 (fun w hS => number_any _ _ _ (by omega) rfl w) ?_
    refine g_val rfl rfl rfl (y_move rfl) ?_
    refine g_val rfl rfl rfl (y_extract rfl rfl) ?_
    refine g_val rfl rfl rfl (y_extract rfl rfl) ?_
    refine g_val rfl rfl rfl (y_extract rfl rfl) ?_
    refine g_val rfl rfl rfl (y_assign rfl) ?_
    refine g_val rfl rfl rfl (y_assign rfl) ?_
    refine g_val rfl rfl rfl (y_assign rfl) ?_
    refine g_nil (g_then (g_seq (g_ops ?_)))
    refine g_val rfl rfl rfl (y_move rfl) ?_
    refine g_val rfl rfl rfl (y_move rfl) ?_
    refine g_call1 rfl rfl rfl Tryd.call12 (fun w hS => rnumber_any _ _ _ (by omega) rfl w) ?_
    refine g_val rfl rfl rfl (y_move rfl) ?_
    refine g_val rfl rfl rfl (y_extract rfl rfl) ?_
    refine g_val rfl rfl rfl (y_extract rfl rfl) ?_
    refine g_val rfl rfl rfl (y_extract rfl rfl) ?_
    refine g_val rfl rfl rfl (y_assign rfl) ?_
    refine g_val rfl rfl rfl (y_assign rfl) ?_
    refine g_val rfl rfl rfl (y_assign rfl) ?_
    refine g_nil (g_then (g_seq (g_ops ?_)))
    refine g_val rfl rfl rfl (y_move rfl) ?_
    refine g_val rfl rfl rfl (y_move rfl) ?_
    refine g_call1 rfl rfl rfl Tryd.call7 (fun w hS => word_any _ _ _ (by omega) rfl w) ?_
    refine g_val rfl rfl rfl (y_move rfl) ?_
    refine g_val rfl rfl rfl (y_extract rfl rfl) ?_
    refine g_val rfl rfl rfl (y_extract rfl rfl) ?_
    refine g_val rfl rfl rfl (y_assign rfl) ?_
    refine g_val rfl rfl rfl (y_assign rfl) ?_
    refine g_nil (g_then (g_seq (g_ops ?_)))
    refine g_val rfl rfl rfl (y_move rfl) ?_
    refine g_val rfl rfl rfl (y_move rfl) ?_
    refine g_call1 rfl rfl rfl Tryd.call13 (fun w hS => rword_any _ _ _ (by omega) rfl w) ?_
    refine g_val rfl rfl rfl (y_move rfl) ?_
    refine g_val rfl rfl rfl (y_extract rfl rfl) ?_
    refine g_val rfl rfl rfl (y_extract rfl rfl) ?_
    refine g_val rfl rfl rfl (y_assign rfl) ?_
    refine g_val rfl rfl rfl (y_assign rfl) ?_
    refine g_nil (g_then (g_seq (g_ops ?_)))
    refine g_val rfl rfl rfl (y_move rfl) ?_
    refine g_val rfl rfl rfl (y_move rfl) ?_
    refine g_call1 rfl rfl rfl Tryd.call8 (fun w hS => rest_any _ _ _ (by omega) rfl w) ?_
    refine g_val rfl rfl rfl (y_move rfl) ?_
    refine g_val rfl rfl rfl (y_extract rfl rfl) ?_
    refine g_val rfl rfl rfl (y_extract rfl rfl) ?_
    refine g_val rfl rfl rfl (y_assign rfl) ?_
    refine g_val rfl rfl rfl (y_assign rfl) ?_
    refine g_nil (g_then (g_seq (g_ops ?_)))
    refine g_val rfl rfl rfl (y_move rfl) ?_
    refine g_val rfl rfl rfl (y_move rfl) ?_
    refine g_call1 rfl rfl rfl Tryd.call14 (fun w hS => rrest_any _ _ _ (by omega) rfl w) ?_
    refine g_val rfl rfl rfl (y_move rfl) ?_
    refine g_val rfl rfl rfl (y_extract rfl rfl) ?_
    refine g_val rfl rfl rfl (y_extract rfl rfl) ?_
    refine g_val rfl rfl rfl (y_assign rfl) ?_
    refine g_val rfl rfl rfl (y_assign rfl) ?_
    refine g_nil (g_then (g_seq (g_ops ?_)))
    refine g_val rfl rfl rfl (y_move rfl) ?_
    refine g_val rfl rfl rfl (y_move rfl) ?_
    refine g_call1 rfl rfl rfl Tryd.call15 (fun w hS => lines_any _ _ _ (by omega) rfl w) ?_
    refine g_val rfl rfl rfl (y_move rfl) ?_
    refine g_val rfl rfl rfl (y_extract rfl rfl) ?_
    refine g_val rfl rfl rfl (y_extract rfl rfl) ?_
    refine g_val rfl rfl rfl (y_extract rfl rfl) ?_
    refine g_val rfl rfl rfl (y_assign rfl) ?_
    refine g_val rfl rfl rfl (y_assign rfl) ?_
    refine g_val rfl rfl rfl (y_assign rfl) ?_
    refine g_nil (g_then (g_seq (g_ops ?_)))
    refine g_val rfl rfl rfl (y_move rfl) ?_
    refine g_val rfl rfl rfl (y_move rfl) ?_
    refine g_call1 rfl rfl rfl Tryd.call16 (fun w hS => rlines_any _ _ _ (by omega) rfl w) ?_
    refine g_val rfl rfl rfl (y_move rfl) ?_
    refine g_val rfl rfl rfl (y_extract rfl rfl) ?_
    refine g_val rfl rfl rfl (y_extract rfl rfl) ?_
    refine g_val rfl rfl rfl (y_extract rfl rfl) ?_
    refine g_val rfl rfl rfl (y_assign rfl) ?_
    refine g_val rfl rfl rfl (y_assign rfl) ?_
    refine g_val rfl rfl rfl (y_assign rfl) ?_
    refine g_nil (g_then (g_seq (g_ops ?_)))
    refine g_call1 rfl rfl rfl Tryd.call6 (fun w hS => alive_any w) ?_
    refine g_val rfl rfl rfl (y_move rfl) ?_
    first | refine g_casep 82 rfl (fun h2 => ?_) (fun h2 => ?_) | refine g_caseb 82 rfl (fun h2 => ?_) (fun h2 => ?_)
    · skip
      refine g_val rfl rfl rfl (y_move rfl) ?_
      refine g_val rfl rfl rfl (y_move rfl) ?_
      refine g_call1 rfl rfl rfl Tryd.call9 (fun w hS => blanks_any _ _ _ (by omega) rfl w) ?_
      refine g_val rfl rfl rfl (y_move rfl) ?_
      refine g_val rfl rfl rfl (y_move rfl) ?_
      refine g_call1 rfl rfl rfl Tryd.call17 (fun w hS => rblanks_any _ _ _ (by omega) rfl w) ?_
      refine g_val rfl rfl rfl (y_ieq rfl rfl) ?_
      refine g_val rfl rfl rfl (y_pick_t rfl rfl) ?_
      refine g_val rfl rfl rfl (y_move rfl) ?_
      first | refine g_casep 91 rfl (fun h3 => ?_) (fun h3 => ?_) | refine g_caseb 91 rfl (fun h3 => ?_) (fun h3 => ?_)
      · skip
        refine g_val rfl rfl rfl (y_move rfl) ?_
        refine g_val rfl rfl rfl (y_move rfl) ?_
        refine g_val rfl rfl rfl (y_ieq rfl rfl) ?_
        refine g_val rfl rfl rfl (y_pick_t rfl rfl) ?_
        refine g_val rfl rfl rfl (y_move rfl) ?_
        first | refine g_casep 96 rfl (fun h4 => ?_) (fun h4 => ?_) | refine g_caseb 96 rfl (fun h4 => ?_) (fun h4 => ?_)
        · skip
          refine g_val rfl rfl rfl (y_move rfl) ?_
          refine g_val rfl rfl rfl (y_move rfl) ?_
          refine g_val rfl rfl rfl (y_ieq rfl rfl) ?_
          refine g_val rfl rfl rfl (y_pick_t rfl rfl) ?_
          refine g_val rfl rfl rfl (y_move rfl) ?_
          first | refine g_casep 101 rfl (fun h5 => ?_) (fun h5 => ?_) | refine g_caseb 101 rfl (fun h5 => ?_) (fun h5 => ?_)
          · skip
            refine g_val rfl rfl rfl (y_move rfl) ?_
            refine g_val rfl rfl rfl (y_move rfl) ?_
            refine g_val rfl rfl rfl (y_beq rfl rfl (by kernel_rfl)) ?_
            refine g_val rfl rfl rfl (y_pick_t rfl rfl) ?_
            refine g_val rfl rfl rfl (y_move rfl) ?_
            first | refine g_casep 106 rfl (fun h6 => ?_) (fun h6 => ?_) | refine g_caseb 106 rfl (fun h6 => ?_) (fun h6 => ?_)
            · skip
              refine g_val rfl rfl rfl (y_move rfl) ?_
              refine g_val rfl rfl rfl (y_move rfl) ?_
              refine g_val rfl rfl rfl (y_seq rfl rfl) ?_
              refine g_val rfl rfl rfl (y_pick_t rfl rfl) ?_
              refine g_val rfl rfl rfl (y_move rfl) ?_
              first | refine g_casep 111 rfl (fun h7 => ?_) (fun h7 => ?_) | refine g_caseb 111 rfl (fun h7 => ?_) (fun h7 => ?_)
              · skip
                refine g_val rfl rfl rfl (y_move rfl) ?_
                refine g_val rfl rfl rfl (y_move rfl) ?_
                refine g_val rfl rfl rfl (y_ieq rfl rfl) ?_
                refine g_val rfl rfl rfl (y_pick_t rfl rfl) ?_
                refine g_val rfl rfl rfl (y_move rfl) ?_
                first | refine g_casep 116 rfl (fun h8 => ?_) (fun h8 => ?_) | refine g_caseb 116 rfl (fun h8 => ?_) (fun h8 => ?_)
                · skip
                  refine g_val rfl rfl rfl (y_move rfl) ?_
                  refine g_val rfl rfl rfl (y_move rfl) ?_
                  refine g_val rfl rfl rfl (y_seq rfl rfl) ?_
                  refine g_val rfl rfl rfl (y_pick_t rfl rfl) ?_
                  refine g_val rfl rfl rfl (y_move rfl) ?_
                  first | refine g_casep 121 rfl (fun h9 => ?_) (fun h9 => ?_) | refine g_caseb 121 rfl (fun h9 => ?_) (fun h9 => ?_)
                  · skip
                    refine g_val rfl rfl rfl (y_move rfl) ?_
                    refine g_val rfl rfl rfl (y_move rfl) ?_
                    refine g_val rfl rfl rfl (y_ieq rfl rfl) ?_
                    refine g_val rfl rfl rfl (y_pick_t rfl rfl) ?_
                    refine g_val rfl rfl rfl (y_move rfl) ?_
                    first | refine g_casep 126 rfl (fun h10 => ?_) (fun h10 => ?_) | refine g_caseb 126 rfl (fun h10 => ?_) (fun h10 => ?_)
                    · skip
                      refine g_val rfl rfl rfl (y_move rfl) ?_
                      refine g_val rfl rfl rfl (y_move rfl) ?_
                      refine g_val rfl rfl rfl (y_seq rfl rfl) ?_
                      refine g_val rfl rfl rfl (y_pick_t rfl rfl) ?_
                      refine g_val rfl rfl rfl (y_move rfl) ?_
                      first | refine g_casep 131 rfl (fun h11 => ?_) (fun h11 => ?_) | refine g_caseb 131 rfl (fun h11 => ?_) (fun h11 => ?_)
                      · skip
                        refine g_val rfl rfl rfl (y_move rfl) ?_
                        refine g_val rfl rfl rfl (y_move rfl) ?_
                        refine g_val rfl rfl rfl (y_ieq rfl rfl) ?_
                        refine g_val rfl rfl rfl (y_pick_t rfl rfl) ?_
                        refine g_val rfl rfl rfl (y_move rfl) ?_
                        first | refine g_casep 136 rfl (fun h12 => ?_) (fun h12 => ?_) | refine g_caseb 136 rfl (fun h12 => ?_) (fun h12 => ?_)
                        · skip
                          refine g_val rfl rfl rfl (y_move rfl) ?_
                          refine g_val rfl rfl rfl (y_move rfl) ?_
                          refine g_val rfl rfl rfl (y_ieq rfl rfl) ?_
                          refine g_val rfl rfl rfl (y_pick_t rfl rfl) ?_
                          refine g_val rfl rfl rfl (y_assign rfl) ?_
                          refine g_nil (g_then (g_ret ?_))
                          refine g_end1 Tryd.results5 rfl ?_
                          exact fun w hS => ⟨ret_bool (by simp_all), hS.below⟩
                        · skip
                          refine g_not rfl rfl rfl ?_
                          refine g_not rfl rfl rfl ?_
                          refine g_not rfl rfl rfl ?_
                          refine g_val rfl rfl rfl (y_pick_f rfl rfl) ?_
                          refine g_val rfl rfl rfl (y_assign rfl) ?_
                          refine g_nil (g_then (g_ret ?_))
                          refine g_end1 Tryd.results5 rfl ?_
                          exfalso
                          simp_all
                      · skip
                        refine g_not rfl rfl rfl ?_
                        refine g_not rfl rfl rfl ?_
                        refine g_not rfl rfl rfl ?_
                        refine g_val rfl rfl rfl (y_pick_f rfl rfl) ?_
                        refine g_val rfl rfl rfl (y_move rfl) ?_
                        refine g_not rfl rfl rfl ?_
                        refine g_not rfl rfl rfl ?_
                        refine g_not rfl rfl rfl ?_
                        refine g_val rfl rfl rfl (y_pick_f rfl rfl) ?_
                        refine g_val rfl rfl rfl (y_assign rfl) ?_
                        refine g_nil (g_then (g_ret ?_))
                        refine g_end1 Tryd.results5 rfl ?_
                        exfalso
                        simp_all
                    · skip
                      refine g_not rfl rfl rfl ?_
                      refine g_not rfl rfl rfl ?_
                      refine g_not rfl rfl rfl ?_
                      refine g_val rfl rfl rfl (y_pick_f rfl rfl) ?_
                      refine g_val rfl rfl rfl (y_move rfl) ?_
                      refine g_not rfl rfl rfl ?_
                      refine g_not rfl rfl rfl ?_
                      refine g_not rfl rfl rfl ?_
                      refine g_val rfl rfl rfl (y_pick_f rfl rfl) ?_
                      refine g_val rfl rfl rfl (y_move rfl) ?_
                      refine g_not rfl rfl rfl ?_
                      refine g_not rfl rfl rfl ?_
                      refine g_not rfl rfl rfl ?_
                      refine g_val rfl rfl rfl (y_pick_f rfl rfl) ?_
                      refine g_val rfl rfl rfl (y_assign rfl) ?_
                      refine g_nil (g_then (g_ret ?_))
                      refine g_end1 Tryd.results5 rfl ?_
                      exfalso
                      simp_all
                  · skip
                    refine g_not rfl rfl rfl ?_
                    refine g_not rfl rfl rfl ?_
                    refine g_not rfl rfl rfl ?_
                    refine g_val rfl rfl rfl (y_pick_f rfl rfl) ?_
                    refine g_val rfl rfl rfl (y_move rfl) ?_
                    refine g_not rfl rfl rfl ?_
                    refine g_not rfl rfl rfl ?_
                    refine g_not rfl rfl rfl ?_
                    refine g_val rfl rfl rfl (y_pick_f rfl rfl) ?_
                    refine g_val rfl rfl rfl (y_move rfl) ?_
                    refine g_not rfl rfl rfl ?_
                    refine g_not rfl rfl rfl ?_
                    refine g_not rfl rfl rfl ?_
                    refine g_val rfl rfl rfl (y_pick_f rfl rfl) ?_
                    refine g_val rfl rfl rfl (y_move rfl) ?_
                    refine g_not rfl rfl rfl ?_
                    refine g_not rfl rfl rfl ?_
                    refine g_not rfl rfl rfl ?_
                    refine g_val rfl rfl rfl (y_pick_f rfl rfl) ?_
                    refine g_val rfl rfl rfl (y_assign rfl) ?_
                    refine g_nil (g_then (g_ret ?_))
                    refine g_end1 Tryd.results5 rfl ?_
                    exfalso
                    simp_all
                · skip
                  refine g_not rfl rfl rfl ?_
                  refine g_not rfl rfl rfl ?_
                  refine g_not rfl rfl rfl ?_
                  refine g_val rfl rfl rfl (y_pick_f rfl rfl) ?_
                  refine g_val rfl rfl rfl (y_move rfl) ?_
                  refine g_not rfl rfl rfl ?_
                  refine g_not rfl rfl rfl ?_
                  refine g_not rfl rfl rfl ?_
                  refine g_val rfl rfl rfl (y_pick_f rfl rfl) ?_
                  refine g_val rfl rfl rfl (y_move rfl) ?_
                  refine g_not rfl rfl rfl ?_
                  refine g_not rfl rfl rfl ?_
                  refine g_not rfl rfl rfl ?_
                  refine g_val rfl rfl rfl (y_pick_f rfl rfl) ?_
                  refine g_val rfl rfl rfl (y_move rfl) ?_
                  refine g_not rfl rfl rfl ?_
                  refine g_not rfl rfl rfl ?_
                  refine g_not rfl rfl rfl ?_
                  refine g_val rfl rfl rfl (y_pick_f rfl rfl) ?_
                  refine g_val rfl rfl rfl (y_move rfl) ?_
                  refine g_not rfl rfl rfl ?_
                  refine g_not rfl rfl rfl ?_
                  refine g_not rfl rfl rfl ?_
                  refine g_val rfl rfl rfl (y_pick_f rfl rfl) ?_
                  refine g_val rfl rfl rfl (y_assign rfl) ?_
                  refine g_nil (g_then (g_ret ?_))
                  refine g_end1 Tryd.results5 rfl ?_
                  exfalso
                  simp_all
              · skip
                refine g_not rfl rfl rfl ?_
                refine g_not rfl rfl rfl ?_
                refine g_not rfl rfl rfl ?_
                refine g_val rfl rfl rfl (y_pick_f rfl rfl) ?_
                refine g_val rfl rfl rfl (y_move rfl) ?_
                refine g_not rfl rfl rfl ?_
                refine g_not rfl rfl rfl ?_
                refine g_not rfl rfl rfl ?_
                refine g_val rfl rfl rfl (y_pick_f rfl rfl) ?_
                refine g_val rfl rfl rfl (y_move rfl) ?_
                refine g_not rfl rfl rfl ?_
                refine g_not rfl rfl rfl ?_
                refine g_not rfl rfl rfl ?_
                refine g_val rfl rfl rfl (y_pick_f rfl rfl) ?_
                refine g_val rfl rfl rfl (y_move rfl) ?_
                refine g_not rfl rfl rfl ?_
                refine g_not rfl rfl rfl ?_
                refine g_not rfl rfl rfl ?_
                refine g_val rfl rfl rfl (y_pick_f rfl rfl) ?_
                refine g_val rfl rfl rfl (y_move rfl) ?_
                refine g_not rfl rfl rfl ?_
                refine g_not rfl rfl rfl ?_
                refine g_not rfl rfl rfl ?_
                refine g_val rfl rfl rfl (y_pick_f rfl rfl) ?_
                refine g_val rfl rfl rfl (y_move rfl) ?_
                refine g_not rfl rfl rfl ?_
                refine g_not rfl rfl rfl ?_
                refine g_not rfl rfl rfl ?_
                refine g_val rfl rfl rfl (y_pick_f rfl rfl) ?_
                refine g_val rfl rfl rfl (y_assign rfl) ?_
                refine g_nil (g_then (g_ret ?_))
                refine g_end1 Tryd.results5 rfl ?_
                exfalso
                simp_all
            · skip
              refine g_not rfl rfl rfl ?_
              refine g_not rfl rfl rfl ?_
              refine g_not rfl rfl rfl ?_
              refine g_val rfl rfl rfl (y_pick_f rfl rfl) ?_
              refine g_val rfl rfl rfl (y_move rfl) ?_
              refine g_not rfl rfl rfl ?_
              refine g_not rfl rfl rfl ?_
              refine g_not rfl rfl rfl ?_
              refine g_val rfl rfl rfl (y_pick_f rfl rfl) ?_
              refine g_val rfl rfl rfl (y_move rfl) ?_
              refine g_not rfl rfl rfl ?_
              refine g_not rfl rfl rfl ?_
              refine g_not rfl rfl rfl ?_
              refine g_val rfl rfl rfl (y_pick_f rfl rfl) ?_
              refine g_val rfl rfl rfl (y_move rfl) ?_
              refine g_not rfl rfl rfl ?_
              refine g_not rfl rfl rfl ?_
              refine g_not rfl rfl rfl ?_
              refine g_val rfl rfl rfl (y_pick_f rfl rfl) ?_
              refine g_val rfl rfl rfl (y_move rfl) ?_
              refine g_not rfl rfl rfl ?_
              refine g_not rfl rfl rfl ?_
              refine g_not rfl rfl rfl ?_
              refine g_val rfl rfl rfl (y_pick_f rfl rfl) ?_
              refine g_val rfl rfl rfl (y_move rfl) ?_
              refine g_not rfl rfl rfl ?_
              refine g_not rfl rfl rfl ?_
              refine g_not rfl rfl rfl ?_
              refine g_val rfl rfl rfl (y_pick_f rfl rfl) ?_
              refine g_val rfl rfl rfl (y_move rfl) ?_
              refine g_not rfl rfl rfl ?_
              refine g_not rfl rfl rfl ?_
              refine g_not rfl rfl rfl ?_
              refine g_val rfl rfl rfl (y_pick_f rfl rfl) ?_
              refine g_val rfl rfl rfl (y_assign rfl) ?_
              refine g_nil (g_then (g_ret ?_))
              refine g_end1 Tryd.results5 rfl ?_
              exfalso
              simp_all
          · skip
            refine g_not rfl rfl rfl ?_
            refine g_not rfl rfl rfl ?_
            refine g_not rfl rfl rfl ?_
            refine g_val rfl rfl rfl (y_pick_f rfl rfl) ?_
            refine g_val rfl rfl rfl (y_move rfl) ?_
            refine g_not rfl rfl rfl ?_
            refine g_not rfl rfl rfl ?_
            refine g_not rfl rfl rfl ?_
            refine g_val rfl rfl rfl (y_pick_f rfl rfl) ?_
            refine g_val rfl rfl rfl (y_move rfl) ?_
            refine g_not rfl rfl rfl ?_
            refine g_not rfl rfl rfl ?_
            refine g_not rfl rfl rfl ?_
            refine g_val rfl rfl rfl (y_pick_f rfl rfl) ?_
            refine g_val rfl rfl rfl (y_move rfl) ?_
            refine g_not rfl rfl rfl ?_
            refine g_not rfl rfl rfl ?_
            refine g_not rfl rfl rfl ?_
            refine g_val rfl rfl rfl (y_pick_f rfl rfl) ?_
            refine g_val rfl rfl rfl (y_move rfl) ?_
            refine g_not rfl rfl rfl ?_
            refine g_not rfl rfl rfl ?_
            refine g_not rfl rfl rfl ?_
            refine g_val rfl rfl rfl (y_pick_f rfl rfl) ?_
            refine g_val rfl rfl rfl (y_move rfl) ?_
            refine g_not rfl rfl rfl ?_
            refine g_not rfl rfl rfl ?_
            refine g_not rfl rfl rfl ?_
            refine g_val rfl rfl rfl (y_pick_f rfl rfl) ?_
            refine g_val rfl rfl rfl (y_move rfl) ?_
            refine g_not rfl rfl rfl ?_
            refine g_not rfl rfl rfl ?_
            refine g_not rfl rfl rfl ?_
            refine g_val rfl rfl rfl (y_pick_f rfl rfl) ?_
            refine g_val rfl rfl rfl (y_move rfl) ?_
            refine g_not rfl rfl rfl ?_
            refine g_not rfl rfl rfl ?_
            refine g_not rfl rfl rfl ?_
            refine g_val rfl rfl rfl (y_pick_f rfl rfl) ?_
            refine g_val rfl rfl rfl (y_assign rfl) ?_
            refine g_nil (g_then (g_ret ?_))
            refine g_end1 Tryd.results5 rfl ?_
            exfalso
            simp_all
        · skip
          refine g_not rfl rfl rfl ?_
          refine g_not rfl rfl rfl ?_
          refine g_not rfl rfl rfl ?_
          refine g_val rfl rfl rfl (y_pick_f rfl rfl) ?_
          refine g_val rfl rfl rfl (y_move rfl) ?_
          refine g_not rfl rfl rfl ?_
          refine g_not rfl rfl rfl ?_
          refine g_not rfl rfl rfl ?_
          refine g_val rfl rfl rfl (y_pick_f rfl rfl) ?_
          refine g_val rfl rfl rfl (y_move rfl) ?_
          refine g_not rfl rfl rfl ?_
          refine g_not rfl rfl rfl ?_
          refine g_not rfl rfl rfl ?_
          refine g_val rfl rfl rfl (y_pick_f rfl rfl) ?_
          refine g_val rfl rfl rfl (y_move rfl) ?_
          refine g_not rfl rfl rfl ?_
          refine g_not rfl rfl rfl ?_
          refine g_not rfl rfl rfl ?_
          refine g_val rfl rfl rfl (y_pick_f rfl rfl) ?_
          refine g_val rfl rfl rfl (y_move rfl) ?_
          refine g_not rfl rfl rfl ?_
          refine g_not rfl rfl rfl ?_
          refine g_not rfl rfl rfl ?_
          refine g_val rfl rfl rfl (y_pick_f rfl rfl) ?_
          refine g_val rfl rfl rfl (y_move rfl) ?_
          refine g_not rfl rfl rfl ?_
          refine g_not rfl rfl rfl ?_
          refine g_not rfl rfl rfl ?_
          refine g_val rfl rfl rfl (y_pick_f rfl rfl) ?_
          refine g_val rfl rfl rfl (y_move rfl) ?_
          refine g_not rfl rfl rfl ?_
          refine g_not rfl rfl rfl ?_
          refine g_not rfl rfl rfl ?_
          refine g_val rfl rfl rfl (y_pick_f rfl rfl) ?_
          refine g_val rfl rfl rfl (y_move rfl) ?_
          refine g_not rfl rfl rfl ?_
          refine g_not rfl rfl rfl ?_
          refine g_not rfl rfl rfl ?_
          refine g_val rfl rfl rfl (y_pick_f rfl rfl) ?_
          refine g_val rfl rfl rfl (y_move rfl) ?_
          refine g_not rfl rfl rfl ?_
          refine g_not rfl rfl rfl ?_
          refine g_not rfl rfl rfl ?_
          refine g_val rfl rfl rfl (y_pick_f rfl rfl) ?_
          refine g_val rfl rfl rfl (y_assign rfl) ?_
          refine g_nil (g_then (g_ret ?_))
          refine g_end1 Tryd.results5 rfl ?_
          exfalso
          simp_all
      · skip
        refine g_not rfl rfl rfl ?_
        refine g_not rfl rfl rfl ?_
        refine g_not rfl rfl rfl ?_
        refine g_val rfl rfl rfl (y_pick_f rfl rfl) ?_
        refine g_val rfl rfl rfl (y_move rfl) ?_
        refine g_not rfl rfl rfl ?_
        refine g_not rfl rfl rfl ?_
        refine g_not rfl rfl rfl ?_
        refine g_val rfl rfl rfl (y_pick_f rfl rfl) ?_
        refine g_val rfl rfl rfl (y_move rfl) ?_
        refine g_not rfl rfl rfl ?_
        refine g_not rfl rfl rfl ?_
        refine g_not rfl rfl rfl ?_
        refine g_val rfl rfl rfl (y_pick_f rfl rfl) ?_
        refine g_val rfl rfl rfl (y_move rfl) ?_
        refine g_not rfl rfl rfl ?_
        refine g_not rfl rfl rfl ?_
        refine g_not rfl rfl rfl ?_
        refine g_val rfl rfl rfl (y_pick_f rfl rfl) ?_
        refine g_val rfl rfl rfl (y_move rfl) ?_
        refine g_not rfl rfl rfl ?_
        refine g_not rfl rfl rfl ?_
        refine g_not rfl rfl rfl ?_
        refine g_val rfl rfl rfl (y_pick_f rfl rfl) ?_
        refine g_val rfl rfl rfl (y_move rfl) ?_
        refine g_not rfl rfl rfl ?_
        refine g_not rfl rfl rfl ?_
        refine g_not rfl rfl rfl ?_
        refine g_val rfl rfl rfl (y_pick_f rfl rfl) ?_
        refine g_val rfl rfl rfl (y_move rfl) ?_
        refine g_not rfl rfl rfl ?_
        refine g_not rfl rfl rfl ?_
        refine g_not rfl rfl rfl ?_
        refine g_val rfl rfl rfl (y_pick_f rfl rfl) ?_
        refine g_val rfl rfl rfl (y_move rfl) ?_
        refine g_not rfl rfl rfl ?_
        refine g_not rfl rfl rfl ?_
        refine g_not rfl rfl rfl ?_
        refine g_val rfl rfl rfl (y_pick_f rfl rfl) ?_
        refine g_val rfl rfl rfl (y_move rfl) ?_
        refine g_not rfl rfl rfl ?_
        refine g_not rfl rfl rfl ?_
        refine g_not rfl rfl rfl ?_
        refine g_val rfl rfl rfl (y_pick_f rfl rfl) ?_
        refine g_val rfl rfl rfl (y_move rfl) ?_
        refine g_not rfl rfl rfl ?_
        refine g_not rfl rfl rfl ?_
        refine g_not rfl rfl rfl ?_
        refine g_val rfl rfl rfl (y_pick_f rfl rfl) ?_
        refine g_val rfl rfl rfl (y_assign rfl) ?_
        refine g_nil (g_then (g_ret ?_))
        refine g_end1 Tryd.results5 rfl ?_
        exfalso
        simp_all
    · skip
      refine g_not rfl rfl rfl ?_
      refine g_not rfl rfl rfl ?_
      refine g_not rfl rfl rfl ?_
      refine g_not rfl rfl rfl ?_
      refine g_not rfl rfl rfl ?_
      refine g_not rfl rfl rfl ?_
      refine g_not rfl rfl rfl ?_
      refine g_val rfl rfl rfl (y_pick_f rfl rfl) ?_
      refine g_val rfl rfl rfl (y_move rfl) ?_
      refine g_not rfl rfl rfl ?_
      refine g_not rfl rfl rfl ?_
      refine g_not rfl rfl rfl ?_
      refine g_val rfl rfl rfl (y_pick_f rfl rfl) ?_
      refine g_val rfl rfl rfl (y_move rfl) ?_
      refine g_not rfl rfl rfl ?_
      refine g_not rfl rfl rfl ?_
      refine g_not rfl rfl rfl ?_
      refine g_val rfl rfl rfl (y_pick_f rfl rfl) ?_
      refine g_val rfl rfl rfl (y_move rfl) ?_
      refine g_not rfl rfl rfl ?_
      refine g_not rfl rfl rfl ?_
      refine g_not rfl rfl rfl ?_
      refine g_val rfl rfl rfl (y_pick_f rfl rfl) ?_
      refine g_val rfl rfl rfl (y_move rfl) ?_
      refine g_not rfl rfl rfl ?_
      refine g_not rfl rfl rfl ?_
      refine g_not rfl rfl rfl ?_
      refine g_val rfl rfl rfl (y_pick_f rfl rfl) ?_
      refine g_val rfl rfl rfl (y_move rfl) ?_
      refine g_not rfl rfl rfl ?_
      refine g_not rfl rfl rfl ?_
      refine g_not rfl rfl rfl ?_
      refine g_val rfl rfl rfl (y_pick_f rfl rfl) ?_
      refine g_val rfl rfl rfl (y_move rfl) ?_
      refine g_not rfl rfl rfl ?_
      refine g_not rfl rfl rfl ?_
      refine g_not rfl rfl rfl ?_
      refine g_val rfl rfl rfl (y_pick_f rfl rfl) ?_
      refine g_val rfl rfl rfl (y_move rfl) ?_
      refine g_not rfl rfl rfl ?_
      refine g_not rfl rfl rfl ?_
      refine g_not rfl rfl rfl ?_
      refine g_val rfl rfl rfl (y_pick_f rfl rfl) ?_
      refine g_val rfl rfl rfl (y_move rfl) ?_
      refine g_not rfl rfl rfl ?_
      refine g_not rfl rfl rfl ?_
      refine g_not rfl rfl rfl ?_
      refine g_val rfl rfl rfl (y_pick_f rfl rfl) ?_
      refine g_val rfl rfl rfl (y_move rfl) ?_
      refine g_not rfl rfl rfl ?_
      refine g_not rfl rfl rfl ?_
      refine g_not rfl rfl rfl ?_
      refine g_val rfl rfl rfl (y_pick_f rfl rfl) ?_
      refine g_val rfl rfl rfl (y_move rfl) ?_
      refine g_not rfl rfl rfl ?_
      refine g_not rfl rfl rfl ?_
      refine g_not rfl rfl rfl ?_
      refine g_val rfl rfl rfl (y_pick_f rfl rfl) ?_
      refine g_val rfl rfl rfl (y_assign rfl) ?_
      refine g_nil (g_then (g_ret ?_))
      refine g_end1 Tryd.results5 rfl ?_
      exfalso
      simp_all

end Go.Proofs.YtjafkmaolpkbnaaDoor
