/- The document's words, rests, lines; what ends a text. -/
import Derived.Test.YtjafkmaolpkbnaaDoorTokU
namespace Go.Proofs.YtjafkmaolpkbnaaDoor
open Go Go.RowKit

theorem trR_cons (c : UInt8) (x : List UInt8) (h : isBl c = true) : trL (trR (c :: x)) = trL (trR x) := by
  rw [trR, if_pos h]
  split
  · rename_i e; rw [e]
  · rw [trL, List.dropWhile_cons, if_pos h]; rfl
theorem trR_head (c : UInt8) (x : List UInt8) (h : isBl c = false) : trL (trR (c :: x)) = trR (c :: x) := by
  have h2 : ¬ isBl c = true := by simp [h]
  rw [trR, if_neg h2]
  split <;> rw [trL, List.dropWhile_cons, if_neg h2]
theorem tr_blk (stop : UInt8 → Bool) (h1 : stop 32 = false) (h2 : stop 9 = false) (m : List UInt8) : trL (trR (upL stop m)) = trR (upL stop (m.drop (blkL m))) := by
  induction m with
  | nil => rfl
  | cons c m ih =>
    by_cases hc : c = 32 ∨ c = 9
    · have hs : stop c = false := by rcases hc with rfl | rfl <;> assumption
      rw [blkL, if_pos hc, List.drop_succ_cons, ← ih]
      unfold upL
      rw [List.takeWhile_cons, if_pos (by simp [hs]), trR_cons c _ ((isBl_iff c).2 hc)]
    · rw [blkL, if_neg hc, List.drop_zero]
      unfold upL
      rw [List.takeWhile_cons]
      split
      · exact trR_head c _ (by cases hb : isBl c; rfl; exact absurd ((isBl_iff c).1 hb) hc)
      · rfl
theorem up_blk (stop : UInt8 → Bool) (h1 : stop 32 = false) (h2 : stop 9 = false) (m : List UInt8) : (upL stop m).length = blkL m + (upL stop (m.drop (blkL m))).length := by
  induction m with
  | nil => rfl
  | cons c m ih =>
    by_cases hc : c = 32 ∨ c = 9
    · have hs : stop c = false := by rcases hc with rfl | rfl <;> assumption
      rw [blkL, if_pos hc, List.drop_succ_cons]
      unfold upL at ih ⊢
      rw [List.takeWhile_cons, if_pos (by simp [hs]), List.length_cons, ih]; omega
    · rw [blkL, if_neg hc, List.drop_zero]; omega
theorem from_blk (s : ByteArray) (i : Int) (h : 0 ≤ i ∧ i ≤ s.size) : from_ s (blkR s i) = (from_ s i).drop (blkL (from_ s i)) := by
  unfold blkR
  rw [if_pos h]
  unfold from_
  rw [List.drop_drop]
  congr 1; omega
/-- The document's answer is the same: blanks passed ahead, then what stands up to the stop, without the blanks behind. -/
theorem up_ref (stop : UInt8 → Bool) (h1 : stop 32 = false) (h2 : stop 9 = false) (s : ByteArray) (i b e k : Int) (h : 0 ≤ i ∧ i ≤ s.size) (hb : b = blkR s i) (hbe : b ≤ e) (he : e ≤ s.size) (hu : upL stop (from_ s b) = btw s b e) (hk : trR (btw s b e) = btw s b k) : upR stop s i = (s.extract b.toNat k.toNat, e) := by
  have q1 := tr_blk stop h1 h2 (from_ s i)
  have q2 := up_blk stop h1 h2 (from_ s i)
  have hbb := blk_bd s i h
  rw [← from_blk s i h, ← hb, hu] at q1 q2
  have hl := btw_len s b e (by omega) hbe he
  unfold upR
  rw [if_pos h, q1, hk]
  refine Prod.ext (ba_ext rfl).symm ?_
  · show i + ((upL stop (from_ s i)).length : Int) = e
    rw [q2]; unfold blkR at hb; rw [if_pos h] at hb; omega
theorem btw_cut (s : ByteArray) (b k : Int) (h0 : 0 ≤ b) (h : b < k) (h1 : k ≤ s.size) (hb : isBl (by8 s (k - 1)) = true) : trR (btw s b k) = trR (btw s b (k - 1)) := by
  have e := btw_snoc s b (k - 1) h0 (by omega) (by omega)
  rw [show k - 1 + 1 = k by omega] at e
  rw [e, trR_snoc, if_pos hb]
theorem btw_stop (s : ByteArray) (b k : Int) (h0 : 0 ≤ b) (h : b < k) (h1 : k ≤ s.size) (hb : ¬ isBl (by8 s (k - 1)) = true) : trR (btw s b k) = btw s b k := by
  have e := btw_snoc s b (k - 1) h0 (by omega) (by omega)
  rw [show k - 1 + 1 = k by omega] at e
  rw [e, trR_snoc, if_neg hb]
theorem btw_nil (s : ByteArray) (b k : Int) (h : k ≤ b) : trR (btw s b k) = btw s b k := by
  have : btw s b k = [] := by rw [btw_take, show k.toNat - b.toNat = 0 by omega]; rfl
  rw [this]; rfl

theorem rupTo_any (s : ByteArray) (i : Int) (o : UInt8) (ho1 : o ≠ 32) (ho2 : o ≠ 9) (R0 : ByteArray × Int) (hs : s.size ≤ 1073741824) (hR : upR (fun c => c == 10 || c == o) s i = R0) (w : World) :
    Calls Tryd.prog 24 #[.string s, .int .i64 i, .int .u8 o.toNat] w fun e w' => e = .returned (upV R0) ∧ Below w.heap.size w w' := by
  refine fn_intro Tryd.func24 rfl Tryd.ntmps24 rfl rfl ?_
  refine g_seq (g_ops ?_)
  refine g_val rfl rfl rfl (y_assign rfl) ?_
  refine g_val rfl rfl rfl (y_assign rfl) ?_
  refine g_nil (g_then (g_seq (g_ops ?_)))
  refine g_val rfl rfl rfl (y_move rfl) ?_
  refine g_val rfl rfl rfl (y_move rfl) ?_
  refine g_call1 rfl rfl rfl Tryd.call23 (fun w hS => rplace_any _ _ w) ?_
  refine g_val rfl rfl rfl (y_assign rfl) ?_
  refine g_nil (g_then (g_seq (g_seq (g_ops ?_))))
  refine g_val rfl rfl rfl (y_move rfl) ?_
  refine g_val rfl rfl rfl ((by first | exact y_notp rfl | exact y_not rfl)) ?_
  refine g_nil (g_then ?_)
  first | refine g_casep 16 rfl (fun h1 => ?_) (fun h1 => ?_) | refine g_caseb 16 rfl (fun h1 => ?_) (fun h1 => ?_)
  · skip
    refine g_cond_t rfl (g_seq (g_ops ?_))
    refine g_val rfl rfl rfl (y_move rfl) ?_
    refine g_val rfl rfl rfl (y_assign rfl) ?_
    refine g_val rfl rfl rfl (y_assign rfl) ?_
    refine g_nil (g_then (g_ret (g_then_ret ?_)))
    refine g_end2 Tryd.results24 rfl rfl ?_
    exact fun w hS => ⟨ret_up (hR.symm.trans (by first | (rw [upR, if_neg (by simp_all)]; done) | exact up_ref _ (by simpa using fun q => ho1 q.symm) (by simpa using fun q => ho2 q.symm) s i b j k hok hb (by omega) (by omega) (by rw [hd, show upL (fun c : UInt8 => c == 10 || c == o) (from_ s j) = [] from (by first | exact up_end (fun c : UInt8 => c == 10 || c == o) s j (by omega) | exact up_no (fun c : UInt8 => c == 10 || c == o) s j (by omega) (by omega) (by rw [Bool.or_eq_true, beq_iff_eq, beq_iff_eq, ← bt_10, ← bt_eq]; omega)), List.append_nil]) (hk.trans (by first | exact btw_nil s b k (by omega) | exact btw_stop s b k (by omega) (by omega) (by omega) (by rw [isBl_iff, ← bt_32, ← bt_9]; omega))))), hS.below⟩
  · skip
    refine g_cond_f rfl (g_skip (g_then (g_seq (g_ops ?_))))
    refine g_val rfl rfl rfl (y_move rfl) ?_
    refine g_val rfl rfl rfl (y_move rfl) ?_
    obtain ⟨b, hb⟩ : ∃ b, b = blkR s i := ⟨_, rfl⟩
    have hok : 0 ≤ i ∧ i ≤ s.size := by simp_all
    have hbb := blk_bd s i hok
    rw [← hb] at hbb
    refine g_call1 rfl rfl rfl Tryd.call17 (fun w hS => rblanks_any s i b (by omega) hb.symm w) ?_
    refine g_val rfl rfl rfl (y_assign rfl) ?_
    refine g_nil (g_then (g_seq (g_ops ?_)))
    refine g_val rfl rfl rfl (y_move rfl) ?_
    refine g_val rfl rfl rfl (y_assign rfl) ?_
    refine g_nil (g_then (g_seq (g_block ?_)))
    refine g_loop (α := {x : Int // 0 ≤ b ∧ b ≤ x ∧ x ≤ s.size ∧ upL (fun c : UInt8 => c == 10 || c == o) (from_ s b) = btw s b x ++ upL (fun c : UInt8 => c == 10 || c == o) (from_ s x)}) (fun x => [(0, .string s), (2, .int .u8 o.toNat), (9, .int .i64 b), (10, .int .i64 x.1)]) (fun x => St w [] []) (fun x => s.size - x.1.toNat) ⟨b, by omega, by omega, by omega, by rw [btw_self]; rfl⟩ [0, 2, 9, 10] rfl (fun w h => h.sub .slnil) ?_
    rintro ⟨j, hx⟩
    dsimp only
    obtain ⟨hb0, hbj, hj1, hd⟩ := hx
    refine g_seq (g_seq (g_ops ?_))
    refine g_val rfl rfl rfl (y_move rfl) ?_
    refine g_val rfl rfl rfl (y_move rfl) ?_
    refine g_val rfl rfl rfl (y_slen rfl Tryd.underlying9) ?_
    refine g_val rfl rfl rfl (y_ilt rfl rfl) ?_
    refine g_val rfl rfl rfl (y_move rfl) ?_
    first | refine g_casep 26 rfl (fun h2 => ?_) (fun h2 => ?_) | refine g_caseb 26 rfl (fun h2 => ?_) (fun h2 => ?_)
    · skip
      refine g_val rfl rfl rfl (y_move rfl) ?_
      refine g_val rfl rfl rfl (y_move rfl) ?_
      refine g_val rfl rfl rfl (y_sat rfl rfl Tryd.underlying9 (by omega) (by omega)) ?_
      refine g_val rfl rfl rfl (y_ine rfl rfl) ?_
      refine g_val rfl rfl rfl (y_pick_t rfl rfl) ?_
      refine g_val rfl rfl rfl (y_move rfl) ?_
      first | refine g_casep 32 rfl (fun h3 => ?_) (fun h3 => ?_) | refine g_caseb 32 rfl (fun h3 => ?_) (fun h3 => ?_)
      · skip
        refine g_val rfl rfl rfl (y_move rfl) ?_
        refine g_val rfl rfl rfl (y_move rfl) ?_
        refine g_val rfl rfl rfl (y_sat rfl rfl Tryd.underlying9 (by omega) (by omega)) ?_
        refine g_val rfl rfl rfl (y_move rfl) ?_
        refine g_val rfl rfl rfl (y_ine rfl rfl) ?_
        refine g_val rfl rfl rfl (y_pick_t rfl rfl) ?_
        refine g_nil (g_then ?_)
        first | refine g_casep 38 rfl (fun h4 => ?_) (fun h4 => ?_) | refine g_caseb 38 rfl (fun h4 => ?_) (fun h4 => ?_)
        · skip
          refine g_cond_t rfl (g_skip (g_then (g_block (g_ops ?_))))
          refine g_val rfl rfl rfl (y_move rfl) ?_
          refine g_val rfl rfl rfl (by first | exact y_addi rfl rfl (by first | omega | (simp only [size_mk, ByteArray.size_append, ByteArray.size_extract]; omega)) | exact y_iadd rfl rfl) ?_
          refine g_val rfl rfl rfl (y_assign rfl) ?_
          refine g_nil (g_in_normal ?_)
          exact g_again ⟨j + 1, by omega, by omega, by omega, by rw [btw_snoc s b j (by omega) (by omega) (by omega), hd, up_at (fun c : UInt8 => c == 10 || c == o) s j (by omega) (by omega) (by rw [Bool.or_eq_false_iff, beq_eq_false_iff_ne, beq_eq_false_iff_ne]; exact ⟨fun q => by have := (bt_10 s j).2 q; omega, fun q => by have := (bt_eq s j o).2 q; omega⟩)]; simp⟩ [0, 2, 9, 10] (by dsimp only; omega) rfl (fun w h => h.sub .slnil)
        · skip
          refine g_cond_f rfl (g_exit (g_then_exit (g_then_exit (g_in_exit (g_then (g_seq (g_ops ?_)))))))
          refine g_val rfl rfl rfl (y_move rfl) ?_
          refine g_val rfl rfl rfl (y_assign rfl) ?_
          refine g_nil (g_then (g_seq (g_block ?_)))
          refine g_loop (α := {x : Int // b ≤ x ∧ x ≤ j ∧ trR (btw s b j) = trR (btw s b x)}) (fun x => [(0, .string s), (9, .int .i64 b), (10, .int .i64 j), (11, .int .i64 x.1)]) (fun x => St w [] []) (fun x => x.1.toNat) ⟨j, by omega, by omega, rfl⟩ [0, 9, 10, 11] rfl (fun w h => h.sub .slnil) ?_
          rintro ⟨k, hx⟩
          dsimp only
          obtain ⟨hbk, hkj, hk⟩ := hx
          refine g_seq (g_seq (g_ops ?_))
          refine g_val rfl rfl rfl (y_move rfl) ?_
          refine g_val rfl rfl rfl (y_move rfl) ?_
          refine g_val rfl rfl rfl (y_igt rfl rfl) ?_
          refine g_val rfl rfl rfl (y_move rfl) ?_
          first | refine g_casep 45 rfl (fun h5 => ?_) (fun h5 => ?_) | refine g_caseb 45 rfl (fun h5 => ?_) (fun h5 => ?_)
          · skip
            refine g_val rfl rfl rfl (y_move rfl) ?_
            refine g_val rfl rfl rfl (y_move rfl) ?_
            refine g_val rfl rfl rfl (by first | exact y_subi rfl rfl (by first | omega | (simp only [size_mk, ByteArray.size_append, ByteArray.size_extract]; omega)) | exact y_isub rfl rfl) ?_
            refine g_val rfl rfl rfl (y_sat rfl rfl Tryd.underlying9 (by omega) (by omega)) ?_
            refine g_val rfl rfl rfl (y_ieq rfl rfl) ?_
            refine g_val rfl rfl rfl (y_move rfl) ?_
            first | refine g_casep 51 rfl (fun h6 => ?_) (fun h6 => ?_) | refine g_caseb 51 rfl (fun h6 => ?_) (fun h6 => ?_)
            · skip
              refine g_not rfl rfl rfl ?_
              refine g_not rfl rfl rfl ?_
              refine g_not rfl rfl rfl ?_
              refine g_not rfl rfl rfl ?_
              refine g_not rfl rfl rfl ?_
              refine g_val rfl rfl rfl (y_pick_t rfl rfl) ?_
              refine g_val rfl rfl rfl (y_pick_t rfl rfl) ?_
              refine g_nil (g_then (g_cond_t rfl (g_skip (g_then (g_block (g_ops ?_))))))
              refine g_val rfl rfl rfl (y_move rfl) ?_
              refine g_val rfl rfl rfl (by first | exact y_subi rfl rfl (by first | omega | (simp only [size_mk, ByteArray.size_append, ByteArray.size_extract]; omega)) | exact y_isub rfl rfl) ?_
              refine g_val rfl rfl rfl (y_assign rfl) ?_
              refine g_nil (g_in_normal ?_)
              exact g_again ⟨k - 1, by omega, by omega, hk.trans (btw_cut s b k (by omega) (by omega) (by omega) (by rw [isBl_iff, ← bt_32, ← bt_9]; omega))⟩ [0, 9, 10, 11] (by dsimp only; omega) rfl (fun w h => h.sub .slnil)
            · skip
              refine g_val rfl rfl rfl (y_move rfl) ?_
              refine g_val rfl rfl rfl (y_move rfl) ?_
              refine g_val rfl rfl rfl (by first | exact y_subi rfl rfl (by first | omega | (simp only [size_mk, ByteArray.size_append, ByteArray.size_extract]; omega)) | exact y_isub rfl rfl) ?_
              refine g_val rfl rfl rfl (y_sat rfl rfl Tryd.underlying9 (by omega) (by omega)) ?_
              refine g_val rfl rfl rfl (y_ieq rfl rfl) ?_
              refine g_val rfl rfl rfl (y_pick_f rfl rfl) ?_
              refine g_val rfl rfl rfl (y_pick_t rfl rfl) ?_
              refine g_nil (g_then ?_)
              first | refine g_casep 58 rfl (fun h7 => ?_) (fun h7 => ?_) | refine g_caseb 58 rfl (fun h7 => ?_) (fun h7 => ?_)
              · skip
                refine g_cond_t rfl (g_skip (g_then (g_block (g_ops ?_))))
                refine g_val rfl rfl rfl (y_move rfl) ?_
                refine g_val rfl rfl rfl (by first | exact y_subi rfl rfl (by first | omega | (simp only [size_mk, ByteArray.size_append, ByteArray.size_extract]; omega)) | exact y_isub rfl rfl) ?_
                refine g_val rfl rfl rfl (y_assign rfl) ?_
                refine g_nil (g_in_normal ?_)
                exact g_again ⟨k - 1, by omega, by omega, hk.trans (btw_cut s b k (by omega) (by omega) (by omega) (by rw [isBl_iff, ← bt_32, ← bt_9]; omega))⟩ [0, 9, 10, 11] (by dsimp only; omega) rfl (fun w h => h.sub .slnil)
              · skip
                refine g_cond_f rfl (g_exit (g_then_exit (g_then_exit (g_in_exit (g_then (g_seq (g_ops ?_)))))))
                refine g_val rfl rfl rfl (y_move rfl) ?_
                refine g_val rfl rfl rfl (y_move rfl) ?_
                refine g_val rfl rfl rfl (y_move rfl) ?_
                refine g_val rfl rfl rfl (y_ssl rfl rfl rfl Tryd.underlying9 (by omega) (by omega) (by first | omega | (simp only [size_mk, List.length_cons, List.length_nil]; omega))) ?_
                refine g_val rfl rfl rfl (y_move rfl) ?_
                refine g_val rfl rfl rfl (y_assign rfl) ?_
                refine g_val rfl rfl rfl (y_assign rfl) ?_
                refine g_nil (g_then (g_ret ?_))
                refine g_end2 Tryd.results24 rfl rfl ?_
                exact fun w hS => ⟨ret_up (hR.symm.trans (by first | (rw [upR, if_neg (by simp_all)]; done) | exact up_ref _ (by simpa using fun q => ho1 q.symm) (by simpa using fun q => ho2 q.symm) s i b j k hok hb (by omega) (by omega) (by rw [hd, show upL (fun c : UInt8 => c == 10 || c == o) (from_ s j) = [] from (by first | exact up_end (fun c : UInt8 => c == 10 || c == o) s j (by omega) | exact up_no (fun c : UInt8 => c == 10 || c == o) s j (by omega) (by omega) (by rw [Bool.or_eq_true, beq_iff_eq, beq_iff_eq, ← bt_10, ← bt_eq]; omega)), List.append_nil]) (hk.trans (by first | exact btw_nil s b k (by omega) | exact btw_stop s b k (by omega) (by omega) (by omega) (by rw [isBl_iff, ← bt_32, ← bt_9]; omega))))), hS.below⟩
          · skip
            refine g_not rfl rfl rfl ?_
            refine g_not rfl rfl rfl ?_
            refine g_not rfl rfl rfl ?_
            refine g_not rfl rfl rfl ?_
            refine g_not rfl rfl rfl ?_
            refine g_not rfl rfl rfl ?_
            refine g_not rfl rfl rfl ?_
            refine g_not rfl rfl rfl ?_
            refine g_not rfl rfl rfl ?_
            refine g_not rfl rfl rfl ?_
            refine g_not rfl rfl rfl ?_
            refine g_not rfl rfl rfl ?_
            refine g_val rfl rfl rfl (y_pick_f rfl rfl) ?_
            refine g_nil (g_then (g_cond_f rfl (g_exit (g_then_exit (g_then_exit (g_in_exit (g_then (g_seq (g_ops ?_)))))))))
            refine g_val rfl rfl rfl (y_move rfl) ?_
            refine g_val rfl rfl rfl (y_move rfl) ?_
            refine g_val rfl rfl rfl (y_move rfl) ?_
            refine g_val rfl rfl rfl (y_ssl rfl rfl rfl Tryd.underlying9 (by omega) (by omega) (by first | omega | (simp only [size_mk, List.length_cons, List.length_nil]; omega))) ?_
            refine g_val rfl rfl rfl (y_move rfl) ?_
            refine g_val rfl rfl rfl (y_assign rfl) ?_
            refine g_val rfl rfl rfl (y_assign rfl) ?_
            refine g_nil (g_then (g_ret ?_))
            refine g_end2 Tryd.results24 rfl rfl ?_
            exact fun w hS => ⟨ret_up (hR.symm.trans (by first | (rw [upR, if_neg (by simp_all)]; done) | exact up_ref _ (by simpa using fun q => ho1 q.symm) (by simpa using fun q => ho2 q.symm) s i b j k hok hb (by omega) (by omega) (by rw [hd, show upL (fun c : UInt8 => c == 10 || c == o) (from_ s j) = [] from (by first | exact up_end (fun c : UInt8 => c == 10 || c == o) s j (by omega) | exact up_no (fun c : UInt8 => c == 10 || c == o) s j (by omega) (by omega) (by rw [Bool.or_eq_true, beq_iff_eq, beq_iff_eq, ← bt_10, ← bt_eq]; omega)), List.append_nil]) (hk.trans (by first | exact btw_nil s b k (by omega) | exact btw_stop s b k (by omega) (by omega) (by omega) (by rw [isBl_iff, ← bt_32, ← bt_9]; omega))))), hS.below⟩
      · skip
        refine g_not rfl rfl rfl ?_
        refine g_not rfl rfl rfl ?_
        refine g_not rfl rfl rfl ?_
        refine g_not rfl rfl rfl ?_
        refine g_not rfl rfl rfl ?_
        refine g_val rfl rfl rfl (y_pick_f rfl rfl) ?_
        refine g_nil (g_then (g_cond_f rfl (g_exit (g_then_exit (g_then_exit (g_in_exit (g_then (g_seq (g_ops ?_)))))))))
        refine g_val rfl rfl rfl (y_move rfl) ?_
        refine g_val rfl rfl rfl (y_assign rfl) ?_
        refine g_nil (g_then (g_seq (g_block ?_)))
        refine g_loop (α := {x : Int // b ≤ x ∧ x ≤ j ∧ trR (btw s b j) = trR (btw s b x)}) (fun x => [(0, .string s), (9, .int .i64 b), (10, .int .i64 j), (11, .int .i64 x.1)]) (fun x => St w [] []) (fun x => x.1.toNat) ⟨j, by omega, by omega, rfl⟩ [0, 9, 10, 11] rfl (fun w h => h.sub .slnil) ?_
        rintro ⟨k, hx⟩
        dsimp only
        obtain ⟨hbk, hkj, hk⟩ := hx
        refine g_seq (g_seq (g_ops ?_))
        refine g_val rfl rfl rfl (y_move rfl) ?_
        refine g_val rfl rfl rfl (y_move rfl) ?_
        refine g_val rfl rfl rfl (y_igt rfl rfl) ?_
        refine g_val rfl rfl rfl (y_move rfl) ?_
        first | refine g_casep 45 rfl (fun h8 => ?_) (fun h8 => ?_) | refine g_caseb 45 rfl (fun h8 => ?_) (fun h8 => ?_)
        · skip
          refine g_val rfl rfl rfl (y_move rfl) ?_
          refine g_val rfl rfl rfl (y_move rfl) ?_
          refine g_val rfl rfl rfl (by first | exact y_subi rfl rfl (by first | omega | (simp only [size_mk, ByteArray.size_append, ByteArray.size_extract]; omega)) | exact y_isub rfl rfl) ?_
          refine g_val rfl rfl rfl (y_sat rfl rfl Tryd.underlying9 (by omega) (by omega)) ?_
          refine g_val rfl rfl rfl (y_ieq rfl rfl) ?_
          refine g_val rfl rfl rfl (y_move rfl) ?_
          first | refine g_casep 51 rfl (fun h9 => ?_) (fun h9 => ?_) | refine g_caseb 51 rfl (fun h9 => ?_) (fun h9 => ?_)
          · skip
            refine g_not rfl rfl rfl ?_
            refine g_not rfl rfl rfl ?_
            refine g_not rfl rfl rfl ?_
            refine g_not rfl rfl rfl ?_
            refine g_not rfl rfl rfl ?_
            refine g_val rfl rfl rfl (y_pick_t rfl rfl) ?_
            refine g_val rfl rfl rfl (y_pick_t rfl rfl) ?_
            refine g_nil (g_then (g_cond_t rfl (g_skip (g_then (g_block (g_ops ?_))))))
            refine g_val rfl rfl rfl (y_move rfl) ?_
            refine g_val rfl rfl rfl (by first | exact y_subi rfl rfl (by first | omega | (simp only [size_mk, ByteArray.size_append, ByteArray.size_extract]; omega)) | exact y_isub rfl rfl) ?_
            refine g_val rfl rfl rfl (y_assign rfl) ?_
            refine g_nil (g_in_normal ?_)
            exact g_again ⟨k - 1, by omega, by omega, hk.trans (btw_cut s b k (by omega) (by omega) (by omega) (by rw [isBl_iff, ← bt_32, ← bt_9]; omega))⟩ [0, 9, 10, 11] (by dsimp only; omega) rfl (fun w h => h.sub .slnil)
          · skip
            refine g_val rfl rfl rfl (y_move rfl) ?_
            refine g_val rfl rfl rfl (y_move rfl) ?_
            refine g_val rfl rfl rfl (by first | exact y_subi rfl rfl (by first | omega | (simp only [size_mk, ByteArray.size_append, ByteArray.size_extract]; omega)) | exact y_isub rfl rfl) ?_
            refine g_val rfl rfl rfl (y_sat rfl rfl Tryd.underlying9 (by omega) (by omega)) ?_
            refine g_val rfl rfl rfl (y_ieq rfl rfl) ?_
            refine g_val rfl rfl rfl (y_pick_f rfl rfl) ?_
            refine g_val rfl rfl rfl (y_pick_t rfl rfl) ?_
            refine g_nil (g_then ?_)
            first | refine g_casep 58 rfl (fun h10 => ?_) (fun h10 => ?_) | refine g_caseb 58 rfl (fun h10 => ?_) (fun h10 => ?_)
            · skip
              refine g_cond_t rfl (g_skip (g_then (g_block (g_ops ?_))))
              refine g_val rfl rfl rfl (y_move rfl) ?_
              refine g_val rfl rfl rfl (by first | exact y_subi rfl rfl (by first | omega | (simp only [size_mk, ByteArray.size_append, ByteArray.size_extract]; omega)) | exact y_isub rfl rfl) ?_
              refine g_val rfl rfl rfl (y_assign rfl) ?_
              refine g_nil (g_in_normal ?_)
              exact g_again ⟨k - 1, by omega, by omega, hk.trans (btw_cut s b k (by omega) (by omega) (by omega) (by rw [isBl_iff, ← bt_32, ← bt_9]; omega))⟩ [0, 9, 10, 11] (by dsimp only; omega) rfl (fun w h => h.sub .slnil)
            · skip
              refine g_cond_f rfl (g_exit (g_then_exit (g_then_exit (g_in_exit (g_then (g_seq (g_ops ?_)))))))
              refine g_val rfl rfl rfl (y_move rfl) ?_
              refine g_val rfl rfl rfl (y_move rfl) ?_
              refine g_val rfl rfl rfl (y_move rfl) ?_
              refine g_val rfl rfl rfl (y_ssl rfl rfl rfl Tryd.underlying9 (by omega) (by omega) (by first | omega | (simp only [size_mk, List.length_cons, List.length_nil]; omega))) ?_
              refine g_val rfl rfl rfl (y_move rfl) ?_
              refine g_val rfl rfl rfl (y_assign rfl) ?_
              refine g_val rfl rfl rfl (y_assign rfl) ?_
              refine g_nil (g_then (g_ret ?_))
              refine g_end2 Tryd.results24 rfl rfl ?_
              exact fun w hS => ⟨ret_up (hR.symm.trans (by first | (rw [upR, if_neg (by simp_all)]; done) | exact up_ref _ (by simpa using fun q => ho1 q.symm) (by simpa using fun q => ho2 q.symm) s i b j k hok hb (by omega) (by omega) (by rw [hd, show upL (fun c : UInt8 => c == 10 || c == o) (from_ s j) = [] from (by first | exact up_end (fun c : UInt8 => c == 10 || c == o) s j (by omega) | exact up_no (fun c : UInt8 => c == 10 || c == o) s j (by omega) (by omega) (by rw [Bool.or_eq_true, beq_iff_eq, beq_iff_eq, ← bt_10, ← bt_eq]; omega)), List.append_nil]) (hk.trans (by first | exact btw_nil s b k (by omega) | exact btw_stop s b k (by omega) (by omega) (by omega) (by rw [isBl_iff, ← bt_32, ← bt_9]; omega))))), hS.below⟩
        · skip
          refine g_not rfl rfl rfl ?_
          refine g_not rfl rfl rfl ?_
          refine g_not rfl rfl rfl ?_
          refine g_not rfl rfl rfl ?_
          refine g_not rfl rfl rfl ?_
          refine g_not rfl rfl rfl ?_
          refine g_not rfl rfl rfl ?_
          refine g_not rfl rfl rfl ?_
          refine g_not rfl rfl rfl ?_
          refine g_not rfl rfl rfl ?_
          refine g_not rfl rfl rfl ?_
          refine g_not rfl rfl rfl ?_
          refine g_val rfl rfl rfl (y_pick_f rfl rfl) ?_
          refine g_nil (g_then (g_cond_f rfl (g_exit (g_then_exit (g_then_exit (g_in_exit (g_then (g_seq (g_ops ?_)))))))))
          refine g_val rfl rfl rfl (y_move rfl) ?_
          refine g_val rfl rfl rfl (y_move rfl) ?_
          refine g_val rfl rfl rfl (y_move rfl) ?_
          refine g_val rfl rfl rfl (y_ssl rfl rfl rfl Tryd.underlying9 (by omega) (by omega) (by first | omega | (simp only [size_mk, List.length_cons, List.length_nil]; omega))) ?_
          refine g_val rfl rfl rfl (y_move rfl) ?_
          refine g_val rfl rfl rfl (y_assign rfl) ?_
          refine g_val rfl rfl rfl (y_assign rfl) ?_
          refine g_nil (g_then (g_ret ?_))
          refine g_end2 Tryd.results24 rfl rfl ?_
          exact fun w hS => ⟨ret_up (hR.symm.trans (by first | (rw [upR, if_neg (by simp_all)]; done) | exact up_ref _ (by simpa using fun q => ho1 q.symm) (by simpa using fun q => ho2 q.symm) s i b j k hok hb (by omega) (by omega) (by rw [hd, show upL (fun c : UInt8 => c == 10 || c == o) (from_ s j) = [] from (by first | exact up_end (fun c : UInt8 => c == 10 || c == o) s j (by omega) | exact up_no (fun c : UInt8 => c == 10 || c == o) s j (by omega) (by omega) (by rw [Bool.or_eq_true, beq_iff_eq, beq_iff_eq, ← bt_10, ← bt_eq]; omega)), List.append_nil]) (hk.trans (by first | exact btw_nil s b k (by omega) | exact btw_stop s b k (by omega) (by omega) (by omega) (by rw [isBl_iff, ← bt_32, ← bt_9]; omega))))), hS.below⟩
    · skip
      refine g_not rfl rfl rfl ?_
      refine g_not rfl rfl rfl ?_
      refine g_not rfl rfl rfl ?_
      refine g_not rfl rfl rfl ?_
      refine g_val rfl rfl rfl (y_pick_f rfl rfl) ?_
      refine g_val rfl rfl rfl (y_move rfl) ?_
      refine g_not rfl rfl rfl ?_
      refine g_not rfl rfl rfl ?_
      refine g_not rfl rfl rfl ?_
      refine g_not rfl rfl rfl ?_
      refine g_not rfl rfl rfl ?_
      refine g_val rfl rfl rfl (y_pick_f rfl rfl) ?_
      refine g_nil (g_then (g_cond_f rfl (g_exit (g_then_exit (g_then_exit (g_in_exit (g_then (g_seq (g_ops ?_)))))))))
      refine g_val rfl rfl rfl (y_move rfl) ?_
      refine g_val rfl rfl rfl (y_assign rfl) ?_
      refine g_nil (g_then (g_seq (g_block ?_)))
      refine g_loop (α := {x : Int // b ≤ x ∧ x ≤ j ∧ trR (btw s b j) = trR (btw s b x)}) (fun x => [(0, .string s), (9, .int .i64 b), (10, .int .i64 j), (11, .int .i64 x.1)]) (fun x => St w [] []) (fun x => x.1.toNat) ⟨j, by omega, by omega, rfl⟩ [0, 9, 10, 11] rfl (fun w h => h.sub .slnil) ?_
      rintro ⟨k, hx⟩
      dsimp only
      obtain ⟨hbk, hkj, hk⟩ := hx
      refine g_seq (g_seq (g_ops ?_))
      refine g_val rfl rfl rfl (y_move rfl) ?_
      refine g_val rfl rfl rfl (y_move rfl) ?_
      refine g_val rfl rfl rfl (y_igt rfl rfl) ?_
      refine g_val rfl rfl rfl (y_move rfl) ?_
      first | refine g_casep 45 rfl (fun h11 => ?_) (fun h11 => ?_) | refine g_caseb 45 rfl (fun h11 => ?_) (fun h11 => ?_)
      · skip
        refine g_val rfl rfl rfl (y_move rfl) ?_
        refine g_val rfl rfl rfl (y_move rfl) ?_
        refine g_val rfl rfl rfl (by first | exact y_subi rfl rfl (by first | omega | (simp only [size_mk, ByteArray.size_append, ByteArray.size_extract]; omega)) | exact y_isub rfl rfl) ?_
        refine g_val rfl rfl rfl (y_sat rfl rfl Tryd.underlying9 (by omega) (by omega)) ?_
        refine g_val rfl rfl rfl (y_ieq rfl rfl) ?_
        refine g_val rfl rfl rfl (y_move rfl) ?_
        first | refine g_casep 51 rfl (fun h12 => ?_) (fun h12 => ?_) | refine g_caseb 51 rfl (fun h12 => ?_) (fun h12 => ?_)
        · skip
          refine g_not rfl rfl rfl ?_
          refine g_not rfl rfl rfl ?_
          refine g_not rfl rfl rfl ?_
          refine g_not rfl rfl rfl ?_
          refine g_not rfl rfl rfl ?_
          refine g_val rfl rfl rfl (y_pick_t rfl rfl) ?_
          refine g_val rfl rfl rfl (y_pick_t rfl rfl) ?_
          refine g_nil (g_then (g_cond_t rfl (g_skip (g_then (g_block (g_ops ?_))))))
          refine g_val rfl rfl rfl (y_move rfl) ?_
          refine g_val rfl rfl rfl (by first | exact y_subi rfl rfl (by first | omega | (simp only [size_mk, ByteArray.size_append, ByteArray.size_extract]; omega)) | exact y_isub rfl rfl) ?_
          refine g_val rfl rfl rfl (y_assign rfl) ?_
          refine g_nil (g_in_normal ?_)
          exact g_again ⟨k - 1, by omega, by omega, hk.trans (btw_cut s b k (by omega) (by omega) (by omega) (by rw [isBl_iff, ← bt_32, ← bt_9]; omega))⟩ [0, 9, 10, 11] (by dsimp only; omega) rfl (fun w h => h.sub .slnil)
        · skip
          refine g_val rfl rfl rfl (y_move rfl) ?_
          refine g_val rfl rfl rfl (y_move rfl) ?_
          refine g_val rfl rfl rfl (by first | exact y_subi rfl rfl (by first | omega | (simp only [size_mk, ByteArray.size_append, ByteArray.size_extract]; omega)) | exact y_isub rfl rfl) ?_
          refine g_val rfl rfl rfl (y_sat rfl rfl Tryd.underlying9 (by omega) (by omega)) ?_
          refine g_val rfl rfl rfl (y_ieq rfl rfl) ?_
          refine g_val rfl rfl rfl (y_pick_f rfl rfl) ?_
          refine g_val rfl rfl rfl (y_pick_t rfl rfl) ?_
          refine g_nil (g_then ?_)
          first | refine g_casep 58 rfl (fun h13 => ?_) (fun h13 => ?_) | refine g_caseb 58 rfl (fun h13 => ?_) (fun h13 => ?_)
          · skip
            refine g_cond_t rfl (g_skip (g_then (g_block (g_ops ?_))))
            refine g_val rfl rfl rfl (y_move rfl) ?_
            refine g_val rfl rfl rfl (by first | exact y_subi rfl rfl (by first | omega | (simp only [size_mk, ByteArray.size_append, ByteArray.size_extract]; omega)) | exact y_isub rfl rfl) ?_
            refine g_val rfl rfl rfl (y_assign rfl) ?_
            refine g_nil (g_in_normal ?_)
            exact g_again ⟨k - 1, by omega, by omega, hk.trans (btw_cut s b k (by omega) (by omega) (by omega) (by rw [isBl_iff, ← bt_32, ← bt_9]; omega))⟩ [0, 9, 10, 11] (by dsimp only; omega) rfl (fun w h => h.sub .slnil)
          · skip
            refine g_cond_f rfl (g_exit (g_then_exit (g_then_exit (g_in_exit (g_then (g_seq (g_ops ?_)))))))
            refine g_val rfl rfl rfl (y_move rfl) ?_
            refine g_val rfl rfl rfl (y_move rfl) ?_
            refine g_val rfl rfl rfl (y_move rfl) ?_
            refine g_val rfl rfl rfl (y_ssl rfl rfl rfl Tryd.underlying9 (by omega) (by omega) (by first | omega | (simp only [size_mk, List.length_cons, List.length_nil]; omega))) ?_
            refine g_val rfl rfl rfl (y_move rfl) ?_
            refine g_val rfl rfl rfl (y_assign rfl) ?_
            refine g_val rfl rfl rfl (y_assign rfl) ?_
            refine g_nil (g_then (g_ret ?_))
            refine g_end2 Tryd.results24 rfl rfl ?_
            exact fun w hS => ⟨ret_up (hR.symm.trans (by first | (rw [upR, if_neg (by simp_all)]; done) | exact up_ref _ (by simpa using fun q => ho1 q.symm) (by simpa using fun q => ho2 q.symm) s i b j k hok hb (by omega) (by omega) (by rw [hd, show upL (fun c : UInt8 => c == 10 || c == o) (from_ s j) = [] from (by first | exact up_end (fun c : UInt8 => c == 10 || c == o) s j (by omega) | exact up_no (fun c : UInt8 => c == 10 || c == o) s j (by omega) (by omega) (by rw [Bool.or_eq_true, beq_iff_eq, beq_iff_eq, ← bt_10, ← bt_eq]; omega)), List.append_nil]) (hk.trans (by first | exact btw_nil s b k (by omega) | exact btw_stop s b k (by omega) (by omega) (by omega) (by rw [isBl_iff, ← bt_32, ← bt_9]; omega))))), hS.below⟩
      · skip
        refine g_not rfl rfl rfl ?_
        refine g_not rfl rfl rfl ?_
        refine g_not rfl rfl rfl ?_
        refine g_not rfl rfl rfl ?_
        refine g_not rfl rfl rfl ?_
        refine g_not rfl rfl rfl ?_
        refine g_not rfl rfl rfl ?_
        refine g_not rfl rfl rfl ?_
        refine g_not rfl rfl rfl ?_
        refine g_not rfl rfl rfl ?_
        refine g_not rfl rfl rfl ?_
        refine g_not rfl rfl rfl ?_
        refine g_val rfl rfl rfl (y_pick_f rfl rfl) ?_
        refine g_nil (g_then (g_cond_f rfl (g_exit (g_then_exit (g_then_exit (g_in_exit (g_then (g_seq (g_ops ?_)))))))))
        refine g_val rfl rfl rfl (y_move rfl) ?_
        refine g_val rfl rfl rfl (y_move rfl) ?_
        refine g_val rfl rfl rfl (y_move rfl) ?_
        refine g_val rfl rfl rfl (y_ssl rfl rfl rfl Tryd.underlying9 (by omega) (by omega) (by first | omega | (simp only [size_mk, List.length_cons, List.length_nil]; omega))) ?_
        refine g_val rfl rfl rfl (y_move rfl) ?_
        refine g_val rfl rfl rfl (y_assign rfl) ?_
        refine g_val rfl rfl rfl (y_assign rfl) ?_
        refine g_nil (g_then (g_ret ?_))
        refine g_end2 Tryd.results24 rfl rfl ?_
        exact fun w hS => ⟨ret_up (hR.symm.trans (by first | (rw [upR, if_neg (by simp_all)]; done) | exact up_ref _ (by simpa using fun q => ho1 q.symm) (by simpa using fun q => ho2 q.symm) s i b j k hok hb (by omega) (by omega) (by rw [hd, show upL (fun c : UInt8 => c == 10 || c == o) (from_ s j) = [] from (by first | exact up_end (fun c : UInt8 => c == 10 || c == o) s j (by omega) | exact up_no (fun c : UInt8 => c == 10 || c == o) s j (by omega) (by omega) (by rw [Bool.or_eq_true, beq_iff_eq, beq_iff_eq, ← bt_10, ← bt_eq]; omega)), List.append_nil]) (hk.trans (by first | exact btw_nil s b k (by omega) | exact btw_stop s b k (by omega) (by omega) (by omega) (by rw [isBl_iff, ← bt_32, ← bt_9]; omega))))), hS.below⟩

theorem rword_any (s : ByteArray) (i : Int) (R0 : ByteArray × Int) (hs : s.size ≤ 1073741824) (hR : upR wordS s i = R0) (w : World) :
    Calls Tryd.prog 13 #[.string s, .int .i64 i] w fun e w' => e = .returned (upV R0) ∧ Below w.heap.size w w' := by
  refine fn_intro Tryd.func13 rfl Tryd.ntmps13 rfl rfl ?_
  refine g_seq (g_ops ?_)
  refine g_val rfl rfl rfl (y_assign rfl) ?_
  refine g_val rfl rfl rfl (y_assign rfl) ?_
  refine g_nil (g_then (g_seq (g_ops ?_)))
  refine g_val rfl rfl rfl (y_move rfl) ?_
  refine g_val rfl rfl rfl (y_move rfl) ?_
  refine g_call1 rfl rfl rfl Tryd.call24 (fun w hS => rupTo_any _ _ 59 (by decide) (by decide) R0 (by omega) hR w) ?_
  refine g_val rfl rfl rfl (y_extract rfl rfl) ?_
  refine g_val rfl rfl rfl (y_extract rfl rfl) ?_
  refine g_val rfl rfl rfl (y_assign rfl) ?_
  refine g_val rfl rfl rfl (y_assign rfl) ?_
  refine g_nil (g_then (g_ret ?_))
  refine g_end2 Tryd.results13 rfl rfl ?_
  exact fun w hS => ⟨rfl, hS.below⟩

theorem rrest_any (s : ByteArray) (i : Int) (R0 : ByteArray × Int) (hs : s.size ≤ 1073741824) (hR : upR restS s i = R0) (w : World) :
    Calls Tryd.prog 14 #[.string s, .int .i64 i] w fun e w' => e = .returned (upV R0) ∧ Below w.heap.size w w' := by
  refine fn_intro Tryd.func14 rfl Tryd.ntmps14 rfl rfl ?_
  refine g_seq (g_ops ?_)
  refine g_val rfl rfl rfl (y_assign rfl) ?_
  refine g_val rfl rfl rfl (y_assign rfl) ?_
  refine g_nil (g_then (g_seq (g_ops ?_)))
  refine g_val rfl rfl rfl (y_move rfl) ?_
  refine g_val rfl rfl rfl (y_move rfl) ?_
  refine g_call1 rfl rfl rfl Tryd.call24 (fun w hS => rupTo_any _ _ 10 (by decide) (by decide) R0 (by omega) hR w) ?_
  refine g_val rfl rfl rfl (y_extract rfl rfl) ?_
  refine g_val rfl rfl rfl (y_extract rfl rfl) ?_
  refine g_val rfl rfl rfl (y_assign rfl) ?_
  refine g_val rfl rfl rfl (y_assign rfl) ?_
  refine g_nil (g_then (g_ret ?_))
  refine g_end2 Tryd.results14 rfl rfl ?_
  exact fun w hS => ⟨rfl, hS.below⟩

end Go.Proofs.YtjafkmaolpkbnaaDoor
