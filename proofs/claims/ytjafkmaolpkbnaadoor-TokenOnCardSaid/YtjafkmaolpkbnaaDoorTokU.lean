/- Words and rests; the document's own functions. -/
import Derived.Test.YtjafkmaolpkbnaaDoorTokT
import Derived.Test.YtjafkmaolpkbnaaDoorTokQ
namespace Go.Proofs.YtjafkmaolpkbnaaDoor
open Go Go.RowKit

def upL (stop : UInt8 → Bool) (x : List UInt8) : List UInt8 := x.takeWhile fun c => !stop c
def upR (stop : UInt8 → Bool) (s : ByteArray) (i : Int) : ByteArray × Int :=
  if 0 ≤ i ∧ i ≤ s.size then (⟨(trL (trR (upL stop (from_ s i)))).toArray⟩, i + (upL stop (from_ s i)).length) else (⟨#[]⟩, i)
abbrev upV (r : ByteArray × Int) : Value := .tuple #[.string r.1, .int .i64 r.2]
theorem ret_up {a : ByteArray} {b : Int} {r : ByteArray × Int} (h : r = (a, b)) : Ending.returned (.tuple #[.string a, .int .i64 b]) = .returned (upV r) := by rw [h]
theorem up_at (stop : UInt8 → Bool) (s : ByteArray) (i : Int) (h0 : 0 ≤ i) (h1 : i < s.size) (h : stop (by8 s i) = false) : upL stop (from_ s i) = by8 s i :: upL stop (from_ s (i + 1)) := by
  rw [from_at s i h0 h1, upL, List.takeWhile_cons, if_pos (by simp [h])]; rfl
theorem up_no (stop : UInt8 → Bool) (s : ByteArray) (i : Int) (h0 : 0 ≤ i) (h1 : i < s.size) (h : stop (by8 s i) = true) : upL stop (from_ s i) = [] := by
  rw [from_at s i h0 h1, upL, List.takeWhile_cons, if_neg (by simp [h])]
theorem up_end (stop : UInt8 → Bool) (s : ByteArray) (i : Int) (h1 : i = s.size) : upL stop (from_ s i) = [] := by rw [from_end s i h1]; rfl
/-- The bytes from i to j. -/
def btw (s : ByteArray) (i j : Int) : List UInt8 := (s.extract i.toNat j.toNat).data.toList
theorem btw_take (s : ByteArray) (i j : Int) : btw s i j = (from_ s i).take (j.toNat - i.toNat) := by
  unfold btw from_
  rw [ByteArray.data_extract, Array.toList_extract, List.extract_eq_take_drop]
theorem btw_self (s : ByteArray) (i : Int) : btw s i i = [] := by rw [btw_take]; simp
theorem btw_len (s : ByteArray) (i j : Int) (h0 : 0 ≤ i) (h : i ≤ j) (h1 : j ≤ s.size) : ((btw s i j).length : Int) = j - i := by
  have := from_len s i h0 (by omega)
  rw [btw_take, List.length_take]; omega
theorem btw_snoc (s : ByteArray) (i j : Int) (h0 : 0 ≤ i) (h : i ≤ j) (h1 : j < s.size) : btw s i (j + 1) = btw s i j ++ [by8 s j] := by
  have e1 : (j + 1).toNat - i.toNat = (j.toNat - i.toNat) + 1 := by omega
  have e2 : (from_ s i)[j.toNat - i.toNat]? = some (by8 s j) := by
    have h3 := from_at s j (by omega) h1
    unfold from_ at h3 ⊢
    rw [List.getElem?_drop]
    have e3 : i.toNat + (j.toNat - i.toNat) = j.toNat := by omega
    rw [e3]
    have h4 := congrArg (fun l => l[0]?) h3
    simp only [List.getElem?_drop, Nat.add_zero, List.getElem?_cons_zero] at h4
    exact h4
  rw [btw_take, btw_take, e1, List.take_add_one, e2]; rfl
theorem idx_stop (ends : ByteArray) (s : ByteArray) (i : Int) (stop : UInt8 → Bool) (hst : ∀ c, 0 ≤ Lib.indexByte ends.data.toList c ↔ stop c = true) : Lib.indexByte ends.data.toList (bt s i).toNat.toUInt8 < 0 ↔ stop (by8 s i) = false := by
  have e : (bt s i).toNat.toUInt8 = by8 s i := by unfold bt; simp
  have h := hst (by8 s i)
  rw [e]
  cases hq : stop (by8 s i)
  · rw [hq] at h; simp at h ⊢; omega
  · rw [hq] at h; simp at h ⊢; omega

theorem upTo_any (s : ByteArray) (i : Int) (ends : ByteArray) (stop : UInt8 → Bool) (hst : ∀ c, 0 ≤ Lib.indexByte ends.data.toList c ↔ stop c = true) (R0 : ByteArray × Int) (hs : s.size ≤ 1073741824) (hR : upR stop s i = R0) (w : World) :
    Calls Tryd.prog 19 #[.string s, .int .i64 i, .string ends] w fun e w' => e = .returned (upV R0) ∧ Below w.heap.size w w' := by
  refine fn_intro Tryd.func19 rfl Tryd.ntmps19 rfl rfl ?_
  refine g_seq (g_ops ?_)
  refine g_val rfl rfl rfl (y_assign rfl) ?_
  refine g_val rfl rfl rfl (y_assign rfl) ?_
  refine g_nil (g_then (g_seq (g_seq (g_ops ?_))))
  refine g_val rfl rfl rfl (y_move rfl) ?_
  refine g_val rfl rfl rfl (y_move rfl) ?_
  refine g_call1 rfl rfl rfl Tryd.call20 (fun w hS => place_any _ _ w) ?_
  refine g_val rfl rfl rfl ((by first | exact y_notp rfl | exact y_not rfl)) ?_
  refine g_nil (g_then ?_)
  first | refine g_casep 12 rfl (fun h1 => ?_) (fun h1 => ?_) | refine g_caseb 12 rfl (fun h1 => ?_) (fun h1 => ?_)
  · skip
    refine g_cond_t rfl (g_seq (g_ops ?_))
    refine g_val rfl rfl rfl (y_move rfl) ?_
    refine g_val rfl rfl rfl (y_assign rfl) ?_
    refine g_val rfl rfl rfl (y_assign rfl) ?_
    refine g_nil (g_then (g_ret (g_then_ret ?_)))
    refine g_end2 Tryd.results19 rfl rfl ?_
    exact fun w hS => ⟨ret_up (by first | (rw [← hR, upR, if_neg (by simp_all)]; done) | (have he := (by first | exact up_end stop s j (by omega) | exact up_no stop s j (by omega) (by omega) (by rw [← Bool.not_eq_false, ← hst2]; omega)); rw [he, List.append_nil] at hd; have hl := btw_len s i j (by omega) (by omega) (by omega); rw [← hR, upR, if_pos ⟨by omega, by omega⟩, hd]; rw [show i + ((btw s i j).length : Int) = j by omega]; rfl)), hS.below⟩
  · skip
    refine g_cond_f rfl (g_skip (g_then (g_seq (g_ops ?_))))
    refine g_val rfl rfl rfl (y_move rfl) ?_
    refine g_val rfl rfl rfl (y_assign rfl) ?_
    refine g_nil (g_then (g_seq (g_block ?_)))
    refine g_loop (α := {x : Int // 0 ≤ i ∧ i ≤ x ∧ x ≤ s.size ∧ upL stop (from_ s i) = btw s i x ++ upL stop (from_ s x)}) (fun x => [(0, .string s), (1, .int .i64 i), (2, .string ends), (8, .int .i64 x.1)]) (fun x => St w [] []) (fun x => s.size - x.1.toNat) ⟨i, by omega, by omega, by omega, by rw [btw_self]; rfl⟩ [0, 1, 2, 8] rfl (fun w h => h.sub .slnil) ?_
    rintro ⟨j, hx⟩
    dsimp only
    obtain ⟨hi0, hij, hj1, hd⟩ := hx
    have hst2 := idx_stop ends s j stop hst
    refine g_seq (g_seq (g_ops ?_))
    refine g_val rfl rfl rfl (y_move rfl) ?_
    refine g_val rfl rfl rfl (y_move rfl) ?_
    refine g_val rfl rfl rfl (y_slen rfl Tryd.underlying9) ?_
    refine g_val rfl rfl rfl (y_ilt rfl rfl) ?_
    refine g_val rfl rfl rfl (y_move rfl) ?_
    first | refine g_casep 19 rfl (fun h2 => ?_) (fun h2 => ?_) | refine g_caseb 19 rfl (fun h2 => ?_) (fun h2 => ?_)
    · skip
      refine g_val rfl rfl rfl (y_move rfl) ?_
      refine g_val rfl rfl rfl (y_move rfl) ?_
      refine g_val rfl rfl rfl (y_move rfl) ?_
      refine g_val rfl rfl rfl (y_sat rfl rfl Tryd.underlying9 (by omega) (by omega)) ?_
      refine g_call1 rfl rfl rfl Tryd.call21 (fun w hS => ixb_any _ _ w) ?_
      refine g_val rfl rfl rfl (y_ilt rfl rfl) ?_
      refine g_val rfl rfl rfl (y_pick_t rfl rfl) ?_
      refine g_nil (g_then ?_)
      first | refine g_casep 26 rfl (fun h3 => ?_) (fun h3 => ?_) | refine g_caseb 26 rfl (fun h3 => ?_) (fun h3 => ?_)
      · skip
        refine g_cond_t rfl (g_skip (g_then (g_block (g_ops ?_))))
        refine g_val rfl rfl rfl (y_move rfl) ?_
        refine g_val rfl rfl rfl (by first | exact y_addi rfl rfl (by first | omega | (simp only [size_mk, ByteArray.size_append, ByteArray.size_extract]; omega)) | exact y_iadd rfl rfl) ?_
        refine g_val rfl rfl rfl (y_assign rfl) ?_
        refine g_nil (g_in_normal ?_)
        exact g_again ⟨j + 1, by omega, by omega, by omega, by rw [btw_snoc s i j (by omega) (by omega) (by omega), hd, up_at stop s j (by omega) (by omega) (hst2.1 (by omega))]; simp⟩ [0, 1, 2, 8] (by dsimp only; omega) rfl (fun w h => h.sub .slnil)
      · skip
        refine g_cond_f rfl (g_exit (g_then_exit (g_then_exit (g_in_exit (g_then (g_seq (g_ops ?_)))))))
        refine g_val rfl rfl rfl (y_move rfl) ?_
        refine g_val rfl rfl rfl (y_move rfl) ?_
        refine g_val rfl rfl rfl (y_move rfl) ?_
        refine g_val rfl rfl rfl (y_ssl rfl rfl rfl Tryd.underlying9 (by omega) (by omega) (by first | omega | (simp only [size_mk, List.length_cons, List.length_nil]; omega))) ?_
        refine g_call1 rfl rfl rfl Tryd.call26 (fun w hS => trim_any _ (by rw [ByteArray.size_extract]; omega) w) ?_
        refine g_val rfl rfl rfl (y_move rfl) ?_
        refine g_val rfl rfl rfl (y_assign rfl) ?_
        refine g_val rfl rfl rfl (y_assign rfl) ?_
        refine g_nil (g_then (g_ret ?_))
        refine g_end2 Tryd.results19 rfl rfl ?_
        exact fun w hS => ⟨ret_up (by first | (rw [← hR, upR, if_neg (by simp_all)]; done) | (have he := (by first | exact up_end stop s j (by omega) | exact up_no stop s j (by omega) (by omega) (by rw [← Bool.not_eq_false, ← hst2]; omega)); rw [he, List.append_nil] at hd; have hl := btw_len s i j (by omega) (by omega) (by omega); rw [← hR, upR, if_pos ⟨by omega, by omega⟩, hd]; rw [show i + ((btw s i j).length : Int) = j by omega]; rfl)), hS.below⟩
    · skip
      refine g_not rfl rfl rfl ?_
      refine g_not rfl rfl rfl ?_
      refine g_not rfl rfl rfl ?_
      refine g_not rfl rfl rfl ?_
      refine g_not rfl rfl rfl ?_
      refine g_not rfl rfl rfl ?_
      refine g_val rfl rfl rfl (y_pick_f rfl rfl) ?_
      refine g_nil (g_then (g_cond_f rfl (g_exit (g_then_exit (g_then_exit (g_in_exit (g_then (g_seq (g_ops ?_)))))))))
      refine g_val rfl rfl rfl (y_move rfl) ?_
      refine g_val rfl rfl rfl (y_move rfl) ?_
      refine g_val rfl rfl rfl (y_move rfl) ?_
      refine g_val rfl rfl rfl (y_ssl rfl rfl rfl Tryd.underlying9 (by omega) (by omega) (by first | omega | (simp only [size_mk, List.length_cons, List.length_nil]; omega))) ?_
      refine g_call1 rfl rfl rfl Tryd.call26 (fun w hS => trim_any _ (by rw [ByteArray.size_extract]; omega) w) ?_
      refine g_val rfl rfl rfl (y_move rfl) ?_
      refine g_val rfl rfl rfl (y_assign rfl) ?_
      refine g_val rfl rfl rfl (y_assign rfl) ?_
      refine g_nil (g_then (g_ret ?_))
      refine g_end2 Tryd.results19 rfl rfl ?_
      exact fun w hS => ⟨ret_up (by first | (rw [← hR, upR, if_neg (by simp_all)]; done) | (have he := (by first | exact up_end stop s j (by omega) | exact up_no stop s j (by omega) (by omega) (by rw [← Bool.not_eq_false, ← hst2]; omega)); rw [he, List.append_nil] at hd; have hl := btw_len s i j (by omega) (by omega) (by omega); rw [← hR, upR, if_pos ⟨by omega, by omega⟩, hd]; rw [show i + ((btw s i j).length : Int) = j by omega]; rfl)), hS.below⟩

theorem stop_word (c : UInt8) : 0 ≤ Lib.indexByte (⟨#[10, 59]⟩ : ByteArray).data.toList c ↔ (fun c : UInt8 => c == 10 || c == 59) c = true := by
  simp only [Lib.indexByte]
  by_cases h1 : (10 : UInt8) = c
  · simp [← h1]
  · by_cases h2 : (59 : UInt8) = c
    · simp [← h2]
    · have e1 : ((10 : UInt8) == c) = false := by simpa using h1
      have e2 : ((59 : UInt8) == c) = false := by simpa using h2
      simp [e1, e2]
      exact ⟨fun q => h1 q.symm, fun q => h2 q.symm⟩
theorem stop_rest (c : UInt8) : 0 ≤ Lib.indexByte (⟨#[10]⟩ : ByteArray).data.toList c ↔ (fun c : UInt8 => c == 10 || c == 10) c = true := by
  simp only [Lib.indexByte]
  by_cases h1 : (10 : UInt8) = c
  · simp [← h1]
  · have e1 : ((10 : UInt8) == c) = false := by simpa using h1
    simp [e1]
    exact fun q => h1 q.symm
abbrev wordS : UInt8 → Bool := fun c => c == 10 || c == 59
abbrev restS : UInt8 → Bool := fun c => c == 10 || c == 10

theorem word_any (s : ByteArray) (i : Int) (R0 : ByteArray × Int) (hs : s.size ≤ 1073741824) (hR : upR wordS s i = R0) (w : World) :
    Calls Tryd.prog 7 #[.string s, .int .i64 i] w fun e w' => e = .returned (upV R0) ∧ Below w.heap.size w w' := by
  refine fn_intro Tryd.func7 rfl Tryd.ntmps7 rfl rfl ?_
  refine g_seq (g_ops ?_)
  refine g_val rfl rfl rfl (y_assign rfl) ?_
  refine g_val rfl rfl rfl (y_assign rfl) ?_
  refine g_nil (g_then (g_seq (g_ops ?_)))
  refine g_val rfl rfl rfl (y_move rfl) ?_
  refine g_val rfl rfl rfl (y_move rfl) ?_
  refine g_call1 rfl rfl rfl Tryd.call19 (fun w hS => upTo_any _ _ _ wordS stop_word R0 (by omega) hR w) ?_
  refine g_val rfl rfl rfl (y_extract rfl rfl) ?_
  refine g_val rfl rfl rfl (y_extract rfl rfl) ?_
  refine g_val rfl rfl rfl (y_assign rfl) ?_
  refine g_val rfl rfl rfl (y_assign rfl) ?_
  refine g_nil (g_then (g_ret ?_))
  refine g_end2 Tryd.results7 rfl rfl ?_
  exact fun w hS => ⟨rfl, hS.below⟩

theorem rest_any (s : ByteArray) (i : Int) (R0 : ByteArray × Int) (hs : s.size ≤ 1073741824) (hR : upR restS s i = R0) (w : World) :
    Calls Tryd.prog 8 #[.string s, .int .i64 i] w fun e w' => e = .returned (upV R0) ∧ Below w.heap.size w w' := by
  refine fn_intro Tryd.func8 rfl Tryd.ntmps8 rfl rfl ?_
  refine g_seq (g_ops ?_)
  refine g_val rfl rfl rfl (y_assign rfl) ?_
  refine g_val rfl rfl rfl (y_assign rfl) ?_
  refine g_nil (g_then (g_seq (g_ops ?_)))
  refine g_val rfl rfl rfl (y_move rfl) ?_
  refine g_val rfl rfl rfl (y_move rfl) ?_
  refine g_call1 rfl rfl rfl Tryd.call19 (fun w hS => upTo_any _ _ _ restS stop_rest R0 (by omega) hR w) ?_
  refine g_val rfl rfl rfl (y_extract rfl rfl) ?_
  refine g_val rfl rfl rfl (y_extract rfl rfl) ?_
  refine g_val rfl rfl rfl (y_assign rfl) ?_
  refine g_val rfl rfl rfl (y_assign rfl) ?_
  refine g_nil (g_then (g_ret ?_))
  refine g_end2 Tryd.results8 rfl rfl ?_
  exact fun w hS => ⟨rfl, hS.below⟩

theorem rblanks_any (s : ByteArray) (i : Int) (R0 : Int) (hs : s.size ≤ 1073741824) (hR : blkR s i = R0) (w : World) :
    Calls Tryd.prog 17 #[.string s, .int .i64 i] w fun e w' => e = .returned (.int .i64 R0) ∧ Below w.heap.size w w' := by
  refine fn_intro Tryd.func17 rfl Tryd.ntmps17 rfl rfl ?_
  refine g_seq (g_ops ?_)
  refine g_val rfl rfl rfl (y_assign rfl) ?_
  refine g_nil (g_then (g_seq (g_ops ?_)))
  refine g_val rfl rfl rfl (y_move rfl) ?_
  refine g_val rfl rfl rfl (y_move rfl) ?_
  refine g_call1 rfl rfl rfl Tryd.call23 (fun w hS => rplace_any _ _ w) ?_
  refine g_val rfl rfl rfl (y_assign rfl) ?_
  refine g_nil (g_then (g_seq (g_block ?_)))
  refine g_loop (α := {x : Int // ((0 ≤ i ∧ i ≤ s.size) ∧ 0 ≤ x ∧ x ≤ s.size ∧ x + (blkL (from_ s x) : Int) = R0) ∨ (¬ (0 ≤ i ∧ i ≤ s.size) ∧ x = R0)}) (fun x => [(0, .string s), (1, .int .i64 x.1), (5, .bool (decide (0 ≤ i ∧ i ≤ s.size)))]) (fun x => St w [] []) (fun x => s.size - x.1.toNat) ⟨i, by unfold blkR at hR; split at hR <;> omega⟩ [0, 1, 5] rfl (fun w h => h.sub .slnil) ?_
  rintro ⟨j, hx⟩
  dsimp only
  refine g_seq (g_seq (g_ops ?_))
  refine g_val rfl rfl rfl (y_move rfl) ?_
  refine g_val rfl rfl rfl (y_move rfl) ?_
  first | refine g_casep 10 rfl (fun h1 => ?_) (fun h1 => ?_) | refine g_caseb 10 rfl (fun h1 => ?_) (fun h1 => ?_)
  · skip
    refine g_val rfl rfl rfl (y_move rfl) ?_
    refine g_val rfl rfl rfl (y_move rfl) ?_
    refine g_val rfl rfl rfl (y_slen rfl Tryd.underlying9) ?_
    refine g_val rfl rfl rfl (y_ilt rfl rfl) ?_
    refine g_val rfl rfl rfl (y_pick_t rfl rfl) ?_
    refine g_val rfl rfl rfl (y_move rfl) ?_
    first | refine g_casep 16 rfl (fun h2 => ?_) (fun h2 => ?_) | refine g_caseb 16 rfl (fun h2 => ?_) (fun h2 => ?_)
    · skip
      refine g_val rfl rfl rfl (y_move rfl) ?_
      refine g_val rfl rfl rfl (y_move rfl) ?_
      refine g_val rfl rfl rfl (y_sat rfl rfl Tryd.underlying9 (by omega) (by omega)) ?_
      refine g_val rfl rfl rfl (y_ieq rfl rfl) ?_
      refine g_val rfl rfl rfl (y_move rfl) ?_
      first | refine g_casep 21 rfl (fun h3 => ?_) (fun h3 => ?_) | refine g_caseb 21 rfl (fun h3 => ?_) (fun h3 => ?_)
      · skip
        refine g_not rfl rfl rfl ?_
        refine g_not rfl rfl rfl ?_
        refine g_not rfl rfl rfl ?_
        refine g_not rfl rfl rfl ?_
        refine g_val rfl rfl rfl (y_pick_t rfl rfl) ?_
        refine g_val rfl rfl rfl (y_pick_t rfl rfl) ?_
        refine g_nil (g_then (g_cond_t rfl (g_skip (g_then (g_block (g_ops ?_))))))
        refine g_val rfl rfl rfl (y_move rfl) ?_
        refine g_val rfl rfl rfl (by first | exact y_addi rfl rfl (by first | omega | (simp only [size_mk, ByteArray.size_append, ByteArray.size_extract]; omega)) | exact y_iadd rfl rfl) ?_
        refine g_val rfl rfl rfl (y_assign rfl) ?_
        refine g_nil (g_in_normal ?_)
        exact g_again ⟨j + 1, .inl ⟨by omega, by omega, by omega, (blk_step s j (by omega) (by omega) (by rw [← bt_32, ← bt_9]; omega)).symm.trans (by omega)⟩⟩ [0, 1, 5] (by dsimp only; omega) rfl (fun w h => h.sub .slnil)
      · skip
        refine g_val rfl rfl rfl (y_move rfl) ?_
        refine g_val rfl rfl rfl (y_move rfl) ?_
        refine g_val rfl rfl rfl (y_sat rfl rfl Tryd.underlying9 (by omega) (by omega)) ?_
        refine g_val rfl rfl rfl (y_ieq rfl rfl) ?_
        refine g_val rfl rfl rfl (y_pick_f rfl rfl) ?_
        refine g_val rfl rfl rfl (y_pick_t rfl rfl) ?_
        refine g_nil (g_then ?_)
        first | refine g_casep 27 rfl (fun h4 => ?_) (fun h4 => ?_) | refine g_caseb 27 rfl (fun h4 => ?_) (fun h4 => ?_)
        · skip
          refine g_cond_t rfl (g_skip (g_then (g_block (g_ops ?_))))
          refine g_val rfl rfl rfl (y_move rfl) ?_
          refine g_val rfl rfl rfl (by first | exact y_addi rfl rfl (by first | omega | (simp only [size_mk, ByteArray.size_append, ByteArray.size_extract]; omega)) | exact y_iadd rfl rfl) ?_
          refine g_val rfl rfl rfl (y_assign rfl) ?_
          refine g_nil (g_in_normal ?_)
          exact g_again ⟨j + 1, .inl ⟨by omega, by omega, by omega, (blk_step s j (by omega) (by omega) (by rw [← bt_32, ← bt_9]; omega)).symm.trans (by omega)⟩⟩ [0, 1, 5] (by dsimp only; omega) rfl (fun w h => h.sub .slnil)
        · skip
          refine g_cond_f rfl (g_exit (g_then_exit (g_then_exit (g_in_exit (g_then (g_seq (g_ops ?_)))))))
          refine g_val rfl rfl rfl (y_move rfl) ?_
          refine g_val rfl rfl rfl (y_assign rfl) ?_
          refine g_nil (g_then (g_ret ?_))
          refine g_end1 Tryd.results17 rfl ?_
          exact fun w hS => ⟨ret_int (by first | omega | exact (blk_end s j (by omega)).symm.trans (by omega) | exact (blk_stop s j (by omega) (by omega) (by rw [← bt_32, ← bt_9]; omega)).symm.trans (by omega)), hS.below⟩
    · skip
      refine g_not rfl rfl rfl ?_
      refine g_not rfl rfl rfl ?_
      refine g_not rfl rfl rfl ?_
      refine g_not rfl rfl rfl ?_
      refine g_not rfl rfl rfl ?_
      refine g_not rfl rfl rfl ?_
      refine g_not rfl rfl rfl ?_
      refine g_not rfl rfl rfl ?_
      refine g_not rfl rfl rfl ?_
      refine g_not rfl rfl rfl ?_
      refine g_val rfl rfl rfl (y_pick_f rfl rfl) ?_
      refine g_nil (g_then (g_cond_f rfl (g_exit (g_then_exit (g_then_exit (g_in_exit (g_then (g_seq (g_ops ?_)))))))))
      refine g_val rfl rfl rfl (y_move rfl) ?_
      refine g_val rfl rfl rfl (y_assign rfl) ?_
      refine g_nil (g_then (g_ret ?_))
      refine g_end1 Tryd.results17 rfl ?_
      exact fun w hS => ⟨ret_int (by first | omega | exact (blk_end s j (by omega)).symm.trans (by omega) | exact (blk_stop s j (by omega) (by omega) (by rw [← bt_32, ← bt_9]; omega)).symm.trans (by omega)), hS.below⟩
  · skip
    refine g_not rfl rfl rfl ?_
    refine g_not rfl rfl rfl ?_
    refine g_not rfl rfl rfl ?_
    refine g_not rfl rfl rfl ?_
    refine g_val rfl rfl rfl (y_pick_f rfl rfl) ?_
    refine g_val rfl rfl rfl (y_move rfl) ?_
    refine g_not rfl rfl rfl ?_
    refine g_not rfl rfl rfl ?_
    refine g_not rfl rfl rfl ?_
    refine g_not rfl rfl rfl ?_
    refine g_not rfl rfl rfl ?_
    refine g_not rfl rfl rfl ?_
    refine g_not rfl rfl rfl ?_
    refine g_not rfl rfl rfl ?_
    refine g_not rfl rfl rfl ?_
    refine g_not rfl rfl rfl ?_
    refine g_val rfl rfl rfl (y_pick_f rfl rfl) ?_
    refine g_nil (g_then (g_cond_f rfl (g_exit (g_then_exit (g_then_exit (g_in_exit (g_then (g_seq (g_ops ?_)))))))))
    refine g_val rfl rfl rfl (y_move rfl) ?_
    refine g_val rfl rfl rfl (y_assign rfl) ?_
    refine g_nil (g_then (g_ret ?_))
    refine g_end1 Tryd.results17 rfl ?_
    exact fun w hS => ⟨ret_int (by first | omega | exact (blk_end s j (by omega)).symm.trans (by omega) | exact (blk_stop s j (by omega) (by omega) (by rw [← bt_32, ← bt_9]; omega)).symm.trans (by omega)), hS.below⟩

theorem rnum_step (s : ByteArray) (i j n n' : Int) (ds : List UInt8) (hok : 0 ≤ i ∧ i ≤ s.size) (h0 : i ≤ j) (h1 : j < s.size) (hn0 : 0 ≤ n) (hn9 : n ≤ 999999999) (hd : digL (from_ s i) = ds ++ digL (from_ s j)) (hj : j = i + ds.length) (hb : 48 ≤ bt s j ∧ bt s j ≤ 57) (hv : ds.length ≤ 9 → n = valL ds)
    (hn' : (j - i < 9 ∧ n' = 10 * n + (bt s j - 48)) ∨ (¬ j - i < 9 ∧ n' = n)) :
    0 ≤ n' ∧ n' ≤ 999999999 ∧ (((0 ≤ i ∧ i ≤ s.size) ∧ j + 1 ≤ s.size ∧ digL (from_ s i) = (ds ++ [by8 s j]) ++ digL (from_ s (j + 1)) ∧ j + 1 = i + (ds ++ [by8 s j]).length ∧ ((ds ++ [by8 s j]).length ≤ 9 → n' = valL (ds ++ [by8 s j]))) ∨ (¬ (0 ≤ i ∧ i ≤ s.size) ∧ j + 1 = i)) := by
  have e : digL (from_ s i) = (ds ++ [by8 s j]) ++ digL (from_ s (j + 1)) := by rw [hd, dig_at s j (by omega) (by omega) hb.1 hb.2]; simp
  have hval : (ds ++ [by8 s j]).length ≤ 9 → n' = valL (ds ++ [by8 s j]) := by
    intro h9
    rw [List.length_append, List.length_singleton] at h9
    rw [valL_snoc, ← hv (by omega)]
    rcases hn' with h | h
    · exact h.2
    · omega
  have hbd : 0 ≤ n' ∧ n' ≤ 999999999 := by
    rcases hn' with h | h
    · have h9 : (ds ++ [by8 s j]).length ≤ 9 := by rw [List.length_append, List.length_singleton]; omega
      rw [hval h9]
      exact valL_9 _ (fun c hc => digL_all (from_ s i) c (by rw [e]; exact List.mem_append_left _ hc)) h9
    · omega
  refine ⟨hbd.1, hbd.2, .inl ⟨hok, by omega, e, ?_, hval⟩⟩
  rw [List.length_append, List.length_singleton]; omega

theorem rnum_none (s : ByteArray) (i j : Int) (ds : List UInt8) (hd : digL (from_ s i) = ds ++ digL (from_ s j)) (he : digL (from_ s j) = []) (hj : j = i + ds.length) (h : j = i ∨ 9 < j - i) : numR s i = (0, i, false) := by
  rw [he, List.append_nil] at hd
  rw [numR, if_neg]; rw [hd]; omega
theorem rnum_some (s : ByteArray) (i j n : Int) (ds : List UInt8) (hok : 0 ≤ i ∧ i ≤ s.size) (hd : digL (from_ s i) = ds ++ digL (from_ s j)) (he : digL (from_ s j) = []) (hj : j = i + ds.length) (hv : ds.length ≤ 9 → n = valL ds) (h : ¬ j = i) (h9 : ¬ 9 < j - i) : numR s i = (n, j, true) := by
  rw [he, List.append_nil] at hd
  rw [numR, hd, if_pos ⟨hok.1, hok.2, by omega, by omega⟩, hv (by omega), hj]

theorem rnumber_any (s : ByteArray) (i : Int) (R0 : Int × Int × Bool) (hs : s.size ≤ 1073741824) (hR : numR s i = R0) (w : World) :
    Calls Tryd.prog 12 #[.string s, .int .i64 i] w fun e w' => e = .returned (numV R0) ∧ Below w.heap.size w w' := by
  refine fn_intro Tryd.func12 rfl Tryd.ntmps12 rfl rfl ?_
  refine g_seq (g_ops ?_)
  refine g_val rfl rfl rfl (y_assign rfl) ?_
  refine g_val rfl rfl rfl (y_assign rfl) ?_
  refine g_val rfl rfl rfl (y_assign rfl) ?_
  refine g_nil (g_then (g_seq (g_ops ?_)))
  refine g_val rfl rfl rfl (y_move rfl) ?_
  refine g_val rfl rfl rfl (y_move rfl) ?_
  refine g_call1 rfl rfl rfl Tryd.call23 (fun w hS => rplace_any _ _ w) ?_
  refine g_val rfl rfl rfl (y_assign rfl) ?_
  refine g_nil (g_then (g_seq (g_ops ?_)))
  refine g_val rfl rfl rfl (y_move rfl) ?_
  refine g_val rfl rfl rfl (y_assign rfl) ?_
  refine g_nil (g_then (g_seq (g_ops ?_)))
  refine g_val rfl rfl rfl (y_assign rfl) ?_
  refine g_nil (g_then (g_seq (g_block ?_)))
  refine g_loop (α := {x : Int × Int × List UInt8 // 0 ≤ x.2.1 ∧ x.2.1 ≤ 999999999 ∧ (((0 ≤ i ∧ i ≤ s.size) ∧ x.1 ≤ s.size ∧ digL (from_ s i) = x.2.2 ++ digL (from_ s x.1) ∧ x.1 = i + x.2.2.length ∧ (x.2.2.length ≤ 9 → x.2.1 = valL x.2.2)) ∨ (¬ (0 ≤ i ∧ i ≤ s.size) ∧ x.1 = i))}) (fun x => [(0, .string s), (1, .int .i64 i), (7, .bool (decide (0 ≤ i ∧ i ≤ s.size))), (8, .int .i64 x.1.1), (9, .int .i64 x.1.2.1)]) (fun x => St w [] []) (fun x => s.size - x.1.1.toNat) ⟨(i, 0, []), by dsimp only; omega, by dsimp only; omega, by dsimp only; by_cases hok : 0 ≤ i ∧ i ≤ s.size; (exact .inl ⟨hok, by omega, rfl, by simp, fun _ => rfl⟩); exact .inr ⟨hok, rfl⟩⟩ [0, 1, 7, 8, 9] rfl (fun w h => h.sub .slnil) ?_
  rintro ⟨⟨j, n, ds⟩, hx⟩
  dsimp only
  dsimp only at hx
  obtain ⟨hn0, hn9, hx⟩ := hx
  refine g_seq (g_seq (g_ops ?_))
  refine g_val rfl rfl rfl (y_move rfl) ?_
  refine g_val rfl rfl rfl (y_move rfl) ?_
  first | refine g_casep 15 rfl (fun h1 => ?_) (fun h1 => ?_) | refine g_caseb 15 rfl (fun h1 => ?_) (fun h1 => ?_)
  · skip
    refine g_val rfl rfl rfl (y_move rfl) ?_
    refine g_val rfl rfl rfl (y_move rfl) ?_
    refine g_val rfl rfl rfl (y_slen rfl Tryd.underlying9) ?_
    refine g_val rfl rfl rfl (y_ilt rfl rfl) ?_
    refine g_val rfl rfl rfl (y_pick_t rfl rfl) ?_
    refine g_val rfl rfl rfl (y_move rfl) ?_
    first | refine g_casep 21 rfl (fun h2 => ?_) (fun h2 => ?_) | refine g_caseb 21 rfl (fun h2 => ?_) (fun h2 => ?_)
    · skip
      refine g_val rfl rfl rfl (y_move rfl) ?_
      refine g_val rfl rfl rfl (y_move rfl) ?_
      refine g_val rfl rfl rfl (y_sat rfl rfl Tryd.underlying9 (by omega) (by omega)) ?_
      refine g_val rfl rfl rfl (y_ige rfl rfl) ?_
      refine g_val rfl rfl rfl (y_pick_t rfl rfl) ?_
      refine g_val rfl rfl rfl (y_move rfl) ?_
      first | refine g_casep 27 rfl (fun h3 => ?_) (fun h3 => ?_) | refine g_caseb 27 rfl (fun h3 => ?_) (fun h3 => ?_)
      · skip
        refine g_val rfl rfl rfl (y_move rfl) ?_
        refine g_val rfl rfl rfl (y_move rfl) ?_
        refine g_val rfl rfl rfl (y_sat rfl rfl Tryd.underlying9 (by omega) (by omega)) ?_
        refine g_val rfl rfl rfl (y_ile rfl rfl) ?_
        refine g_val rfl rfl rfl (y_pick_t rfl rfl) ?_
        refine g_nil (g_then ?_)
        first | refine g_casep 32 rfl (fun h4 => ?_) (fun h4 => ?_) | refine g_caseb 32 rfl (fun h4 => ?_) (fun h4 => ?_)
        · skip
          refine g_cond_t rfl (g_skip (g_then (g_block (g_seq (g_seq (g_ops ?_))))))
          refine g_val rfl rfl rfl (y_move rfl) ?_
          refine g_val rfl rfl rfl (y_move rfl) ?_
          refine g_val rfl rfl rfl (by first | exact y_subi rfl rfl (by first | omega | (simp only [size_mk, ByteArray.size_append, ByteArray.size_extract]; omega)) | exact y_isub rfl rfl) ?_
          refine g_val rfl rfl rfl (y_ilt rfl rfl) ?_
          refine g_nil (g_then ?_)
          first | refine g_casep 36 rfl (fun h5 => ?_) (fun h5 => ?_) | refine g_caseb 36 rfl (fun h5 => ?_) (fun h5 => ?_)
          · skip
            refine g_cond_t rfl (g_ops ?_)
            refine g_val rfl rfl rfl (y_move rfl) ?_
            refine g_val rfl rfl rfl (by first | exact y_muli rfl rfl (by first | omega | (simp only [size_mk, ByteArray.size_append, ByteArray.size_extract]; omega)) | exact y_imul rfl rfl) ?_
            refine g_val rfl rfl rfl (y_move rfl) ?_
            refine g_val rfl rfl rfl (y_move rfl) ?_
            refine g_val rfl rfl rfl (y_sat rfl rfl Tryd.underlying9 (by omega) (by omega)) ?_
            refine g_val rfl rfl rfl (by first | exact y_subu8 rfl rfl (by omega) | exact y_isub rfl rfl) ?_
            refine g_val rfl rfl rfl (by first | exact y_toI64 rfl Tryd.underlying5 Tryd.underlying3 (by omega) | exact y_toInt rfl Tryd.underlying5 Tryd.underlying3) ?_
            refine g_val rfl rfl rfl (by first | exact y_addi rfl rfl (by first | omega | (simp only [size_mk, ByteArray.size_append, ByteArray.size_extract]; omega)) | exact y_iadd rfl rfl) ?_
            refine g_val rfl rfl rfl (y_assign rfl) ?_
            refine g_nil (g_then (g_ops ?_))
            refine g_val rfl rfl rfl (y_move rfl) ?_
            refine g_val rfl rfl rfl (by first | exact y_addi rfl rfl (by first | omega | (simp only [size_mk, ByteArray.size_append, ByteArray.size_extract]; omega)) | exact y_iadd rfl rfl) ?_
            refine g_val rfl rfl rfl (y_assign rfl) ?_
            refine g_nil (g_in_normal ?_)
            exact g_again ⟨(j + 1, _, ds ++ [by8 s j]), rnum_step s i j n _ ds (by omega) (by omega) (by omega) hn0 hn9 (by rcases hx with hx | hx; exact hx.2.2.1; omega) (by omega) (by omega) (by rcases hx with hx | hx; exact hx.2.2.2.2; omega) (by first | exact .inl ⟨by omega, rfl⟩ | exact .inr ⟨by omega, rfl⟩)⟩ [0, 1, 7, 8, 9] (by dsimp only; omega) rfl (fun w h => h.sub .slnil)
          · skip
            refine g_cond_f rfl (g_skip (g_then (g_ops ?_)))
            refine g_val rfl rfl rfl (y_move rfl) ?_
            refine g_val rfl rfl rfl (by first | exact y_addi rfl rfl (by first | omega | (simp only [size_mk, ByteArray.size_append, ByteArray.size_extract]; omega)) | exact y_iadd rfl rfl) ?_
            refine g_val rfl rfl rfl (y_assign rfl) ?_
            refine g_nil (g_in_normal ?_)
            exact g_again ⟨(j + 1, _, ds ++ [by8 s j]), rnum_step s i j n _ ds (by omega) (by omega) (by omega) hn0 hn9 (by rcases hx with hx | hx; exact hx.2.2.1; omega) (by omega) (by omega) (by rcases hx with hx | hx; exact hx.2.2.2.2; omega) (by first | exact .inl ⟨by omega, rfl⟩ | exact .inr ⟨by omega, rfl⟩)⟩ [0, 1, 7, 8, 9] (by dsimp only; omega) rfl (fun w h => h.sub .slnil)
        · skip
          refine g_cond_f rfl (g_exit (g_then_exit (g_then_exit (g_in_exit (g_then (g_seq (g_seq (g_ops ?_))))))))
          refine g_val rfl rfl rfl (y_move rfl) ?_
          refine g_val rfl rfl rfl (y_move rfl) ?_
          refine g_val rfl rfl rfl (y_ieq rfl rfl) ?_
          refine g_val rfl rfl rfl (y_move rfl) ?_
          first | refine g_casep 50 rfl (fun h6 => ?_) (fun h6 => ?_) | refine g_caseb 50 rfl (fun h6 => ?_) (fun h6 => ?_)
          · skip
            refine g_not rfl rfl rfl ?_
            refine g_not rfl rfl rfl ?_
            refine g_not rfl rfl rfl ?_
            refine g_not rfl rfl rfl ?_
            refine g_val rfl rfl rfl (y_pick_t rfl rfl) ?_
            refine g_nil (g_then (g_cond_t rfl (g_seq (g_ops ?_))))
            refine g_val rfl rfl rfl (y_move rfl) ?_
            refine g_val rfl rfl rfl (y_assign rfl) ?_
            refine g_val rfl rfl rfl (y_assign rfl) ?_
            refine g_val rfl rfl rfl (y_assign rfl) ?_
            refine g_nil (g_then (g_ret (g_then_ret ?_)))
            refine g_end3 Tryd.results12 rfl rfl rfl ?_
            exact fun w hS => ⟨ret_num (hR.symm.trans (by rcases hx with ⟨hok, hj1, hd, hj, hv⟩ | ⟨hok, hj⟩; (first | exact rnum_some s i j n ds hok hd (by first | exact dig_end s j (by omega) | exact dig_no s j (by omega) (by omega) (by omega)) hj hv (by omega) (by omega) | exact rnum_none s i j ds hd (by first | exact dig_end s j (by omega) | exact dig_no s j (by omega) (by omega) (by omega)) hj (by omega) | (exfalso; omega)); first | (exfalso; omega) | (rw [numR, if_neg (by omega)]))), hS.below⟩
          · skip
            refine g_val rfl rfl rfl (y_move rfl) ?_
            refine g_val rfl rfl rfl (y_move rfl) ?_
            refine g_val rfl rfl rfl (by first | exact y_subi rfl rfl (by first | omega | (simp only [size_mk, ByteArray.size_append, ByteArray.size_extract]; omega)) | exact y_isub rfl rfl) ?_
            refine g_val rfl rfl rfl (y_igt rfl rfl) ?_
            refine g_val rfl rfl rfl (y_pick_f rfl rfl) ?_
            refine g_nil (g_then ?_)
            first | refine g_casep 55 rfl (fun h7 => ?_) (fun h7 => ?_) | refine g_caseb 55 rfl (fun h7 => ?_) (fun h7 => ?_)
            · skip
              refine g_cond_t rfl (g_seq (g_ops ?_))
              refine g_val rfl rfl rfl (y_move rfl) ?_
              refine g_val rfl rfl rfl (y_assign rfl) ?_
              refine g_val rfl rfl rfl (y_assign rfl) ?_
              refine g_val rfl rfl rfl (y_assign rfl) ?_
              refine g_nil (g_then (g_ret (g_then_ret ?_)))
              refine g_end3 Tryd.results12 rfl rfl rfl ?_
              exact fun w hS => ⟨ret_num (hR.symm.trans (by rcases hx with ⟨hok, hj1, hd, hj, hv⟩ | ⟨hok, hj⟩; (first | exact rnum_some s i j n ds hok hd (by first | exact dig_end s j (by omega) | exact dig_no s j (by omega) (by omega) (by omega)) hj hv (by omega) (by omega) | exact rnum_none s i j ds hd (by first | exact dig_end s j (by omega) | exact dig_no s j (by omega) (by omega) (by omega)) hj (by omega) | (exfalso; omega)); first | (exfalso; omega) | (rw [numR, if_neg (by omega)]))), hS.below⟩
            · skip
              refine g_cond_f rfl (g_skip (g_then (g_seq (g_ops ?_))))
              refine g_val rfl rfl rfl (y_move rfl) ?_
              refine g_val rfl rfl rfl (y_move rfl) ?_
              refine g_val rfl rfl rfl (y_assign rfl) ?_
              refine g_val rfl rfl rfl (y_assign rfl) ?_
              refine g_val rfl rfl rfl (y_assign rfl) ?_
              refine g_nil (g_then (g_ret ?_))
              refine g_end3 Tryd.results12 rfl rfl rfl ?_
              exact fun w hS => ⟨ret_num (hR.symm.trans (by rcases hx with ⟨hok, hj1, hd, hj, hv⟩ | ⟨hok, hj⟩; (first | exact rnum_some s i j n ds hok hd (by first | exact dig_end s j (by omega) | exact dig_no s j (by omega) (by omega) (by omega)) hj hv (by omega) (by omega) | exact rnum_none s i j ds hd (by first | exact dig_end s j (by omega) | exact dig_no s j (by omega) (by omega) (by omega)) hj (by omega) | (exfalso; omega)); first | (exfalso; omega) | (rw [numR, if_neg (by omega)]))), hS.below⟩
      · skip
        refine g_not rfl rfl rfl ?_
        refine g_not rfl rfl rfl ?_
        refine g_not rfl rfl rfl ?_
        refine g_not rfl rfl rfl ?_
        refine g_val rfl rfl rfl (y_pick_f rfl rfl) ?_
        refine g_nil (g_then (g_cond_f rfl (g_exit (g_then_exit (g_then_exit (g_in_exit (g_then (g_seq (g_seq (g_ops ?_))))))))))
        refine g_val rfl rfl rfl (y_move rfl) ?_
        refine g_val rfl rfl rfl (y_move rfl) ?_
        refine g_val rfl rfl rfl (y_ieq rfl rfl) ?_
        refine g_val rfl rfl rfl (y_move rfl) ?_
        first | refine g_casep 50 rfl (fun h8 => ?_) (fun h8 => ?_) | refine g_caseb 50 rfl (fun h8 => ?_) (fun h8 => ?_)
        · skip
          refine g_not rfl rfl rfl ?_
          refine g_not rfl rfl rfl ?_
          refine g_not rfl rfl rfl ?_
          refine g_not rfl rfl rfl ?_
          refine g_val rfl rfl rfl (y_pick_t rfl rfl) ?_
          refine g_nil (g_then (g_cond_t rfl (g_seq (g_ops ?_))))
          refine g_val rfl rfl rfl (y_move rfl) ?_
          refine g_val rfl rfl rfl (y_assign rfl) ?_
          refine g_val rfl rfl rfl (y_assign rfl) ?_
          refine g_val rfl rfl rfl (y_assign rfl) ?_
          refine g_nil (g_then (g_ret (g_then_ret ?_)))
          refine g_end3 Tryd.results12 rfl rfl rfl ?_
          exact fun w hS => ⟨ret_num (hR.symm.trans (by rcases hx with ⟨hok, hj1, hd, hj, hv⟩ | ⟨hok, hj⟩; (first | exact rnum_some s i j n ds hok hd (by first | exact dig_end s j (by omega) | exact dig_no s j (by omega) (by omega) (by omega)) hj hv (by omega) (by omega) | exact rnum_none s i j ds hd (by first | exact dig_end s j (by omega) | exact dig_no s j (by omega) (by omega) (by omega)) hj (by omega) | (exfalso; omega)); first | (exfalso; omega) | (rw [numR, if_neg (by omega)]))), hS.below⟩
        · skip
          refine g_val rfl rfl rfl (y_move rfl) ?_
          refine g_val rfl rfl rfl (y_move rfl) ?_
          refine g_val rfl rfl rfl (by first | exact y_subi rfl rfl (by first | omega | (simp only [size_mk, ByteArray.size_append, ByteArray.size_extract]; omega)) | exact y_isub rfl rfl) ?_
          refine g_val rfl rfl rfl (y_igt rfl rfl) ?_
          refine g_val rfl rfl rfl (y_pick_f rfl rfl) ?_
          refine g_nil (g_then ?_)
          first | refine g_casep 55 rfl (fun h9 => ?_) (fun h9 => ?_) | refine g_caseb 55 rfl (fun h9 => ?_) (fun h9 => ?_)
          · skip
            refine g_cond_t rfl (g_seq (g_ops ?_))
            refine g_val rfl rfl rfl (y_move rfl) ?_
            refine g_val rfl rfl rfl (y_assign rfl) ?_
            refine g_val rfl rfl rfl (y_assign rfl) ?_
            refine g_val rfl rfl rfl (y_assign rfl) ?_
            refine g_nil (g_then (g_ret (g_then_ret ?_)))
            refine g_end3 Tryd.results12 rfl rfl rfl ?_
            exact fun w hS => ⟨ret_num (hR.symm.trans (by rcases hx with ⟨hok, hj1, hd, hj, hv⟩ | ⟨hok, hj⟩; (first | exact rnum_some s i j n ds hok hd (by first | exact dig_end s j (by omega) | exact dig_no s j (by omega) (by omega) (by omega)) hj hv (by omega) (by omega) | exact rnum_none s i j ds hd (by first | exact dig_end s j (by omega) | exact dig_no s j (by omega) (by omega) (by omega)) hj (by omega) | (exfalso; omega)); first | (exfalso; omega) | (rw [numR, if_neg (by omega)]))), hS.below⟩
          · skip
            refine g_cond_f rfl (g_skip (g_then (g_seq (g_ops ?_))))
            refine g_val rfl rfl rfl (y_move rfl) ?_
            refine g_val rfl rfl rfl (y_move rfl) ?_
            refine g_val rfl rfl rfl (y_assign rfl) ?_
            refine g_val rfl rfl rfl (y_assign rfl) ?_
            refine g_val rfl rfl rfl (y_assign rfl) ?_
            refine g_nil (g_then (g_ret ?_))
            refine g_end3 Tryd.results12 rfl rfl rfl ?_
            exact fun w hS => ⟨ret_num (hR.symm.trans (by rcases hx with ⟨hok, hj1, hd, hj, hv⟩ | ⟨hok, hj⟩; (first | exact rnum_some s i j n ds hok hd (by first | exact dig_end s j (by omega) | exact dig_no s j (by omega) (by omega) (by omega)) hj hv (by omega) (by omega) | exact rnum_none s i j ds hd (by first | exact dig_end s j (by omega) | exact dig_no s j (by omega) (by omega) (by omega)) hj (by omega) | (exfalso; omega)); first | (exfalso; omega) | (rw [numR, if_neg (by omega)]))), hS.below⟩
    · skip
      refine g_not rfl rfl rfl ?_
      refine g_not rfl rfl rfl ?_
      refine g_not rfl rfl rfl ?_
      refine g_not rfl rfl rfl ?_
      refine g_val rfl rfl rfl (y_pick_f rfl rfl) ?_
      refine g_val rfl rfl rfl (y_move rfl) ?_
      refine g_not rfl rfl rfl ?_
      refine g_not rfl rfl rfl ?_
      refine g_not rfl rfl rfl ?_
      refine g_not rfl rfl rfl ?_
      refine g_val rfl rfl rfl (y_pick_f rfl rfl) ?_
      refine g_nil (g_then (g_cond_f rfl (g_exit (g_then_exit (g_then_exit (g_in_exit (g_then (g_seq (g_seq (g_ops ?_))))))))))
      refine g_val rfl rfl rfl (y_move rfl) ?_
      refine g_val rfl rfl rfl (y_move rfl) ?_
      refine g_val rfl rfl rfl (y_ieq rfl rfl) ?_
      refine g_val rfl rfl rfl (y_move rfl) ?_
      first | refine g_casep 50 rfl (fun h10 => ?_) (fun h10 => ?_) | refine g_caseb 50 rfl (fun h10 => ?_) (fun h10 => ?_)
      · skip
        refine g_not rfl rfl rfl ?_
        refine g_not rfl rfl rfl ?_
        refine g_not rfl rfl rfl ?_
        refine g_not rfl rfl rfl ?_
        refine g_val rfl rfl rfl (y_pick_t rfl rfl) ?_
        refine g_nil (g_then (g_cond_t rfl (g_seq (g_ops ?_))))
        refine g_val rfl rfl rfl (y_move rfl) ?_
        refine g_val rfl rfl rfl (y_assign rfl) ?_
        refine g_val rfl rfl rfl (y_assign rfl) ?_
        refine g_val rfl rfl rfl (y_assign rfl) ?_
        refine g_nil (g_then (g_ret (g_then_ret ?_)))
        refine g_end3 Tryd.results12 rfl rfl rfl ?_
        exact fun w hS => ⟨ret_num (hR.symm.trans (by rcases hx with ⟨hok, hj1, hd, hj, hv⟩ | ⟨hok, hj⟩; (first | exact rnum_some s i j n ds hok hd (by first | exact dig_end s j (by omega) | exact dig_no s j (by omega) (by omega) (by omega)) hj hv (by omega) (by omega) | exact rnum_none s i j ds hd (by first | exact dig_end s j (by omega) | exact dig_no s j (by omega) (by omega) (by omega)) hj (by omega) | (exfalso; omega)); first | (exfalso; omega) | (rw [numR, if_neg (by omega)]))), hS.below⟩
      · skip
        refine g_val rfl rfl rfl (y_move rfl) ?_
        refine g_val rfl rfl rfl (y_move rfl) ?_
        refine g_val rfl rfl rfl (by first | exact y_subi rfl rfl (by first | omega | (simp only [size_mk, ByteArray.size_append, ByteArray.size_extract]; omega)) | exact y_isub rfl rfl) ?_
        refine g_val rfl rfl rfl (y_igt rfl rfl) ?_
        refine g_val rfl rfl rfl (y_pick_f rfl rfl) ?_
        refine g_nil (g_then ?_)
        first | refine g_casep 55 rfl (fun h11 => ?_) (fun h11 => ?_) | refine g_caseb 55 rfl (fun h11 => ?_) (fun h11 => ?_)
        · skip
          refine g_cond_t rfl (g_seq (g_ops ?_))
          refine g_val rfl rfl rfl (y_move rfl) ?_
          refine g_val rfl rfl rfl (y_assign rfl) ?_
          refine g_val rfl rfl rfl (y_assign rfl) ?_
          refine g_val rfl rfl rfl (y_assign rfl) ?_
          refine g_nil (g_then (g_ret (g_then_ret ?_)))
          refine g_end3 Tryd.results12 rfl rfl rfl ?_
          exact fun w hS => ⟨ret_num (hR.symm.trans (by rcases hx with ⟨hok, hj1, hd, hj, hv⟩ | ⟨hok, hj⟩; (first | exact rnum_some s i j n ds hok hd (by first | exact dig_end s j (by omega) | exact dig_no s j (by omega) (by omega) (by omega)) hj hv (by omega) (by omega) | exact rnum_none s i j ds hd (by first | exact dig_end s j (by omega) | exact dig_no s j (by omega) (by omega) (by omega)) hj (by omega) | (exfalso; omega)); first | (exfalso; omega) | (rw [numR, if_neg (by omega)]))), hS.below⟩
        · skip
          refine g_cond_f rfl (g_skip (g_then (g_seq (g_ops ?_))))
          refine g_val rfl rfl rfl (y_move rfl) ?_
          refine g_val rfl rfl rfl (y_move rfl) ?_
          refine g_val rfl rfl rfl (y_assign rfl) ?_
          refine g_val rfl rfl rfl (y_assign rfl) ?_
          refine g_val rfl rfl rfl (y_assign rfl) ?_
          refine g_nil (g_then (g_ret ?_))
          refine g_end3 Tryd.results12 rfl rfl rfl ?_
          exact fun w hS => ⟨ret_num (hR.symm.trans (by rcases hx with ⟨hok, hj1, hd, hj, hv⟩ | ⟨hok, hj⟩; (first | exact rnum_some s i j n ds hok hd (by first | exact dig_end s j (by omega) | exact dig_no s j (by omega) (by omega) (by omega)) hj hv (by omega) (by omega) | exact rnum_none s i j ds hd (by first | exact dig_end s j (by omega) | exact dig_no s j (by omega) (by omega) (by omega)) hj (by omega) | (exfalso; omega)); first | (exfalso; omega) | (rw [numR, if_neg (by omega)]))), hS.below⟩
  · skip
    refine g_not rfl rfl rfl ?_
    refine g_not rfl rfl rfl ?_
    refine g_not rfl rfl rfl ?_
    refine g_not rfl rfl rfl ?_
    refine g_val rfl rfl rfl (y_pick_f rfl rfl) ?_
    refine g_val rfl rfl rfl (y_move rfl) ?_
    refine g_not rfl rfl rfl ?_
    refine g_not rfl rfl rfl ?_
    refine g_not rfl rfl rfl ?_
    refine g_not rfl rfl rfl ?_
    refine g_val rfl rfl rfl (y_pick_f rfl rfl) ?_
    refine g_val rfl rfl rfl (y_move rfl) ?_
    refine g_not rfl rfl rfl ?_
    refine g_not rfl rfl rfl ?_
    refine g_not rfl rfl rfl ?_
    refine g_not rfl rfl rfl ?_
    refine g_val rfl rfl rfl (y_pick_f rfl rfl) ?_
    refine g_nil (g_then (g_cond_f rfl (g_exit (g_then_exit (g_then_exit (g_in_exit (g_then (g_seq (g_seq (g_ops ?_))))))))))
    refine g_val rfl rfl rfl (y_move rfl) ?_
    refine g_val rfl rfl rfl (y_move rfl) ?_
    refine g_val rfl rfl rfl (y_ieq rfl rfl) ?_
    refine g_val rfl rfl rfl (y_move rfl) ?_
    first | refine g_casep 50 rfl (fun h12 => ?_) (fun h12 => ?_) | refine g_caseb 50 rfl (fun h12 => ?_) (fun h12 => ?_)
    · skip
      refine g_not rfl rfl rfl ?_
      refine g_not rfl rfl rfl ?_
      refine g_not rfl rfl rfl ?_
      refine g_not rfl rfl rfl ?_
      refine g_val rfl rfl rfl (y_pick_t rfl rfl) ?_
      refine g_nil (g_then (g_cond_t rfl (g_seq (g_ops ?_))))
      refine g_val rfl rfl rfl (y_move rfl) ?_
      refine g_val rfl rfl rfl (y_assign rfl) ?_
      refine g_val rfl rfl rfl (y_assign rfl) ?_
      refine g_val rfl rfl rfl (y_assign rfl) ?_
      refine g_nil (g_then (g_ret (g_then_ret ?_)))
      refine g_end3 Tryd.results12 rfl rfl rfl ?_
      exact fun w hS => ⟨ret_num (hR.symm.trans (by rcases hx with ⟨hok, hj1, hd, hj, hv⟩ | ⟨hok, hj⟩; (first | exact rnum_some s i j n ds hok hd (by first | exact dig_end s j (by omega) | exact dig_no s j (by omega) (by omega) (by omega)) hj hv (by omega) (by omega) | exact rnum_none s i j ds hd (by first | exact dig_end s j (by omega) | exact dig_no s j (by omega) (by omega) (by omega)) hj (by omega) | (exfalso; omega)); first | (exfalso; omega) | (rw [numR, if_neg (by omega)]))), hS.below⟩
    · skip
      refine g_val rfl rfl rfl (y_move rfl) ?_
      refine g_val rfl rfl rfl (y_move rfl) ?_
      refine g_val rfl rfl rfl (by first | exact y_subi rfl rfl (by first | omega | (simp only [size_mk, ByteArray.size_append, ByteArray.size_extract]; omega)) | exact y_isub rfl rfl) ?_
      refine g_val rfl rfl rfl (y_igt rfl rfl) ?_
      refine g_val rfl rfl rfl (y_pick_f rfl rfl) ?_
      refine g_nil (g_then ?_)
      first | refine g_casep 55 rfl (fun h13 => ?_) (fun h13 => ?_) | refine g_caseb 55 rfl (fun h13 => ?_) (fun h13 => ?_)
      · skip
        refine g_cond_t rfl (g_seq (g_ops ?_))
        refine g_val rfl rfl rfl (y_move rfl) ?_
        refine g_val rfl rfl rfl (y_assign rfl) ?_
        refine g_val rfl rfl rfl (y_assign rfl) ?_
        refine g_val rfl rfl rfl (y_assign rfl) ?_
        refine g_nil (g_then (g_ret (g_then_ret ?_)))
        refine g_end3 Tryd.results12 rfl rfl rfl ?_
        exact fun w hS => ⟨ret_num (hR.symm.trans (by rcases hx with ⟨hok, hj1, hd, hj, hv⟩ | ⟨hok, hj⟩; (first | exact rnum_some s i j n ds hok hd (by first | exact dig_end s j (by omega) | exact dig_no s j (by omega) (by omega) (by omega)) hj hv (by omega) (by omega) | exact rnum_none s i j ds hd (by first | exact dig_end s j (by omega) | exact dig_no s j (by omega) (by omega) (by omega)) hj (by omega) | (exfalso; omega)); first | (exfalso; omega) | (rw [numR, if_neg (by omega)]))), hS.below⟩
      · skip
        refine g_cond_f rfl (g_skip (g_then (g_seq (g_ops ?_))))
        refine g_val rfl rfl rfl (y_move rfl) ?_
        refine g_val rfl rfl rfl (y_move rfl) ?_
        refine g_val rfl rfl rfl (y_assign rfl) ?_
        refine g_val rfl rfl rfl (y_assign rfl) ?_
        refine g_val rfl rfl rfl (y_assign rfl) ?_
        refine g_nil (g_then (g_ret ?_))
        refine g_end3 Tryd.results12 rfl rfl rfl ?_
        exact fun w hS => ⟨ret_num (hR.symm.trans (by rcases hx with ⟨hok, hj1, hd, hj, hv⟩ | ⟨hok, hj⟩; (first | exact rnum_some s i j n ds hok hd (by first | exact dig_end s j (by omega) | exact dig_no s j (by omega) (by omega) (by omega)) hj hv (by omega) (by omega) | exact rnum_none s i j ds hd (by first | exact dig_end s j (by omega) | exact dig_no s j (by omega) (by omega) (by omega)) hj (by omega) | (exfalso; omega)); first | (exfalso; omega) | (rw [numR, if_neg (by omega)]))), hS.below⟩

end Go.Proofs.YtjafkmaolpkbnaaDoor
