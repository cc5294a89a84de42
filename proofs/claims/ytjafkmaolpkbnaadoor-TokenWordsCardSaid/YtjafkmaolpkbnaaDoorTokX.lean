/- On and on: each place lies on. -/
import Derived.Test.YtjafkmaolpkbnaaDoorTokW
namespace Go.Proofs.YtjafkmaolpkbnaaDoor
open Go Go.RowKit

theorem from_get (s : ByteArray) (i j : Int) (h0 : 0 ≤ i) (h : i ≤ j) (h1 : j < s.size) : (from_ s i)[j.toNat - i.toNat]? = some (by8 s j) := by
  have h3 := from_at s j (by omega) h1
  unfold from_ at h3 ⊢
  rw [List.getElem?_drop, show i.toNat + (j.toNat - i.toNat) = j.toNat by omega]
  have h4 := congrArg (fun l => l[0]?) h3
  simp only [List.getElem?_drop, Nat.add_zero, List.getElem?_cons_zero] at h4
  exact h4
theorem tw_get (p : UInt8 → Bool) (m : List UInt8) : ∀ (k : Nat) (c : UInt8), k < (m.takeWhile p).length → m[k]? = some c → p c = true := by
  induction m with
  | nil => intro k c h; simp at h
  | cons d m ih =>
    intro k c h hc
    rw [List.takeWhile_cons] at h
    by_cases hd : p d = true
    · rw [if_pos hd] at h
      cases k with
      | zero => simp at hc; rw [← hc]; exact hd
      | succ k => exact ih k c (by simpa using h) (by simpa using hc)
    · rw [if_neg hd] at h; simp at h
theorem tw_le (p : UInt8 → Bool) (m : List UInt8) : (m.takeWhile p).length ≤ m.length := (List.takeWhile_sublist p).length_le
theorem tw_next (p : UInt8 → Bool) (m : List UInt8) : ∀ c, m[(m.takeWhile p).length]? = some c → p c = false := by
  induction m with
  | nil => intro c h; simp at h
  | cons d m ih =>
    intro c h
    rw [List.takeWhile_cons] at h
    by_cases hd : p d = true
    · rw [if_pos hd, List.length_cons, List.getElem?_cons_succ] at h; exact ih c h
    · rw [if_neg hd] at h; simp at h; rw [← h]; simpa using hd
theorem num_facts (s : ByteArray) (i n k : Int) (ok : Bool) (h : 0 ≤ i ∧ i ≤ s.size) (hr : (n, k, ok) = numR s i) : i ≤ k ∧ k ≤ s.size ∧ ok = decide (i < k) ∧ 0 ≤ n ∧ n ≤ 999999999 ∧ ∀ j, i ≤ j → j < k → 48 ≤ bt s j ∧ bt s j ≤ 57 := by
  unfold numR at hr
  have hl := from_len s i h.1 h.2
  have ht := tw_le isD (from_ s i)
  split at hr
  · rename_i hc
    simp only [Prod.mk.injEq] at hr
    obtain ⟨r1, r2, r3⟩ := hr
    have hv := valL_9 _ (digL_all (from_ s i)) hc.2.2.2
    unfold digL at *
    refine ⟨by omega, by omega, ?_, by omega, by omega, fun j hj hk => ?_⟩
    · rw [r3]; simp; omega
    · have := tw_get isD (from_ s i) (j.toNat - i.toNat) (by8 s j) (by omega) (from_get s i j h.1 hj (by omega))
      unfold isD at this
      unfold bt
      simp at this; omega
  · simp only [Prod.mk.injEq] at hr
    obtain ⟨r1, r2, r3⟩ := hr
    refine ⟨by omega, by omega, ?_, by omega, by omega, fun j hj hk => by omega⟩
    rw [r3]; simp; omega
theorem up_facts (stop : UInt8 → Bool) (s : ByteArray) (i k : Int) (x : ByteArray) (h : 0 ≤ i ∧ i ≤ s.size) (hr : (x, k) = upR stop s i) : i ≤ k ∧ k ≤ s.size ∧ (k < s.size → stop (by8 s k) = true) ∧ k = i + ((from_ s i).takeWhile fun c => !stop c).length := by
  unfold upR at hr
  rw [if_pos h] at hr
  simp only [Prod.mk.injEq] at hr
  obtain ⟨r1, r2⟩ := hr
  have hl := from_len s i h.1 h.2
  have ht := tw_le (fun c => !stop c) (from_ s i)
  unfold upL at r2
  refine ⟨by omega, by omega, fun hk => ?_, r2⟩
  have := tw_next (fun c => !stop c) (from_ s i) (by8 s k) (by
    have := from_get s i k h.1 (by omega) hk
    rwa [show k.toNat - i.toNat = ((from_ s i).takeWhile fun c => !stop c).length by omega] at this)
  simpa using this
theorem tw_mono (p q : UInt8 → Bool) (hpq : ∀ c, p c = true → q c = true) (m : List UInt8) : (m.takeWhile p).length ≤ (m.takeWhile q).length := by
  induction m with
  | nil => simp
  | cons c m ih =>
    rw [List.takeWhile_cons, List.takeWhile_cons]
    by_cases h : p c = true
    · rw [if_pos h, if_pos (hpq c h)]; simpa using ih
    · rw [if_neg h]; simp
theorem up_le (s : ByteArray) (i k k' : Int) (h1 : k = i + ((from_ s i).takeWhile fun c => !wordS c).length) (h2 : k' = i + ((from_ s i).takeWhile fun c => !restS c).length) : k ≤ k' := by
  have := tw_mono (fun c => !wordS c) (fun c => !restS c) (fun c hc => by
    unfold wordS at hc; unfold restS
    simp at hc ⊢
    exact hc.1) (from_ s i)
  omega
def okL (x : List UInt8) : Prop := (∀ c ∈ x, c ≠ 10) ∧ (∀ c y, x = c :: y → isBl c = false) ∧ (∀ c y, x = y ++ [c] → isBl c = false)
theorem trR_sub (x : List UInt8) : ∀ c ∈ trR x, c ∈ x := by
  induction x with
  | nil => simp [trR]
  | cons d x ih =>
    intro c hc
    unfold trR at hc
    split at hc
    · split at hc
      · simp at hc
      · simp at hc; simp [hc]
    · rcases List.mem_cons.1 hc with rfl | q
      · simp
      · simp [ih c q]
theorem trL_suf (x : List UInt8) : ∃ y, x = y ++ trL x := ⟨x.takeWhile isBl, (List.takeWhile_append_dropWhile).symm⟩
theorem trL_hd (x : List UInt8) : ∀ c y, trL x = c :: y → isBl c = false := by
  induction x with
  | nil => intro c y h; simp [trL] at h
  | cons d x ih =>
    intro c y h
    unfold trL at h ih
    rw [List.dropWhile_cons] at h
    by_cases hd : isBl d = true
    · rw [if_pos hd] at h; exact ih c y h
    · rw [if_neg hd] at h; rw [← (List.cons.inj h).1]; simpa using hd
theorem trR_last (x : List UInt8) : ∀ c y, trR x = y ++ [c] → isBl c = false := by
  induction x with
  | nil => intro c y h; simp [trR] at h
  | cons d x ih =>
    intro c y h
    unfold trR at h
    split at h
    · split at h
      · simp at h
      · rename_i hb
        cases y with
        | nil => simp at h; rw [← h]; simpa using hb
        | cons e y => simp at h
    · rename_i hn
      cases y with
      | nil => simp at h; exact absurd h.2 hn
      | cons e y => rw [List.cons_append] at h; exact ih c y (List.cons.inj h).2
theorem up_ok (stop : UInt8 → Bool) (h10 : stop 10 = true) (s : ByteArray) (i k : Int) (x : ByteArray) (h : 0 ≤ i ∧ i ≤ s.size) (hr : (x, k) = upR stop s i) : okL x.data.toList := by
  unfold upR at hr
  rw [if_pos h] at hr
  simp only [Prod.mk.injEq] at hr
  rw [hr.1, mk_data]
  refine ⟨fun c hc q => ?_, trL_hd _, fun c y hy => ?_⟩
  · obtain ⟨z, hz⟩ := trL_suf (trR (upL stop (from_ s i)))
    have h1 : c ∈ trR (upL stop (from_ s i)) := by rw [hz]; exact List.mem_append_right _ hc
    have h2 := List.all_eq_true.1 (List.all_takeWhile (l := from_ s i) (p := fun c => !stop c)) c (trR_sub _ c h1)
    subst q
    rw [h10] at h2; simp at h2
  · obtain ⟨z, hz⟩ := trL_suf (trR (upL stop (from_ s i)))
    rw [hy, ← List.append_assoc] at hz
    exact trR_last _ c _ hz
theorem ok_at (s : ByteArray) (h : okL s.data.toList) (j : Int) (h0 : 0 ≤ j) (h1 : j < s.size) : bt s j ≠ 10 := by
  intro q
  refine h.1 (by8 s j) ?_ ((bt_10 s j).1 q)
  have := from_at s j h0 h1
  have hm : by8 s j ∈ from_ s j := by rw [this]; simp
  exact List.mem_of_mem_drop hm
theorem ok_hd (s : ByteArray) (h : okL s.data.toList) (h0 : ¬ (s.size : Int) = 0) : ¬ (bt s 0 = 32 ∨ bt s 0 = 9) := by
  have := from_at s 0 (by omega) (by omega)
  rw [from_zero] at this
  have h2 := h.2.1 _ _ this
  rw [bt_32, bt_9, ← isBl_iff, h2]; simp
theorem ok_last (s : ByteArray) (h : okL s.data.toList) (h0 : ¬ (s.size : Int) = 0) : ¬ (bt s ((s.size : Int) - 1) = 32 ∨ bt s ((s.size : Int) - 1) = 9) := by
  have h2 := h.2.2 _ _ (last_at s (by omega))
  rw [bt_32, bt_9, ← isBl_iff, h2]; simp

theorem rblank_any (c : Int) (w : World) :
    Calls Tryd.prog 22 #[.int .u8 c] w fun e w' => e = .returned (.bool (decide (c = 32 ∨ c = 9))) ∧ Below w.heap.size w w' := by
  refine fn_intro Tryd.func22 rfl Tryd.ntmps22 rfl rfl ?_
  refine g_seq (g_ops ?_)
  refine g_val rfl rfl rfl (y_assign rfl) ?_
  refine g_nil (g_then (g_seq (g_ops ?_)))
  refine g_val rfl rfl rfl (y_move rfl) ?_
  refine g_val rfl rfl rfl (y_ieq rfl rfl) ?_
  refine g_val rfl rfl rfl (y_move rfl) ?_
  first | refine g_casep 5 rfl (fun h1 => ?_) (fun h1 => ?_) | refine g_caseb 5 rfl (fun h1 => ?_) (fun h1 => ?_)
  · skip
    refine g_not rfl rfl rfl ?_
    refine g_not rfl rfl rfl ?_
    refine g_val rfl rfl rfl (y_pick_t rfl rfl) ?_
    refine g_val rfl rfl rfl (y_assign rfl) ?_
    refine g_nil (g_then (g_ret ?_))
    refine g_end1 Tryd.results22 rfl ?_
    exact fun w hS => ⟨ret_bool (by simp_all), hS.below⟩
  · skip
    refine g_val rfl rfl rfl (y_move rfl) ?_
    refine g_val rfl rfl rfl (y_ieq rfl rfl) ?_
    refine g_val rfl rfl rfl (y_pick_f rfl rfl) ?_
    refine g_val rfl rfl rfl (y_assign rfl) ?_
    refine g_nil (g_then (g_ret ?_))
    refine g_end1 Tryd.results22 rfl ?_
    exact fun w hS => ⟨ret_bool (by simp_all), hS.below⟩

theorem ends_any (s : ByteArray) (hs : s.size ≤ 1073741824) (he : okL s.data.toList) (w : World) :
    Calls Tryd.prog 11 #[.string s] w fun e w' => e = .returned (.bool true) ∧ Below w.heap.size w w' := by
  refine fn_intro Tryd.func11 rfl Tryd.ntmps11 rfl rfl ?_
  refine g_seq (g_ops ?_)
  refine g_val rfl rfl rfl (y_assign rfl) ?_
  refine g_nil (g_then (g_seq (g_seq (g_ops ?_))))
  refine g_val rfl rfl rfl (y_assign rfl) ?_
  refine g_nil (g_then (g_block ?_))
  refine g_loop (α := {x : Int // 0 ≤ x ∧ x ≤ s.size}) (fun x => [(0, .string s), (3, .int .i64 x.1)]) (fun x => St w [] []) (fun x => s.size - x.1.toNat) ⟨0, by omega, by omega⟩ [0, 3] rfl (fun w h => h.sub .slnil) ?_
  rintro ⟨j, hx⟩
  dsimp only
  refine g_seq (g_seq (g_ops ?_))
  refine g_val rfl rfl rfl (y_move rfl) ?_
  refine g_val rfl rfl rfl (y_move rfl) ?_
  refine g_val rfl rfl rfl (y_slen rfl Tryd.underlying9) ?_
  refine g_val rfl rfl rfl (y_ilt rfl rfl) ?_
  refine g_nil (g_then ?_)
  first | refine g_casep 9 rfl (fun h1 => ?_) (fun h1 => ?_) | refine g_caseb 9 rfl (fun h1 => ?_) (fun h1 => ?_)
  · skip
    refine g_cond_t rfl (g_skip (g_then (g_seq (g_block (g_seq (g_ops ?_))))))
    refine g_val rfl rfl rfl (y_move rfl) ?_
    refine g_val rfl rfl rfl (y_move rfl) ?_
    refine g_val rfl rfl rfl (y_sat rfl rfl Tryd.underlying9 (by omega) (by omega)) ?_
    refine g_val rfl rfl rfl (y_ieq rfl rfl) ?_
    refine g_nil (g_then ?_)
    first | refine g_casep 15 rfl (fun h2 => ?_) (fun h2 => ?_) | refine g_caseb 15 rfl (fun h2 => ?_) (fun h2 => ?_)
    · skip
      refine g_cond_t rfl (g_seq (g_ops ?_))
      refine g_val rfl rfl rfl (y_assign rfl) ?_
      refine g_nil (g_then (g_ret (g_in_ret (g_then_ret (g_then_ret (g_in_ret (g_then_ret ?_)))))))
      refine g_end1 Tryd.results11 rfl ?_
      first | exact absurd (show bt s j = 10 by assumption) (ok_at s he j (by omega) (by omega)) | exact absurd (show bt s 0 = 32 ∨ bt s 0 = 9 by omega) (ok_hd s he (by omega))
    · skip
      refine g_cond_f rfl (g_skip (g_in_normal (g_then (g_ops ?_))))
      refine g_val rfl rfl rfl (y_move rfl) ?_
      refine g_val rfl rfl rfl (by first | exact y_addi rfl rfl (by first | omega | (simp only [size_mk, ByteArray.size_append, ByteArray.size_extract]; omega)) | exact y_iadd rfl rfl) ?_
      refine g_val rfl rfl rfl (y_assign rfl) ?_
      refine g_nil ?_
      exact g_again ⟨j + 1, by omega, by omega⟩ [0, 3] (by dsimp only; omega) rfl (fun w h => h.sub .slnil)
  · skip
    refine g_cond_f rfl (g_exit (g_then_exit (g_then_exit (g_in_exit (g_then (g_seq (g_seq (g_ops ?_))))))))
    refine g_val rfl rfl rfl (y_move rfl) ?_
    refine g_val rfl rfl rfl (y_slen rfl Tryd.underlying9) ?_
    refine g_val rfl rfl rfl (y_ieq rfl rfl) ?_
    refine g_nil (g_then ?_)
    first | refine g_casep 18 rfl (fun h3 => ?_) (fun h3 => ?_) | refine g_caseb 18 rfl (fun h3 => ?_) (fun h3 => ?_)
    · skip
      refine g_cond_t rfl (g_seq (g_ops ?_))
      refine g_val rfl rfl rfl (y_assign rfl) ?_
      refine g_nil (g_then (g_ret (g_then_ret ?_)))
      refine g_end1 Tryd.results11 rfl ?_
      exact fun w hS => ⟨rfl, hS.below⟩
    · skip
      refine g_cond_f rfl (g_skip (g_then (g_seq (g_ops ?_))))
      refine g_val rfl rfl rfl (y_move rfl) ?_
      refine g_val rfl rfl rfl (y_sat rfl rfl Tryd.underlying9 (by omega) (by omega)) ?_
      refine g_call1 rfl rfl rfl Tryd.call22 (fun w hS => rblank_any _ w) ?_
      refine g_val rfl rfl rfl (y_assign rfl) ?_
      refine g_nil (g_then (g_seq (g_ops ?_)))
      refine g_val rfl rfl rfl (y_move rfl) ?_
      refine g_val rfl rfl rfl (y_move rfl) ?_
      refine g_val rfl rfl rfl (y_slen rfl Tryd.underlying9) ?_
      refine g_val rfl rfl rfl (by first | exact y_subi rfl rfl (by first | omega | (simp only [size_mk, ByteArray.size_append, ByteArray.size_extract]; omega)) | exact y_isub rfl rfl) ?_
      refine g_val rfl rfl rfl (y_sat rfl rfl Tryd.underlying9 (by omega) (by omega)) ?_
      refine g_call1 rfl rfl rfl Tryd.call22 (fun w hS => rblank_any _ w) ?_
      refine g_val rfl rfl rfl (y_assign rfl) ?_
      refine g_nil (g_then (g_seq (g_ops ?_)))
      refine g_val rfl rfl rfl (y_move rfl) ?_
      refine g_val rfl rfl rfl ((by first | exact y_notp rfl | exact y_not rfl)) ?_
      refine g_val rfl rfl rfl (y_move rfl) ?_
      first | refine g_casep 30 rfl (fun h4 => ?_) (fun h4 => ?_) | refine g_caseb 30 rfl (fun h4 => ?_) (fun h4 => ?_)
      · skip
        refine g_val rfl rfl rfl (y_move rfl) ?_
        refine g_val rfl rfl rfl ((by first | exact y_notp rfl | exact y_not rfl)) ?_
        refine g_val rfl rfl rfl (y_pick_t rfl rfl) ?_
        refine g_val rfl rfl rfl (y_assign rfl) ?_
        refine g_nil (g_then (g_ret ?_))
        refine g_end1 Tryd.results11 rfl ?_
        have q1 := ok_hd s he (by omega)
        have q2 := ok_last s he (by omega)
        exact fun w hS => ⟨ret_bool (by simp_all), hS.below⟩
      · skip
        refine g_not rfl rfl rfl ?_
        refine g_not rfl rfl rfl ?_
        refine g_val rfl rfl rfl (y_pick_f rfl rfl) ?_
        refine g_val rfl rfl rfl (y_assign rfl) ?_
        refine g_nil (g_then (g_ret ?_))
        refine g_end1 Tryd.results11 rfl ?_
        first | exact absurd (show bt s j = 10 by assumption) (ok_at s he j (by omega) (by omega)) | exact absurd (show bt s 0 = 32 ∨ bt s 0 = 9 by omega) (ok_hd s he (by omega))

theorem bt_59 (s : ByteArray) (i : Int) : bt s i = 59 ↔ by8 s i = 59 := bt_eq s i 59
theorem trL_len (x : List UInt8) : (trL x).length ≤ x.length := (List.dropWhile_sublist isBl).length_le
theorem up_size (stop : UInt8 → Bool) (s : ByteArray) (i k : Int) (x : ByteArray) (hr : (x, k) = upR stop s i) : x.size ≤ s.size := by
  unfold upR at hr
  split at hr
  · simp only [Prod.mk.injEq] at hr
    rw [hr.1, size_mk]
    have h1 := trL_len (trR (upL stop (from_ s i)))
    have h2 := trR_len (upL stop (from_ s i))
    have h3 := tw_le (fun c => !stop c) (from_ s i)
    have h4 : (from_ s i).length ≤ s.size := by unfold from_; rw [List.length_drop, dlen]; omega
    unfold upL at *; omega
  · simp only [Prod.mk.injEq] at hr
    rw [hr.1, size_mk]; simp

theorem on_law (s : ByteArray) (i : Int) (w : World) :
    Calls Tryd.prog 4 #[.string s, .int .i64 i] w fun e w' => e = .returned (.bool true) ∧ Below w.heap.size w w' := by
  refine fn_intro Tryd.func4 rfl Tryd.ntmps4 rfl rfl ?_
  refine g_seq (g_ops ?_)
  refine g_val rfl rfl rfl (y_assign rfl) ?_
  refine g_nil (g_then (g_seq (g_seq (g_ops ?_))))
  refine g_val rfl rfl rfl (y_move rfl) ?_
  refine g_val rfl rfl rfl (y_slen rfl Tryd.underlying9) ?_
  refine g_val rfl rfl rfl (y_igt rfl rfl) ?_
  refine g_val rfl rfl rfl (y_move rfl) ?_
  first | refine g_casep 19 rfl (fun h1 => ?_) (fun h1 => ?_) | refine g_caseb 19 rfl (fun h1 => ?_) (fun h1 => ?_)
  · skip
    refine g_not rfl rfl rfl ?_
    refine g_not rfl rfl rfl ?_
    refine g_val rfl rfl rfl (y_pick_t rfl rfl) ?_
    refine g_val rfl rfl rfl (y_move rfl) ?_
    refine g_not rfl rfl rfl ?_
    refine g_not rfl rfl rfl ?_
    refine g_not rfl rfl rfl ?_
    refine g_not rfl rfl rfl ?_
    refine g_val rfl rfl rfl (y_pick_t rfl rfl) ?_
    refine g_nil (g_then (g_cond_t rfl (g_seq (g_ops ?_))))
    refine g_call1 rfl rfl rfl Tryd.call6 (fun w hS => alive_any w) ?_
    refine g_val rfl rfl rfl (y_assign rfl) ?_
    refine g_nil (g_then (g_ret (g_then_ret ?_)))
    refine g_end1 Tryd.results4 rfl ?_
    exact fun w hS => ⟨ret_bool (by first | (simp_all; done) | (simp; omega)), hS.below⟩
  · skip
    refine g_val rfl rfl rfl (y_move rfl) ?_
    refine g_val rfl rfl rfl (y_ilt rfl rfl) ?_
    refine g_val rfl rfl rfl (y_pick_f rfl rfl) ?_
    refine g_val rfl rfl rfl (y_move rfl) ?_
    first | refine g_casep 23 rfl (fun h2 => ?_) (fun h2 => ?_) | refine g_caseb 23 rfl (fun h2 => ?_) (fun h2 => ?_)
    · skip
      refine g_not rfl rfl rfl ?_
      refine g_not rfl rfl rfl ?_
      refine g_not rfl rfl rfl ?_
      refine g_not rfl rfl rfl ?_
      refine g_val rfl rfl rfl (y_pick_t rfl rfl) ?_
      refine g_nil (g_then (g_cond_t rfl (g_seq (g_ops ?_))))
      refine g_call1 rfl rfl rfl Tryd.call6 (fun w hS => alive_any w) ?_
      refine g_val rfl rfl rfl (y_assign rfl) ?_
      refine g_nil (g_then (g_ret (g_then_ret ?_)))
      refine g_end1 Tryd.results4 rfl ?_
      exact fun w hS => ⟨ret_bool (by first | (simp_all; done) | (simp; omega)), hS.below⟩
    · skip
      refine g_val rfl rfl rfl (y_move rfl) ?_
      refine g_val rfl rfl rfl (y_move rfl) ?_
      refine g_val rfl rfl rfl (y_slen rfl Tryd.underlying9) ?_
      refine g_val rfl rfl rfl (y_igt rfl rfl) ?_
      refine g_val rfl rfl rfl (y_pick_f rfl rfl) ?_
      refine g_nil (g_then ?_)
      first | refine g_casep 28 rfl (fun h3 => ?_) (fun h3 => ?_) | refine g_caseb 28 rfl (fun h3 => ?_) (fun h3 => ?_)
      · skip
        refine g_cond_t rfl (g_seq (g_ops ?_))
        refine g_call1 rfl rfl rfl Tryd.call6 (fun w hS => alive_any w) ?_
        refine g_val rfl rfl rfl (y_assign rfl) ?_
        refine g_nil (g_then (g_ret (g_then_ret ?_)))
        refine g_end1 Tryd.results4 rfl ?_
        exact fun w hS => ⟨ret_bool (by first | (simp_all; done) | (simp; omega)), hS.below⟩
      · skip
        refine g_cond_f rfl (g_skip (g_then (g_seq (g_ops ?_))))
        refine g_val rfl rfl rfl (y_move rfl) ?_
        refine g_val rfl rfl rfl (y_move rfl) ?_
        obtain ⟨bl, hR_blanks_any⟩ : ∃ r, r = blkR s i := ⟨_, rfl⟩
        have hbl := blk_bd s i (by omega)
        rw [← hR_blanks_any] at hbl
        refine g_call1 (v := .int .i64 bl) rfl rfl rfl Tryd.call9 (fun w hS => blanks_any s i _ (by omega) hR_blanks_any.symm w) ?_
        refine g_val rfl rfl rfl (y_assign rfl) ?_
        refine g_nil (g_then (g_seq (g_ops ?_)))
        refine g_val rfl rfl rfl (y_move rfl) ?_
        refine g_val rfl rfl rfl (y_move rfl) ?_
        obtain ⟨⟨n, k, ok⟩, hR_number_any⟩ : ∃ r, r = numR s i := ⟨_, rfl⟩
        obtain ⟨hk0, hk1, hok, hn0, hn1, hdig⟩ := num_facts s i n k ok (by omega) hR_number_any
        refine g_call1 (v := .tuple #[.int .i64 n, .int .i64 k, .bool ok]) rfl rfl rfl Tryd.call10 (fun w hS => number_any s i _ (by omega) hR_number_any.symm w) ?_
        refine g_val rfl rfl rfl (y_move rfl) ?_
        refine g_val rfl rfl rfl (y_extract rfl rfl) ?_
        refine g_val rfl rfl rfl (y_extract rfl rfl) ?_
        refine g_val rfl rfl rfl (y_extract rfl rfl) ?_
        refine g_val rfl rfl rfl (y_assign rfl) ?_
        refine g_val rfl rfl rfl (y_assign rfl) ?_
        refine g_val rfl rfl rfl (y_assign rfl) ?_
        refine g_nil (g_then (g_seq (g_ops ?_)))
        refine g_val rfl rfl rfl (y_move rfl) ?_
        refine g_val rfl rfl rfl (y_move rfl) ?_
        obtain ⟨⟨wd, p⟩, hR_word_any⟩ : ∃ r, r = upR wordS s i := ⟨_, rfl⟩
        obtain ⟨hp0, hp1, hp2, hp3⟩ := up_facts wordS s i p wd (by omega) hR_word_any
        have hwo := up_ok wordS rfl s i p wd (by omega) hR_word_any
        have hwz := up_size _ _ _ _ _ hR_word_any
        refine g_call1 (v := .tuple #[.string wd, .int .i64 p]) rfl rfl rfl Tryd.call7 (fun w hS => word_any s i _ (by omega) hR_word_any.symm w) ?_
        refine g_val rfl rfl rfl (y_move rfl) ?_
        refine g_val rfl rfl rfl (y_extract rfl rfl) ?_
        refine g_val rfl rfl rfl (y_extract rfl rfl) ?_
        refine g_val rfl rfl rfl (y_assign rfl) ?_
        refine g_val rfl rfl rfl (y_assign rfl) ?_
        refine g_nil (g_then (g_seq (g_ops ?_)))
        refine g_val rfl rfl rfl (y_move rfl) ?_
        refine g_val rfl rfl rfl (y_move rfl) ?_
        obtain ⟨⟨rs, q⟩, hR_rest_any⟩ : ∃ r, r = upR restS s i := ⟨_, rfl⟩
        obtain ⟨hq0, hq1, hq2, hq3⟩ := up_facts restS s i q rs (by omega) hR_rest_any
        have hro := up_ok restS rfl s i q rs (by omega) hR_rest_any
        have hrz := up_size _ _ _ _ _ hR_rest_any
        have hpq := up_le s i p q hp3 hq3
        have hp4 : p < s.size → bt s p = 10 ∨ bt s p = 59 := fun h => by have := hp2 h; rw [bt_10, bt_59]; simpa using this
        have hq4 : q < s.size → bt s q = 10 := fun h => by have := hq2 h; rw [bt_10]; simpa using this
        clear hp2 hq2 hp3 hq3 hR_word_any hR_number_any hR_blanks_any
        refine g_call1 (v := .tuple #[.string rs, .int .i64 q]) rfl rfl rfl Tryd.call8 (fun w hS => rest_any s i _ (by omega) hR_rest_any.symm w) ?_
        refine g_val rfl rfl rfl (y_move rfl) ?_
        refine g_val rfl rfl rfl (y_extract rfl rfl) ?_
        refine g_val rfl rfl rfl (y_extract rfl rfl) ?_
        refine g_val rfl rfl rfl (y_assign rfl) ?_
        refine g_val rfl rfl rfl (y_assign rfl) ?_
        refine g_nil (g_then (g_seq (g_seq (g_ops ?_))))
        refine g_val rfl rfl rfl (y_move rfl) ?_
        refine g_val rfl rfl rfl (y_move rfl) ?_
        refine g_val rfl rfl rfl (y_ilt rfl rfl) ?_
        refine g_val rfl rfl rfl (y_move rfl) ?_
        first | refine g_casep 55 rfl (fun h4 => ?_) (fun h4 => ?_) | refine g_caseb 55 rfl (fun h4 => ?_) (fun h4 => ?_)
        · skip
          refine g_not rfl rfl rfl ?_
          refine g_not rfl rfl rfl ?_
          refine g_not rfl rfl rfl ?_
          refine g_not rfl rfl rfl ?_
          refine g_val rfl rfl rfl (y_pick_t rfl rfl) ?_
          refine g_val rfl rfl rfl (y_move rfl) ?_
          refine g_not rfl rfl rfl ?_
          refine g_not rfl rfl rfl ?_
          refine g_not rfl rfl rfl ?_
          refine g_val rfl rfl rfl (y_pick_t rfl rfl) ?_
          refine g_val rfl rfl rfl (y_move rfl) ?_
          refine g_not rfl rfl rfl ?_
          refine g_not rfl rfl rfl ?_
          refine g_not rfl rfl rfl ?_
          refine g_not rfl rfl rfl ?_
          refine g_val rfl rfl rfl (y_pick_t rfl rfl) ?_
          refine g_val rfl rfl rfl (y_move rfl) ?_
          refine g_not rfl rfl rfl ?_
          refine g_not rfl rfl rfl ?_
          refine g_not rfl rfl rfl ?_
          refine g_val rfl rfl rfl (y_pick_t rfl rfl) ?_
          refine g_val rfl rfl rfl (y_move rfl) ?_
          refine g_not rfl rfl rfl ?_
          refine g_not rfl rfl rfl ?_
          refine g_not rfl rfl rfl ?_
          refine g_val rfl rfl rfl (y_pick_t rfl rfl) ?_
          refine g_val rfl rfl rfl (y_move rfl) ?_
          refine g_not rfl rfl rfl ?_
          refine g_not rfl rfl rfl ?_
          refine g_not rfl rfl rfl ?_
          refine g_not rfl rfl rfl ?_
          refine g_val rfl rfl rfl (y_pick_t rfl rfl) ?_
          refine g_val rfl rfl rfl (y_move rfl) ?_
          refine g_not rfl rfl rfl ?_
          refine g_not rfl rfl rfl ?_
          refine g_not rfl rfl rfl ?_
          refine g_not rfl rfl rfl ?_
          refine g_not rfl rfl rfl ?_
          refine g_val rfl rfl rfl (y_pick_t rfl rfl) ?_
          refine g_val rfl rfl rfl (y_move rfl) ?_
          refine g_not rfl rfl rfl ?_
          refine g_not rfl rfl rfl ?_
          refine g_val rfl rfl rfl (y_pick_t rfl rfl) ?_
          refine g_val rfl rfl rfl (y_move rfl) ?_
          refine g_not rfl rfl rfl ?_
          refine g_not rfl rfl rfl ?_
          refine g_val rfl rfl rfl (y_pick_t rfl rfl) ?_
          refine g_nil (g_then (g_cond_t rfl (g_seq (g_ops ?_))))
          refine g_val rfl rfl rfl (y_assign rfl) ?_
          refine g_nil (g_then (g_ret (g_then_ret ?_)))
          refine g_end1 Tryd.results4 rfl ?_
          exfalso
          first | omega | (have := hdig j (by omega) (by omega); omega) | (simp_all; done)
        · skip
          refine g_val rfl rfl rfl (y_move rfl) ?_
          refine g_val rfl rfl rfl (y_move rfl) ?_
          refine g_val rfl rfl rfl (y_slen rfl Tryd.underlying9) ?_
          refine g_val rfl rfl rfl (y_igt rfl rfl) ?_
          refine g_val rfl rfl rfl (y_pick_f rfl rfl) ?_
          refine g_val rfl rfl rfl (y_move rfl) ?_
          first | refine g_casep 61 rfl (fun h5 => ?_) (fun h5 => ?_) | refine g_caseb 61 rfl (fun h5 => ?_) (fun h5 => ?_)
          · skip
            refine g_not rfl rfl rfl ?_
            refine g_not rfl rfl rfl ?_
            refine g_not rfl rfl rfl ?_
            refine g_val rfl rfl rfl (y_pick_t rfl rfl) ?_
            refine g_val rfl rfl rfl (y_move rfl) ?_
            refine g_not rfl rfl rfl ?_
            refine g_not rfl rfl rfl ?_
            refine g_not rfl rfl rfl ?_
            refine g_not rfl rfl rfl ?_
            refine g_val rfl rfl rfl (y_pick_t rfl rfl) ?_
            refine g_val rfl rfl rfl (y_move rfl) ?_
            refine g_not rfl rfl rfl ?_
            refine g_not rfl rfl rfl ?_
            refine g_not rfl rfl rfl ?_
            refine g_val rfl rfl rfl (y_pick_t rfl rfl) ?_
            refine g_val rfl rfl rfl (y_move rfl) ?_
            refine g_not rfl rfl rfl ?_
            refine g_not rfl rfl rfl ?_
            refine g_not rfl rfl rfl ?_
            refine g_val rfl rfl rfl (y_pick_t rfl rfl) ?_
            refine g_val rfl rfl rfl (y_move rfl) ?_
            refine g_not rfl rfl rfl ?_
            refine g_not rfl rfl rfl ?_
            refine g_not rfl rfl rfl ?_
            refine g_not rfl rfl rfl ?_
            refine g_val rfl rfl rfl (y_pick_t rfl rfl) ?_
            refine g_val rfl rfl rfl (y_move rfl) ?_
            refine g_not rfl rfl rfl ?_
            refine g_not rfl rfl rfl ?_
            refine g_not rfl rfl rfl ?_
            refine g_not rfl rfl rfl ?_
            refine g_not rfl rfl rfl ?_
            refine g_val rfl rfl rfl (y_pick_t rfl rfl) ?_
            refine g_val rfl rfl rfl (y_move rfl) ?_
            refine g_not rfl rfl rfl ?_
            refine g_not rfl rfl rfl ?_
            refine g_val rfl rfl rfl (y_pick_t rfl rfl) ?_
            refine g_val rfl rfl rfl (y_move rfl) ?_
            refine g_not rfl rfl rfl ?_
            refine g_not rfl rfl rfl ?_
            refine g_val rfl rfl rfl (y_pick_t rfl rfl) ?_
            refine g_nil (g_then (g_cond_t rfl (g_seq (g_ops ?_))))
            refine g_val rfl rfl rfl (y_assign rfl) ?_
            refine g_nil (g_then (g_ret (g_then_ret ?_)))
            refine g_end1 Tryd.results4 rfl ?_
            exfalso
            first | omega | (have := hdig j (by omega) (by omega); omega) | (simp_all; done)
          · skip
            refine g_val rfl rfl rfl (y_move rfl) ?_
            refine g_val rfl rfl rfl (y_move rfl) ?_
            refine g_val rfl rfl rfl (y_ilt rfl rfl) ?_
            refine g_val rfl rfl rfl (y_pick_f rfl rfl) ?_
            refine g_val rfl rfl rfl (y_move rfl) ?_
            first | refine g_casep 66 rfl (fun h6 => ?_) (fun h6 => ?_) | refine g_caseb 66 rfl (fun h6 => ?_) (fun h6 => ?_)
            · skip
              refine g_not rfl rfl rfl ?_
              refine g_not rfl rfl rfl ?_
              refine g_not rfl rfl rfl ?_
              refine g_not rfl rfl rfl ?_
              refine g_val rfl rfl rfl (y_pick_t rfl rfl) ?_
              refine g_val rfl rfl rfl (y_move rfl) ?_
              refine g_not rfl rfl rfl ?_
              refine g_not rfl rfl rfl ?_
              refine g_not rfl rfl rfl ?_
              refine g_val rfl rfl rfl (y_pick_t rfl rfl) ?_
              refine g_val rfl rfl rfl (y_move rfl) ?_
              refine g_not rfl rfl rfl ?_
              refine g_not rfl rfl rfl ?_
              refine g_not rfl rfl rfl ?_
              refine g_val rfl rfl rfl (y_pick_t rfl rfl) ?_
              refine g_val rfl rfl rfl (y_move rfl) ?_
              refine g_not rfl rfl rfl ?_
              refine g_not rfl rfl rfl ?_
              refine g_not rfl rfl rfl ?_
              refine g_not rfl rfl rfl ?_
              refine g_val rfl rfl rfl (y_pick_t rfl rfl) ?_
              refine g_val rfl rfl rfl (y_move rfl) ?_
              refine g_not rfl rfl rfl ?_
              refine g_not rfl rfl rfl ?_
              refine g_not rfl rfl rfl ?_
              refine g_not rfl rfl rfl ?_
              refine g_not rfl rfl rfl ?_
              refine g_val rfl rfl rfl (y_pick_t rfl rfl) ?_
              refine g_val rfl rfl rfl (y_move rfl) ?_
              refine g_not rfl rfl rfl ?_
              refine g_not rfl rfl rfl ?_
              refine g_val rfl rfl rfl (y_pick_t rfl rfl) ?_
              refine g_val rfl rfl rfl (y_move rfl) ?_
              refine g_not rfl rfl rfl ?_
              refine g_not rfl rfl rfl ?_
              refine g_val rfl rfl rfl (y_pick_t rfl rfl) ?_
              refine g_nil (g_then (g_cond_t rfl (g_seq (g_ops ?_))))
              refine g_val rfl rfl rfl (y_assign rfl) ?_
              refine g_nil (g_then (g_ret (g_then_ret ?_)))
              refine g_end1 Tryd.results4 rfl ?_
              exfalso
              first | omega | (have := hdig j (by omega) (by omega); omega) | (simp_all; done)
            · skip
              refine g_val rfl rfl rfl (y_move rfl) ?_
              refine g_val rfl rfl rfl (y_move rfl) ?_
              refine g_val rfl rfl rfl (y_slen rfl Tryd.underlying9) ?_
              refine g_val rfl rfl rfl (y_igt rfl rfl) ?_
              refine g_val rfl rfl rfl (y_pick_f rfl rfl) ?_
              refine g_val rfl rfl rfl (y_move rfl) ?_
              first | refine g_casep 72 rfl (fun h7 => ?_) (fun h7 => ?_) | refine g_caseb 72 rfl (fun h7 => ?_) (fun h7 => ?_)
              · skip
                refine g_not rfl rfl rfl ?_
                refine g_not rfl rfl rfl ?_
                refine g_not rfl rfl rfl ?_
                refine g_val rfl rfl rfl (y_pick_t rfl rfl) ?_
                refine g_val rfl rfl rfl (y_move rfl) ?_
                refine g_not rfl rfl rfl ?_
                refine g_not rfl rfl rfl ?_
                refine g_not rfl rfl rfl ?_
                refine g_val rfl rfl rfl (y_pick_t rfl rfl) ?_
                refine g_val rfl rfl rfl (y_move rfl) ?_
                refine g_not rfl rfl rfl ?_
                refine g_not rfl rfl rfl ?_
                refine g_not rfl rfl rfl ?_
                refine g_not rfl rfl rfl ?_
                refine g_val rfl rfl rfl (y_pick_t rfl rfl) ?_
                refine g_val rfl rfl rfl (y_move rfl) ?_
                refine g_not rfl rfl rfl ?_
                refine g_not rfl rfl rfl ?_
                refine g_not rfl rfl rfl ?_
                refine g_not rfl rfl rfl ?_
                refine g_not rfl rfl rfl ?_
                refine g_val rfl rfl rfl (y_pick_t rfl rfl) ?_
                refine g_val rfl rfl rfl (y_move rfl) ?_
                refine g_not rfl rfl rfl ?_
                refine g_not rfl rfl rfl ?_
                refine g_val rfl rfl rfl (y_pick_t rfl rfl) ?_
                refine g_val rfl rfl rfl (y_move rfl) ?_
                refine g_not rfl rfl rfl ?_
                refine g_not rfl rfl rfl ?_
                refine g_val rfl rfl rfl (y_pick_t rfl rfl) ?_
                refine g_nil (g_then (g_cond_t rfl (g_seq (g_ops ?_))))
                refine g_val rfl rfl rfl (y_assign rfl) ?_
                refine g_nil (g_then (g_ret (g_then_ret ?_)))
                refine g_end1 Tryd.results4 rfl ?_
                exfalso
                first | omega | (have := hdig j (by omega) (by omega); omega) | (simp_all; done)
              · skip
                refine g_val rfl rfl rfl (y_move rfl) ?_
                refine g_val rfl rfl rfl (y_move rfl) ?_
                refine g_val rfl rfl rfl (y_ilt rfl rfl) ?_
                refine g_val rfl rfl rfl (y_pick_f rfl rfl) ?_
                refine g_val rfl rfl rfl (y_move rfl) ?_
                first | refine g_casep 77 rfl (fun h8 => ?_) (fun h8 => ?_) | refine g_caseb 77 rfl (fun h8 => ?_) (fun h8 => ?_)
                · skip
                  refine g_not rfl rfl rfl ?_
                  refine g_not rfl rfl rfl ?_
                  refine g_not rfl rfl rfl ?_
                  refine g_val rfl rfl rfl (y_pick_t rfl rfl) ?_
                  refine g_val rfl rfl rfl (y_move rfl) ?_
                  refine g_not rfl rfl rfl ?_
                  refine g_not rfl rfl rfl ?_
                  refine g_not rfl rfl rfl ?_
                  refine g_not rfl rfl rfl ?_
                  refine g_val rfl rfl rfl (y_pick_t rfl rfl) ?_
                  refine g_val rfl rfl rfl (y_move rfl) ?_
                  refine g_not rfl rfl rfl ?_
                  refine g_not rfl rfl rfl ?_
                  refine g_not rfl rfl rfl ?_
                  refine g_not rfl rfl rfl ?_
                  refine g_not rfl rfl rfl ?_
                  refine g_val rfl rfl rfl (y_pick_t rfl rfl) ?_
                  refine g_val rfl rfl rfl (y_move rfl) ?_
                  refine g_not rfl rfl rfl ?_
                  refine g_not rfl rfl rfl ?_
                  refine g_val rfl rfl rfl (y_pick_t rfl rfl) ?_
                  refine g_val rfl rfl rfl (y_move rfl) ?_
                  refine g_not rfl rfl rfl ?_
                  refine g_not rfl rfl rfl ?_
                  refine g_val rfl rfl rfl (y_pick_t rfl rfl) ?_
                  refine g_nil (g_then (g_cond_t rfl (g_seq (g_ops ?_))))
                  refine g_val rfl rfl rfl (y_assign rfl) ?_
                  refine g_nil (g_then (g_ret (g_then_ret ?_)))
                  refine g_end1 Tryd.results4 rfl ?_
                  exfalso
                  first | omega | (have := hdig j (by omega) (by omega); omega) | (simp_all; done)
                · skip
                  refine g_val rfl rfl rfl (y_move rfl) ?_
                  refine g_val rfl rfl rfl (y_move rfl) ?_
                  refine g_val rfl rfl rfl (y_igt rfl rfl) ?_
                  refine g_val rfl rfl rfl (y_pick_f rfl rfl) ?_
                  refine g_val rfl rfl rfl (y_move rfl) ?_
                  first | refine g_casep 82 rfl (fun h9 => ?_) (fun h9 => ?_) | refine g_caseb 82 rfl (fun h9 => ?_) (fun h9 => ?_)
                  · skip
                    refine g_not rfl rfl rfl ?_
                    refine g_not rfl rfl rfl ?_
                    refine g_not rfl rfl rfl ?_
                    refine g_not rfl rfl rfl ?_
                    refine g_val rfl rfl rfl (y_pick_t rfl rfl) ?_
                    refine g_val rfl rfl rfl (y_move rfl) ?_
                    refine g_not rfl rfl rfl ?_
                    refine g_not rfl rfl rfl ?_
                    refine g_not rfl rfl rfl ?_
                    refine g_not rfl rfl rfl ?_
                    refine g_not rfl rfl rfl ?_
                    refine g_val rfl rfl rfl (y_pick_t rfl rfl) ?_
                    refine g_val rfl rfl rfl (y_move rfl) ?_
                    refine g_not rfl rfl rfl ?_
                    refine g_not rfl rfl rfl ?_
                    refine g_val rfl rfl rfl (y_pick_t rfl rfl) ?_
                    refine g_val rfl rfl rfl (y_move rfl) ?_
                    refine g_not rfl rfl rfl ?_
                    refine g_not rfl rfl rfl ?_
                    refine g_val rfl rfl rfl (y_pick_t rfl rfl) ?_
                    refine g_nil (g_then (g_cond_t rfl (g_seq (g_ops ?_))))
                    refine g_val rfl rfl rfl (y_assign rfl) ?_
                    refine g_nil (g_then (g_ret (g_then_ret ?_)))
                    refine g_end1 Tryd.results4 rfl ?_
                    exfalso
                    first | omega | (have := hdig j (by omega) (by omega); omega) | (simp_all; done)
                  · skip
                    refine g_val rfl rfl rfl (y_move rfl) ?_
                    refine g_val rfl rfl rfl (y_move rfl) ?_
                    refine g_val rfl rfl rfl (y_slen rfl Tryd.underlying9) ?_
                    refine g_val rfl rfl rfl (y_igt rfl rfl) ?_
                    refine g_val rfl rfl rfl (y_pick_f rfl rfl) ?_
                    refine g_val rfl rfl rfl (y_move rfl) ?_
                    first | refine g_casep 88 rfl (fun h10 => ?_) (fun h10 => ?_) | refine g_caseb 88 rfl (fun h10 => ?_) (fun h10 => ?_)
                    · skip
                      refine g_not rfl rfl rfl ?_
                      refine g_not rfl rfl rfl ?_
                      refine g_not rfl rfl rfl ?_
                      refine g_not rfl rfl rfl ?_
                      refine g_not rfl rfl rfl ?_
                      refine g_val rfl rfl rfl (y_pick_t rfl rfl) ?_
                      refine g_val rfl rfl rfl (y_move rfl) ?_
                      refine g_not rfl rfl rfl ?_
                      refine g_not rfl rfl rfl ?_
                      refine g_val rfl rfl rfl (y_pick_t rfl rfl) ?_
                      refine g_val rfl rfl rfl (y_move rfl) ?_
                      refine g_not rfl rfl rfl ?_
                      refine g_not rfl rfl rfl ?_
                      refine g_val rfl rfl rfl (y_pick_t rfl rfl) ?_
                      refine g_nil (g_then (g_cond_t rfl (g_seq (g_ops ?_))))
                      refine g_val rfl rfl rfl (y_assign rfl) ?_
                      refine g_nil (g_then (g_ret (g_then_ret ?_)))
                      refine g_end1 Tryd.results4 rfl ?_
                      exfalso
                      first | omega | (have := hdig j (by omega) (by omega); omega) | (simp_all; done)
                    · skip
                      refine g_val rfl rfl rfl (y_move rfl) ?_
                      refine g_val rfl rfl rfl (y_move rfl) ?_
                      refine g_val rfl rfl rfl (y_move rfl) ?_
                      refine g_val rfl rfl rfl (y_igt rfl rfl) ?_
                      refine g_val rfl rfl rfl (y_bne rfl rfl (by kernel_rfl)) ?_
                      refine g_val rfl rfl rfl (y_pick_f rfl rfl) ?_
                      refine g_val rfl rfl rfl (y_move rfl) ?_
                      first | refine g_casep 95 rfl (fun h11 => ?_) (fun h11 => ?_) | refine g_caseb 95 rfl (fun h11 => ?_) (fun h11 => ?_)
                      · skip
                        refine g_not rfl rfl rfl ?_
                        refine g_not rfl rfl rfl ?_
                        refine g_val rfl rfl rfl (y_pick_t rfl rfl) ?_
                        refine g_val rfl rfl rfl (y_move rfl) ?_
                        refine g_not rfl rfl rfl ?_
                        refine g_not rfl rfl rfl ?_
                        refine g_val rfl rfl rfl (y_pick_t rfl rfl) ?_
                        refine g_nil (g_then (g_cond_t rfl (g_seq (g_ops ?_))))
                        refine g_val rfl rfl rfl (y_assign rfl) ?_
                        refine g_nil (g_then (g_ret (g_then_ret ?_)))
                        refine g_end1 Tryd.results4 rfl ?_
                        exfalso
                        first | omega | (have := hdig j (by omega) (by omega); omega) | (simp_all; done)
                      · skip
                        refine g_val rfl rfl rfl (y_move rfl) ?_
                        refine g_val rfl rfl rfl (y_ilt rfl rfl) ?_
                        refine g_val rfl rfl rfl (y_pick_f rfl rfl) ?_
                        refine g_val rfl rfl rfl (y_move rfl) ?_
                        first | refine g_casep 99 rfl (fun h12 => ?_) (fun h12 => ?_) | refine g_caseb 99 rfl (fun h12 => ?_) (fun h12 => ?_)
                        · skip
                          refine g_not rfl rfl rfl ?_
                          refine g_not rfl rfl rfl ?_
                          refine g_val rfl rfl rfl (y_pick_t rfl rfl) ?_
                          refine g_nil (g_then (g_cond_t rfl (g_seq (g_ops ?_))))
                          refine g_val rfl rfl rfl (y_assign rfl) ?_
                          refine g_nil (g_then (g_ret (g_then_ret ?_)))
                          refine g_end1 Tryd.results4 rfl ?_
                          exfalso
                          first | omega | (have := hdig j (by omega) (by omega); omega) | (simp_all; done)
                        · skip
                          refine g_val rfl rfl rfl (y_move rfl) ?_
                          refine g_val rfl rfl rfl (y_igt rfl rfl) ?_
                          refine g_val rfl rfl rfl (y_pick_f rfl rfl) ?_
                          refine g_nil (g_then ?_)
                          first | refine g_casep 102 rfl (fun h13 => ?_) (fun h13 => ?_) | refine g_caseb 102 rfl (fun h13 => ?_) (fun h13 => ?_)
                          · skip
                            refine g_cond_t rfl (g_seq (g_ops ?_))
                            refine g_val rfl rfl rfl (y_assign rfl) ?_
                            refine g_nil (g_then (g_ret (g_then_ret ?_)))
                            refine g_end1 Tryd.results4 rfl ?_
                            exfalso
                            first | omega | (have := hdig j (by omega) (by omega); omega) | (simp_all; done)
                          · skip
                            refine g_cond_f rfl (g_skip (g_then (g_seq (g_seq (g_ops ?_)))))
                            refine g_val rfl rfl rfl (y_move rfl) ?_
                            refine g_val rfl rfl rfl (y_assign rfl) ?_
                            refine g_nil (g_then (g_block ?_))
                            refine g_loop (α := {x : Int // i ≤ x ∧ x ≤ k}) (fun x => [(0, .string s), (1, .int .i64 i), (7, .int .i64 k), (9, .string wd), (10, .int .i64 p), (11, .string rs), (12, .int .i64 q), (13, .int .i64 x.1)]) (fun x => St w [] []) (fun x => k.toNat - x.1.toNat) ⟨i, by omega, by omega⟩ [0, 1, 7, 9, 10, 11, 12, 13] rfl (fun w h => h.sub .slnil) ?_
                            rintro ⟨j, hx⟩
                            dsimp only
                            refine g_seq (g_seq (g_ops ?_))
                            refine g_val rfl rfl rfl (y_move rfl) ?_
                            refine g_val rfl rfl rfl (y_move rfl) ?_
                            refine g_val rfl rfl rfl (y_ilt rfl rfl) ?_
                            refine g_nil (g_then ?_)
                            first | refine g_casep 106 rfl (fun h14 => ?_) (fun h14 => ?_) | refine g_caseb 106 rfl (fun h14 => ?_) (fun h14 => ?_)
                            · skip
                              refine g_cond_t rfl (g_skip (g_then (g_seq (g_block (g_seq (g_ops ?_))))))
                              refine g_val rfl rfl rfl (y_move rfl) ?_
                              refine g_val rfl rfl rfl (y_move rfl) ?_
                              refine g_val rfl rfl rfl (y_sat rfl rfl Tryd.underlying9 (by omega) (by omega)) ?_
                              refine g_val rfl rfl rfl (y_ilt rfl rfl) ?_
                              refine g_val rfl rfl rfl (y_move rfl) ?_
                              first | refine g_casep 113 rfl (fun h15 => ?_) (fun h15 => ?_) | refine g_caseb 113 rfl (fun h15 => ?_) (fun h15 => ?_)
                              · skip
                                refine g_not rfl rfl rfl ?_
                                refine g_not rfl rfl rfl ?_
                                refine g_not rfl rfl rfl ?_
                                refine g_not rfl rfl rfl ?_
                                refine g_val rfl rfl rfl (y_pick_t rfl rfl) ?_
                                refine g_nil (g_then (g_cond_t rfl (g_seq (g_ops ?_))))
                                refine g_val rfl rfl rfl (y_assign rfl) ?_
                                refine g_nil (g_then (g_ret (g_in_ret (g_then_ret (g_then_ret (g_in_ret (g_then_ret ?_)))))))
                                refine g_end1 Tryd.results4 rfl ?_
                                exfalso
                                first | omega | (have := hdig j (by omega) (by omega); omega) | (simp_all; done)
                              · skip
                                refine g_val rfl rfl rfl (y_move rfl) ?_
                                refine g_val rfl rfl rfl (y_move rfl) ?_
                                refine g_val rfl rfl rfl (y_sat rfl rfl Tryd.underlying9 (by omega) (by omega)) ?_
                                refine g_val rfl rfl rfl (y_igt rfl rfl) ?_
                                refine g_val rfl rfl rfl (y_pick_f rfl rfl) ?_
                                refine g_nil (g_then ?_)
                                first | refine g_casep 118 rfl (fun h16 => ?_) (fun h16 => ?_) | refine g_caseb 118 rfl (fun h16 => ?_) (fun h16 => ?_)
                                · skip
                                  refine g_cond_t rfl (g_seq (g_ops ?_))
                                  refine g_val rfl rfl rfl (y_assign rfl) ?_
                                  refine g_nil (g_then (g_ret (g_in_ret (g_then_ret (g_then_ret (g_in_ret (g_then_ret ?_)))))))
                                  refine g_end1 Tryd.results4 rfl ?_
                                  exfalso
                                  first | omega | (have := hdig j (by omega) (by omega); omega) | (simp_all; done)
                                · skip
                                  refine g_cond_f rfl (g_skip (g_in_normal (g_then (g_ops ?_))))
                                  refine g_val rfl rfl rfl (y_move rfl) ?_
                                  refine g_val rfl rfl rfl (by first | exact y_addi rfl rfl (by first | omega | (simp only [size_mk, ByteArray.size_append, ByteArray.size_extract]; omega)) | exact y_iadd rfl rfl) ?_
                                  refine g_val rfl rfl rfl (y_assign rfl) ?_
                                  refine g_nil ?_
                                  exact g_again ⟨j + 1, by omega, by omega⟩ [0, 1, 7, 9, 10, 11, 12, 13] (by dsimp only; omega) rfl (fun w h => h.sub .slnil)
                            · skip
                              refine g_cond_f rfl (g_exit (g_then_exit (g_then_exit (g_in_exit (g_then (g_seq (g_ops ?_)))))))
                              refine g_val rfl rfl rfl (y_move rfl) ?_
                              refine g_call1 rfl rfl rfl Tryd.call11 (fun w hS => ends_any wd (by omega) hwo w) ?_
                              refine g_val rfl rfl rfl (y_assign rfl) ?_
                              refine g_nil (g_then (g_seq (g_ops ?_)))
                              refine g_val rfl rfl rfl (y_move rfl) ?_
                              refine g_call1 rfl rfl rfl Tryd.call11 (fun w hS => ends_any rs (by omega) hro w) ?_
                              refine g_val rfl rfl rfl (y_assign rfl) ?_
                              refine g_nil (g_then (g_seq (g_ops ?_)))
                              refine g_call1 rfl rfl rfl Tryd.call6 (fun w hS => alive_any w) ?_
                              refine g_val rfl rfl rfl (y_move rfl) ?_
                              first | refine g_casep 124 rfl (fun h17 => ?_) (fun h17 => ?_) | refine g_caseb 124 rfl (fun h17 => ?_) (fun h17 => ?_)
                              · skip
                                refine g_val rfl rfl rfl (y_move rfl) ?_
                                refine g_val rfl rfl rfl (y_pick_t rfl rfl) ?_
                                refine g_val rfl rfl rfl (y_move rfl) ?_
                                first | refine g_casep 127 rfl (fun h18 => ?_) (fun h18 => ?_) | refine g_caseb 127 rfl (fun h18 => ?_) (fun h18 => ?_)
                                · skip
                                  refine g_val rfl rfl rfl (y_move rfl) ?_
                                  refine g_val rfl rfl rfl (y_pick_t rfl rfl) ?_
                                  refine g_val rfl rfl rfl (y_move rfl) ?_
                                  first | refine g_casep 130 rfl (fun h19 => ?_) (fun h19 => ?_) | refine g_caseb 130 rfl (fun h19 => ?_) (fun h19 => ?_)
                                  · skip
                                    refine g_val rfl rfl rfl (y_move rfl) ?_
                                    refine g_val rfl rfl rfl (y_move rfl) ?_
                                    refine g_val rfl rfl rfl (y_slen rfl Tryd.underlying9) ?_
                                    refine g_val rfl rfl rfl (y_ieq rfl rfl) ?_
                                    refine g_val rfl rfl rfl (y_move rfl) ?_
                                    first | refine g_casep 135 rfl (fun h20 => ?_) (fun h20 => ?_) | refine g_caseb 135 rfl (fun h20 => ?_) (fun h20 => ?_)
                                    · skip
                                      refine g_not rfl rfl rfl ?_
                                      refine g_not rfl rfl rfl ?_
                                      refine g_not rfl rfl rfl ?_
                                      refine g_not rfl rfl rfl ?_
                                      refine g_val rfl rfl rfl (y_pick_t rfl rfl) ?_
                                      refine g_val rfl rfl rfl (y_pick_t rfl rfl) ?_
                                      refine g_val rfl rfl rfl (y_move rfl) ?_
                                      refine g_val rfl rfl rfl (y_move rfl) ?_
                                      refine g_val rfl rfl rfl (y_move rfl) ?_
                                      refine g_val rfl rfl rfl (y_slen rfl Tryd.underlying9) ?_
                                      refine g_val rfl rfl rfl (y_ieq rfl rfl) ?_
                                      refine g_val rfl rfl rfl (y_move rfl) ?_
                                      first | refine g_casep 147 rfl (fun h21 => ?_) (fun h21 => ?_) | refine g_caseb 147 rfl (fun h21 => ?_) (fun h21 => ?_)
                                      · skip
                                        refine g_not rfl rfl rfl ?_
                                        refine g_not rfl rfl rfl ?_
                                        refine g_not rfl rfl rfl ?_
                                        refine g_not rfl rfl rfl ?_
                                        refine g_val rfl rfl rfl (y_pick_t rfl rfl) ?_
                                        refine g_val rfl rfl rfl (y_move rfl) ?_
                                        refine g_not rfl rfl rfl ?_
                                        refine g_not rfl rfl rfl ?_
                                        refine g_not rfl rfl rfl ?_
                                        refine g_not rfl rfl rfl ?_
                                        refine g_val rfl rfl rfl (y_pick_t rfl rfl) ?_
                                        refine g_val rfl rfl rfl (y_pick_t rfl rfl) ?_
                                        refine g_val rfl rfl rfl (y_assign rfl) ?_
                                        refine g_nil (g_then (g_ret ?_))
                                        refine g_end1 Tryd.results4 rfl ?_
                                        exact fun w hS => ⟨rfl, hS.below⟩
                                      · skip
                                        refine g_val rfl rfl rfl (y_move rfl) ?_
                                        refine g_val rfl rfl rfl (y_move rfl) ?_
                                        refine g_val rfl rfl rfl (y_sat rfl rfl Tryd.underlying9 (by omega) (by omega)) ?_
                                        refine g_val rfl rfl rfl (y_ieq rfl rfl) ?_
                                        refine g_val rfl rfl rfl (y_pick_f rfl rfl) ?_
                                        refine g_val rfl rfl rfl (y_move rfl) ?_
                                        first | refine g_casep 153 rfl (fun h22 => ?_) (fun h22 => ?_) | refine g_caseb 153 rfl (fun h22 => ?_) (fun h22 => ?_)
                                        · skip
                                          refine g_not rfl rfl rfl ?_
                                          refine g_not rfl rfl rfl ?_
                                          refine g_not rfl rfl rfl ?_
                                          refine g_not rfl rfl rfl ?_
                                          refine g_val rfl rfl rfl (y_pick_t rfl rfl) ?_
                                          refine g_val rfl rfl rfl (y_pick_t rfl rfl) ?_
                                          refine g_val rfl rfl rfl (y_assign rfl) ?_
                                          refine g_nil (g_then (g_ret ?_))
                                          refine g_end1 Tryd.results4 rfl ?_
                                          exact fun w hS => ⟨rfl, hS.below⟩
                                        · skip
                                          refine g_val rfl rfl rfl (y_move rfl) ?_
                                          refine g_val rfl rfl rfl (y_move rfl) ?_
                                          refine g_val rfl rfl rfl (y_sat rfl rfl Tryd.underlying9 (by omega) (by omega)) ?_
                                          refine g_val rfl rfl rfl (y_ieq rfl rfl) ?_
                                          refine g_val rfl rfl rfl (y_pick_f rfl rfl) ?_
                                          refine g_val rfl rfl rfl (y_pick_t rfl rfl) ?_
                                          refine g_val rfl rfl rfl (y_assign rfl) ?_
                                          refine g_nil (g_then (g_ret ?_))
                                          refine g_end1 Tryd.results4 rfl ?_
                                          exact fun w hS => ⟨ret_bool (by first | (simp_all; done) | (simp; omega)), hS.below⟩
                                    · skip
                                      refine g_val rfl rfl rfl (y_move rfl) ?_
                                      refine g_val rfl rfl rfl (y_move rfl) ?_
                                      refine g_val rfl rfl rfl (y_sat rfl rfl Tryd.underlying9 (by omega) (by omega)) ?_
                                      refine g_val rfl rfl rfl (y_ieq rfl rfl) ?_
                                      refine g_val rfl rfl rfl (y_pick_f rfl rfl) ?_
                                      refine g_val rfl rfl rfl (y_pick_t rfl rfl) ?_
                                      refine g_val rfl rfl rfl (y_move rfl) ?_
                                      first | refine g_casep 142 rfl (fun h23 => ?_) (fun h23 => ?_) | refine g_caseb 142 rfl (fun h23 => ?_) (fun h23 => ?_)
                                      · skip
                                        refine g_val rfl rfl rfl (y_move rfl) ?_
                                        refine g_val rfl rfl rfl (y_move rfl) ?_
                                        refine g_val rfl rfl rfl (y_slen rfl Tryd.underlying9) ?_
                                        refine g_val rfl rfl rfl (y_ieq rfl rfl) ?_
                                        refine g_val rfl rfl rfl (y_move rfl) ?_
                                        first | refine g_casep 147 rfl (fun h24 => ?_) (fun h24 => ?_) | refine g_caseb 147 rfl (fun h24 => ?_) (fun h24 => ?_)
                                        · skip
                                          refine g_not rfl rfl rfl ?_
                                          refine g_not rfl rfl rfl ?_
                                          refine g_not rfl rfl rfl ?_
                                          refine g_not rfl rfl rfl ?_
                                          refine g_val rfl rfl rfl (y_pick_t rfl rfl) ?_
                                          refine g_val rfl rfl rfl (y_move rfl) ?_
                                          refine g_not rfl rfl rfl ?_
                                          refine g_not rfl rfl rfl ?_
                                          refine g_not rfl rfl rfl ?_
                                          refine g_not rfl rfl rfl ?_
                                          refine g_val rfl rfl rfl (y_pick_t rfl rfl) ?_
                                          refine g_val rfl rfl rfl (y_pick_t rfl rfl) ?_
                                          refine g_val rfl rfl rfl (y_assign rfl) ?_
                                          refine g_nil (g_then (g_ret ?_))
                                          refine g_end1 Tryd.results4 rfl ?_
                                          exact fun w hS => ⟨rfl, hS.below⟩
                                        · skip
                                          refine g_val rfl rfl rfl (y_move rfl) ?_
                                          refine g_val rfl rfl rfl (y_move rfl) ?_
                                          refine g_val rfl rfl rfl (y_sat rfl rfl Tryd.underlying9 (by omega) (by omega)) ?_
                                          refine g_val rfl rfl rfl (y_ieq rfl rfl) ?_
                                          refine g_val rfl rfl rfl (y_pick_f rfl rfl) ?_
                                          refine g_val rfl rfl rfl (y_move rfl) ?_
                                          first | refine g_casep 153 rfl (fun h25 => ?_) (fun h25 => ?_) | refine g_caseb 153 rfl (fun h25 => ?_) (fun h25 => ?_)
                                          · skip
                                            refine g_not rfl rfl rfl ?_
                                            refine g_not rfl rfl rfl ?_
                                            refine g_not rfl rfl rfl ?_
                                            refine g_not rfl rfl rfl ?_
                                            refine g_val rfl rfl rfl (y_pick_t rfl rfl) ?_
                                            refine g_val rfl rfl rfl (y_pick_t rfl rfl) ?_
                                            refine g_val rfl rfl rfl (y_assign rfl) ?_
                                            refine g_nil (g_then (g_ret ?_))
                                            refine g_end1 Tryd.results4 rfl ?_
                                            exact fun w hS => ⟨rfl, hS.below⟩
                                          · skip
                                            refine g_val rfl rfl rfl (y_move rfl) ?_
                                            refine g_val rfl rfl rfl (y_move rfl) ?_
                                            refine g_val rfl rfl rfl (y_sat rfl rfl Tryd.underlying9 (by omega) (by omega)) ?_
                                            refine g_val rfl rfl rfl (y_ieq rfl rfl) ?_
                                            refine g_val rfl rfl rfl (y_pick_f rfl rfl) ?_
                                            refine g_val rfl rfl rfl (y_pick_t rfl rfl) ?_
                                            refine g_val rfl rfl rfl (y_assign rfl) ?_
                                            refine g_nil (g_then (g_ret ?_))
                                            refine g_end1 Tryd.results4 rfl ?_
                                            exact fun w hS => ⟨ret_bool (by first | (simp_all; done) | (simp; omega)), hS.below⟩
                                      · skip
                                        refine g_not rfl rfl rfl ?_
                                        refine g_not rfl rfl rfl ?_
                                        refine g_not rfl rfl rfl ?_
                                        refine g_not rfl rfl rfl ?_
                                        refine g_not rfl rfl rfl ?_
                                        refine g_not rfl rfl rfl ?_
                                        refine g_not rfl rfl rfl ?_
                                        refine g_not rfl rfl rfl ?_
                                        refine g_not rfl rfl rfl ?_
                                        refine g_not rfl rfl rfl ?_
                                        refine g_not rfl rfl rfl ?_
                                        refine g_not rfl rfl rfl ?_
                                        refine g_not rfl rfl rfl ?_
                                        refine g_not rfl rfl rfl ?_
                                        refine g_not rfl rfl rfl ?_
                                        refine g_not rfl rfl rfl ?_
                                        refine g_val rfl rfl rfl (y_pick_f rfl rfl) ?_
                                        refine g_val rfl rfl rfl (y_assign rfl) ?_
                                        refine g_nil (g_then (g_ret ?_))
                                        refine g_end1 Tryd.results4 rfl ?_
                                        exfalso
                                        first | omega | (have := hdig j (by omega) (by omega); omega) | (simp_all; done)
                                  · skip
                                    refine g_not rfl rfl rfl ?_
                                    refine g_not rfl rfl rfl ?_
                                    refine g_not rfl rfl rfl ?_
                                    refine g_not rfl rfl rfl ?_
                                    refine g_not rfl rfl rfl ?_
                                    refine g_not rfl rfl rfl ?_
                                    refine g_not rfl rfl rfl ?_
                                    refine g_not rfl rfl rfl ?_
                                    refine g_not rfl rfl rfl ?_
                                    refine g_not rfl rfl rfl ?_
                                    refine g_val rfl rfl rfl (y_pick_f rfl rfl) ?_
                                    refine g_val rfl rfl rfl (y_move rfl) ?_
                                    refine g_not rfl rfl rfl ?_
                                    refine g_not rfl rfl rfl ?_
                                    refine g_not rfl rfl rfl ?_
                                    refine g_not rfl rfl rfl ?_
                                    refine g_not rfl rfl rfl ?_
                                    refine g_not rfl rfl rfl ?_
                                    refine g_not rfl rfl rfl ?_
                                    refine g_not rfl rfl rfl ?_
                                    refine g_not rfl rfl rfl ?_
                                    refine g_not rfl rfl rfl ?_
                                    refine g_not rfl rfl rfl ?_
                                    refine g_not rfl rfl rfl ?_
                                    refine g_not rfl rfl rfl ?_
                                    refine g_not rfl rfl rfl ?_
                                    refine g_not rfl rfl rfl ?_
                                    refine g_not rfl rfl rfl ?_
                                    refine g_val rfl rfl rfl (y_pick_f rfl rfl) ?_
                                    refine g_val rfl rfl rfl (y_assign rfl) ?_
                                    refine g_nil (g_then (g_ret ?_))
                                    refine g_end1 Tryd.results4 rfl ?_
                                    exfalso
                                    first | omega | (have := hdig j (by omega) (by omega); omega) | (simp_all; done)
                                · skip
                                  refine g_not rfl rfl rfl ?_
                                  refine g_val rfl rfl rfl (y_pick_f rfl rfl) ?_
                                  refine g_val rfl rfl rfl (y_move rfl) ?_
                                  refine g_not rfl rfl rfl ?_
                                  refine g_not rfl rfl rfl ?_
                                  refine g_not rfl rfl rfl ?_
                                  refine g_not rfl rfl rfl ?_
                                  refine g_not rfl rfl rfl ?_
                                  refine g_not rfl rfl rfl ?_
                                  refine g_not rfl rfl rfl ?_
                                  refine g_not rfl rfl rfl ?_
                                  refine g_not rfl rfl rfl ?_
                                  refine g_not rfl rfl rfl ?_
                                  refine g_val rfl rfl rfl (y_pick_f rfl rfl) ?_
                                  refine g_val rfl rfl rfl (y_move rfl) ?_
                                  refine g_not rfl rfl rfl ?_
                                  refine g_not rfl rfl rfl ?_
                                  refine g_not rfl rfl rfl ?_
                                  refine g_not rfl rfl rfl ?_
                                  refine g_not rfl rfl rfl ?_
                                  refine g_not rfl rfl rfl ?_
                                  refine g_not rfl rfl rfl ?_
                                  refine g_not rfl rfl rfl ?_
                                  refine g_not rfl rfl rfl ?_
                                  refine g_not rfl rfl rfl ?_
                                  refine g_not rfl rfl rfl ?_
                                  refine g_not rfl rfl rfl ?_
                                  refine g_not rfl rfl rfl ?_
                                  refine g_not rfl rfl rfl ?_
                                  refine g_not rfl rfl rfl ?_
                                  refine g_not rfl rfl rfl ?_
                                  refine g_val rfl rfl rfl (y_pick_f rfl rfl) ?_
                                  refine g_val rfl rfl rfl (y_assign rfl) ?_
                                  refine g_nil (g_then (g_ret ?_))
                                  refine g_end1 Tryd.results4 rfl ?_
                                  exfalso
                                  first | omega | (have := hdig j (by omega) (by omega); omega) | (simp_all; done)
                              · skip
                                refine g_not rfl rfl rfl ?_
                                refine g_val rfl rfl rfl (y_pick_f rfl rfl) ?_
                                refine g_val rfl rfl rfl (y_move rfl) ?_
                                refine g_not rfl rfl rfl ?_
                                refine g_val rfl rfl rfl (y_pick_f rfl rfl) ?_
                                refine g_val rfl rfl rfl (y_move rfl) ?_
                                refine g_not rfl rfl rfl ?_
                                refine g_not rfl rfl rfl ?_
                                refine g_not rfl rfl rfl ?_
                                refine g_not rfl rfl rfl ?_
                                refine g_not rfl rfl rfl ?_
                                refine g_not rfl rfl rfl ?_
                                refine g_not rfl rfl rfl ?_
                                refine g_not rfl rfl rfl ?_
                                refine g_not rfl rfl rfl ?_
                                refine g_not rfl rfl rfl ?_
                                refine g_val rfl rfl rfl (y_pick_f rfl rfl) ?_
                                refine g_val rfl rfl rfl (y_move rfl) ?_
                                refine g_not rfl rfl rfl ?_
                                refine g_not rfl rfl rfl ?_
                                refine g_not rfl rfl rfl ?_
                                refine g_not rfl rfl rfl ?_
                                refine g_not rfl rfl rfl ?_
                                refine g_not rfl rfl rfl ?_
                                refine g_not rfl rfl rfl ?_
                                refine g_not rfl rfl rfl ?_
                                refine g_not rfl rfl rfl ?_
                                refine g_not rfl rfl rfl ?_
                                refine g_not rfl rfl rfl ?_
                                refine g_not rfl rfl rfl ?_
                                refine g_not rfl rfl rfl ?_
                                refine g_not rfl rfl rfl ?_
                                refine g_not rfl rfl rfl ?_
                                refine g_not rfl rfl rfl ?_
                                refine g_val rfl rfl rfl (y_pick_f rfl rfl) ?_
                                refine g_val rfl rfl rfl (y_assign rfl) ?_
                                refine g_nil (g_then (g_ret ?_))
                                refine g_end1 Tryd.results4 rfl ?_
                                exfalso
                                first | omega | (have := hdig j (by omega) (by omega); omega) | (simp_all; done)

end Go.Proofs.YtjafkmaolpkbnaaDoor
