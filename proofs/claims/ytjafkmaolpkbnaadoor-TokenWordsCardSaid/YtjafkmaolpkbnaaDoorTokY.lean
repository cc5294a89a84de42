/- A word is itself. -/
import Derived.Test.YtjafkmaolpkbnaaDoorTokX
namespace Go.Proofs.YtjafkmaolpkbnaaDoor
open Go Go.RowKit

def isLet (c : UInt8) : Prop := 97 ≤ c.toNat ∧ c.toNat ≤ 122
theorem let_bl (c : UInt8) (h : isLet c) : isBl c = false := by
  cases hb : isBl c
  · rfl
  · rcases (isBl_iff c).1 hb with rfl | rfl <;> exact absurd h (by unfold isLet; decide)
theorem let_ne (c : UInt8) (h : isLet c) (d : UInt8) (hd : d.toNat < 97) : c ≠ d := by
  rintro rfl; unfold isLet at h; omega
theorem bl_ne (c : UInt8) (h : isBl c = true) : c ≠ 10 ∧ c ≠ 59 := by
  rcases (isBl_iff c).1 h with rfl | rfl <;> exact ⟨by decide, by decide⟩
theorem trR_behind (y : List UInt8) (hy : ∀ c ∈ y, isBl c = true) : ∀ x, trR (x ++ y) = trR x := by
  induction y with
  | nil => intro x; rw [List.append_nil]
  | cons c y ih =>
    intro x
    rw [List.append_cons, ih (fun d hd => hy d (by simp [hd])), trR_snoc, if_pos (hy c (by simp))]
theorem trL_ahead (y : List UInt8) (hy : ∀ c ∈ y, isBl c = true) (x : List UInt8) : trL (y ++ x) = trL x := by
  induction y with
  | nil => rfl
  | cons c y ih =>
    rw [List.cons_append, trL, List.dropWhile_cons, if_pos (hy c (by simp))]
    exact ih (fun d hd => hy d (by simp [hd]))
theorem upL_row (stop : UInt8 → Bool) (x r : List UInt8) (hx : ∀ c ∈ x, stop c = false) (hr : r = [] ∨ ∃ c y, r = c :: y ∧ stop c = true) : upL stop (x ++ r) = x := by
  unfold upL
  induction x with
  | nil =>
    rcases hr with rfl | ⟨c, y, rfl, hc⟩
    · rfl
    · rw [List.nil_append, List.takeWhile_cons, if_neg (by simp [hc])]
  | cons c x ih => rw [List.cons_append, List.takeWhile_cons, if_pos (by simp [hx c (by simp)]), ih (fun d hd => hx d (by simp [hd]))]
theorem up_word (stop : UInt8 → Bool) (s : ByteArray) (b1 x b2 r : List UInt8) (h : s.data.toList = b1 ++ x ++ b2 ++ r) (h1 : ∀ c ∈ b1, isBl c = true) (h2 : ∀ c ∈ b2, isBl c = true) (hs : ∀ c ∈ b1 ++ x ++ b2, stop c = false)
    (hr : r = [] ∨ ∃ c y, r = c :: y ∧ stop c = true) (hx : x = [] ∨ (∃ c y, x = c :: y ∧ isBl c = false) ∧ (∃ c y, x = y ++ [c] ∧ isBl c = false)) : upR stop s 0 = ((⟨x.toArray⟩ : ByteArray), (((b1.length + x.length + b2.length : Nat)) : Int)) := by
  have e1 : upL stop (from_ s 0) = b1 ++ x ++ b2 := by rw [from_zero, h, upL_row stop _ _ hs hr]
  have e2 : trL (trR (b1 ++ x ++ b2)) = x := by
    rw [trR_behind b2 h2]
    rcases hx with rfl | ⟨⟨c, y, hy, hc⟩, d, z, hz, hd⟩
    · have := trR_behind b1 h1 []
      rw [List.nil_append] at this
      rw [List.append_nil, this]; rfl
    · have : trR (b1 ++ x) = b1 ++ x := by rw [hz, ← List.append_assoc, trR_snoc, if_neg (by simp [hd])]
      rw [this, trL_ahead b1 h1, hy, trL, List.dropWhile_cons, if_neg (by simp [hc])]
  unfold upR
  rw [if_pos ⟨by omega, by omega⟩, e1, e2]
  refine Prod.ext rfl ?_
  show (0 : Int) + _ = _
  rw [List.length_append, List.length_append]; omega
theorem let_ends (x : List UInt8) (h : ∀ c ∈ x, isLet c) : x = [] ∨ (∃ c y, x = c :: y ∧ isBl c = false) ∧ (∃ c y, x = y ++ [c] ∧ isBl c = false) := by
  cases x with
  | nil => exact .inl rfl
  | cons c x =>
    refine .inr ⟨⟨c, x, rfl, let_bl c (h c (by simp))⟩, ?_⟩
    have hne : c :: x ≠ [] := by simp
    exact ⟨(c :: x).getLast hne, (c :: x).dropLast, (List.dropLast_concat_getLast hne).symm, let_bl _ (h _ (List.getLast_mem hne))⟩
section
variable (b x e : ByteArray) (hb : ∀ c ∈ b.data.toList, isBl c = true) (hx : ∀ c ∈ x.data.toList, isLet c)
include hb hx
theorem words_free : ∀ c ∈ b.data.toList ++ x.data.toList ++ b.data.toList, c ≠ 10 ∧ c ≠ 59 := by
  intro c hc
  simp only [List.mem_append] at hc
  rcases hc with (hc | hc) | hc
  · exact bl_ne c (hb c hc)
  · exact ⟨let_ne c (hx c hc) _ (by decide), let_ne c (hx c hc) _ (by decide)⟩
  · exact bl_ne c (hb c hc)
theorem words1 (c : UInt8) (he : e.data.toList = [c]) (hc : wordS c = true) : upR wordS (b ++ x ++ b ++ e ++ (⟨#[120]⟩ : ByteArray)) 0 = (x, (b.size : Int) + x.size + b.size) := by
  have := up_word wordS (b ++ x ++ b ++ e ++ (⟨#[120]⟩ : ByteArray)) b.data.toList x.data.toList b.data.toList [c, 120] (by simp only [app_data, he]; simp) hb hb
    (fun d hd => by have := words_free b x hb hx d hd; unfold wordS; simp [this]) (.inr ⟨c, [120], rfl, hc⟩) (let_ends _ hx)
  rw [this, ← (ba_ext rfl : x = _)]
  simp only [dlen]; simp
theorem words2 : upR wordS (b ++ x ++ b) 0 = (x, (b.size : Int) + x.size + b.size) := by
  have := up_word wordS (b ++ x ++ b) b.data.toList x.data.toList b.data.toList [] (by simp only [app_data]; simp) hb hb
    (fun d hd => by have := words_free b x hb hx d hd; unfold wordS; simp [this]) (.inl rfl) (let_ends _ hx)
  rw [this, ← (ba_ext rfl : x = _)]
  simp only [dlen]; simp
theorem words3 : upR restS (b ++ x ++ b ++ (⟨#[59]⟩ : ByteArray) ++ x) 0 = (if x = ⟨#[]⟩ then (⟨#[59]⟩ : ByteArray) else x ++ b ++ (⟨#[59]⟩ : ByteArray) ++ x, (b.size : Int) + x.size + b.size + 1 + x.size) := by
  have hf := words_free b x hb hx
  by_cases h0 : x = ⟨#[]⟩
  · subst h0
    have hbb : ∀ c ∈ b.data.toList ++ b.data.toList, isBl c = true := fun c hc => by rcases List.mem_append.1 hc with q | q <;> exact hb c q
    have := up_word restS (b ++ (⟨#[]⟩ : ByteArray) ++ b ++ (⟨#[59]⟩ : ByteArray) ++ (⟨#[]⟩ : ByteArray)) (b.data.toList ++ b.data.toList) [59] [] [] (by simp only [app_data]; simp) hbb (by simp)
      (fun d hd => by
        rw [List.append_nil] at hd
        rcases List.mem_append.1 hd with q | q
        · have := bl_ne d (hbb d q); unfold restS; simp [this]
        · rw [List.mem_singleton] at q; subst q; rfl) (.inl rfl) (.inr ⟨⟨59, [], rfl, rfl⟩, 59, [], rfl, rfl⟩)
    rw [this, if_pos rfl]
    simp only [List.length_append, dlen]
    refine Prod.ext rfl ?_
    show (((b.size + b.size + 1 + 0 : Nat)) : Int) = (b.size : Int) + ((0 : Nat) : Int) + b.size + 1 + ((0 : Nat) : Int)
    omega
  · rw [if_neg h0]
    have hne : x.data.toList ≠ [] := fun q => h0 (ba_ext q)
    have hl := let_ends _ hx
    rcases hl with hl | ⟨⟨c, y, hy, hc⟩, d, z, hz, hd⟩
    · exact absurd hl hne
    · have := up_word restS (b ++ x ++ b ++ (⟨#[59]⟩ : ByteArray) ++ x) b.data.toList (x.data.toList ++ b.data.toList ++ [59] ++ x.data.toList) [] [] (by simp only [app_data]; simp) hb (by simp)
        (fun d hd => by
          have h3 : d ∈ b.data.toList ++ x.data.toList ++ b.data.toList ∨ d = 59 := by
            simp only [List.mem_append, List.mem_singleton, List.not_mem_nil, or_false] at hd ⊢
            rcases hd with q | (((q | q) | q) | q)
            · exact .inl (.inr q)
            · exact .inl (.inl (.inr q))
            · exact .inl (.inr q)
            · exact .inr q
            · exact .inl (.inl (.inr q))
          rcases h3 with q | q
          · have := (hf d q).1; unfold restS; simp [this]
          · subst q; rfl) (.inl rfl) (.inr ⟨⟨c, y ++ b.data.toList ++ [59] ++ x.data.toList, by rw [hy]; simp, hc⟩, d, x.data.toList ++ b.data.toList ++ [59] ++ z, by rw [List.append_assoc _ z [d], ← hz], hd⟩)
      rw [this]
      refine Prod.ext (ba_ext (by simp only [app_data])).symm ?_
      simp only [List.length_append, dlen, List.length_singleton, List.length_nil]
      first | done | omega
end
theorem bl_byte (k : Int) (h0 : 0 ≤ k) : ((⟨#[32, 9]⟩ : ByteArray).extract (k.tmod 2).toNat (k.tmod 2 + 1).toNat).data.toList = [if k % 2 = 0 then 32 else 9] := by
  rw [Int.tmod_eq_emod_of_nonneg h0]
  have h : k % 2 = 0 ∨ k % 2 = 1 := by omega
  rcases h with h | h <;> rw [h] <;> rfl
theorem bl_more (k : Int) (h0 : 0 ≤ k) (b : ByteArray) (hb : ∀ c ∈ b.data.toList, isBl c = true) : ∀ c ∈ (b ++ (⟨#[32, 9]⟩ : ByteArray).extract (k.tmod 2).toNat (k.tmod 2 + 1).toNat).data.toList, isBl c = true := by
  intro c hc
  rw [app_data, bl_byte k h0, List.mem_append, List.mem_singleton] at hc
  rcases hc with q | q
  · exact hb c q
  · rw [q]; split <;> rfl
theorem bl_size (k : Int) (h0 : 0 ≤ k) (b : ByteArray) : (b ++ (⟨#[32, 9]⟩ : ByteArray).extract (k.tmod 2).toNat (k.tmod 2 + 1).toNat).size = b.size + 1 := by
  rw [← dlen, app_data, bl_byte k h0, List.length_append, dlen]; rfl
theorem let_snoc (s : ByteArray) (j : Int) (h0 : 0 ≤ j) (h1 : j < s.size) (h : ∀ c ∈ btw s 0 j, isLet c) (ha : 97 ≤ bt s j) (hz : bt s j ≤ 122) : ∀ c ∈ btw s 0 (j + 1), isLet c := by
  rw [btw_snoc s 0 j (by omega) h0 h1]
  intro c hc
  rw [List.mem_append, List.mem_singleton] at hc
  rcases hc with q | q
  · exact h c q
  · subst q; unfold isLet; unfold bt at ha hz; omega
theorem btw_all (s : ByteArray) (j : Int) (h : j = s.size) : btw s 0 j = s.data.toList := by
  rw [btw_take, from_zero, List.take_of_length_le]
  rw [dlen]; omega

theorem words_law (s : ByteArray) (n z : Int) (w : World) :
    Calls Tryd.prog 3 #[.string s, .int .i64 n, .int .i64 z] w fun e w' => e = .returned (.bool true) ∧ Below w.heap.size w w' := by
  refine fn_intro Tryd.func3 rfl Tryd.ntmps3 rfl rfl ?_
  refine g_seq (g_ops ?_)
  refine g_val rfl rfl rfl (y_assign rfl) ?_
  refine g_nil (g_then (g_seq (g_seq (g_ops ?_))))
  refine g_val rfl rfl rfl (y_move rfl) ?_
  refine g_val rfl rfl rfl (y_slen rfl Tryd.underlying9) ?_
  refine g_val rfl rfl rfl (y_igt rfl rfl) ?_
  refine g_val rfl rfl rfl (y_move rfl) ?_
  first | refine g_casep 22 rfl (fun h1 => ?_) (fun h1 => ?_) | refine g_caseb 22 rfl (fun h1 => ?_) (fun h1 => ?_)
  · skip
    refine g_not rfl rfl rfl ?_
    refine g_not rfl rfl rfl ?_
    refine g_val rfl rfl rfl (y_pick_t rfl rfl) ?_
    refine g_val rfl rfl rfl (y_move rfl) ?_
    refine g_not rfl rfl rfl ?_
    refine g_not rfl rfl rfl ?_
    refine g_val rfl rfl rfl (y_pick_t rfl rfl) ?_
    refine g_nil (g_then (g_cond_t rfl (g_seq (g_ops ?_))))
    refine g_call1 rfl rfl rfl Tryd.call6 (fun w hS => alive_any w) ?_
    refine g_val rfl rfl rfl (y_assign rfl) ?_
    refine g_nil (g_then (g_ret (g_then_ret ?_)))
    refine g_end1 Tryd.results3 rfl ?_
    exact fun w hS => ⟨ret_bool (by first | (simp_all; done) | (simp; omega)), hS.below⟩
  · skip
    refine g_val rfl rfl rfl (y_move rfl) ?_
    refine g_val rfl rfl rfl (y_ilt rfl rfl) ?_
    refine g_val rfl rfl rfl (y_pick_f rfl rfl) ?_
    refine g_val rfl rfl rfl (y_move rfl) ?_
    first | refine g_casep 26 rfl (fun h2 => ?_) (fun h2 => ?_) | refine g_caseb 26 rfl (fun h2 => ?_) (fun h2 => ?_)
    · skip
      refine g_not rfl rfl rfl ?_
      refine g_not rfl rfl rfl ?_
      refine g_val rfl rfl rfl (y_pick_t rfl rfl) ?_
      refine g_nil (g_then (g_cond_t rfl (g_seq (g_ops ?_))))
      refine g_call1 rfl rfl rfl Tryd.call6 (fun w hS => alive_any w) ?_
      refine g_val rfl rfl rfl (y_assign rfl) ?_
      refine g_nil (g_then (g_ret (g_then_ret ?_)))
      refine g_end1 Tryd.results3 rfl ?_
      exact fun w hS => ⟨ret_bool (by first | (simp_all; done) | (simp; omega)), hS.below⟩
    · skip
      refine g_val rfl rfl rfl (y_move rfl) ?_
      refine g_val rfl rfl rfl (y_igt rfl rfl) ?_
      refine g_val rfl rfl rfl (y_pick_f rfl rfl) ?_
      refine g_nil (g_then ?_)
      first | refine g_casep 29 rfl (fun h3 => ?_) (fun h3 => ?_) | refine g_caseb 29 rfl (fun h3 => ?_) (fun h3 => ?_)
      · skip
        refine g_cond_t rfl (g_seq (g_ops ?_))
        refine g_call1 rfl rfl rfl Tryd.call6 (fun w hS => alive_any w) ?_
        refine g_val rfl rfl rfl (y_assign rfl) ?_
        refine g_nil (g_then (g_ret (g_then_ret ?_)))
        refine g_end1 Tryd.results3 rfl ?_
        exact fun w hS => ⟨ret_bool (by first | (simp_all; done) | (simp; omega)), hS.below⟩
      · skip
        refine g_cond_f rfl (g_skip (g_then (g_seq (g_seq (g_ops ?_)))))
        refine g_val rfl rfl rfl (y_assign rfl) ?_
        refine g_nil (g_then (g_block ?_))
        refine g_loop (α := {x : Int // 0 ≤ x ∧ x ≤ s.size ∧ ∀ c ∈ btw s 0 x, isLet c}) (fun x => [(0, .string s), (1, .int .i64 n), (2, .int .i64 z), (7, .int .i64 x.1)]) (fun x => St w [] []) (fun x => s.size - x.1.toNat) ⟨0, by omega, by omega, by rw [btw_self]; simp⟩ [0, 1, 2, 7] rfl (fun w h => h.sub .slnil) ?_
        rintro ⟨j, hx⟩
        dsimp only
        obtain ⟨hj0, hj1, hw⟩ := hx
        refine g_seq (g_seq (g_ops ?_))
        refine g_val rfl rfl rfl (y_move rfl) ?_
        refine g_val rfl rfl rfl (y_move rfl) ?_
        refine g_val rfl rfl rfl (y_slen rfl Tryd.underlying9) ?_
        refine g_val rfl rfl rfl (y_ilt rfl rfl) ?_
        refine g_nil (g_then ?_)
        first | refine g_casep 34 rfl (fun h4 => ?_) (fun h4 => ?_) | refine g_caseb 34 rfl (fun h4 => ?_) (fun h4 => ?_)
        · skip
          refine g_cond_t rfl (g_skip (g_then (g_seq (g_block (g_seq (g_ops ?_))))))
          refine g_val rfl rfl rfl (y_move rfl) ?_
          refine g_val rfl rfl rfl (y_move rfl) ?_
          refine g_val rfl rfl rfl (y_sat rfl rfl Tryd.underlying9 (by omega) (by omega)) ?_
          refine g_val rfl rfl rfl (y_ilt rfl rfl) ?_
          refine g_val rfl rfl rfl (y_move rfl) ?_
          first | refine g_casep 41 rfl (fun h5 => ?_) (fun h5 => ?_) | refine g_caseb 41 rfl (fun h5 => ?_) (fun h5 => ?_)
          · skip
            refine g_not rfl rfl rfl ?_
            refine g_not rfl rfl rfl ?_
            refine g_not rfl rfl rfl ?_
            refine g_not rfl rfl rfl ?_
            refine g_val rfl rfl rfl (y_pick_t rfl rfl) ?_
            refine g_nil (g_then (g_cond_t rfl (g_seq (g_ops ?_))))
            refine g_call1 rfl rfl rfl Tryd.call6 (fun w hS => alive_any w) ?_
            refine g_val rfl rfl rfl (y_assign rfl) ?_
            refine g_nil (g_then (g_ret (g_in_ret (g_then_ret (g_then_ret (g_in_ret (g_then_ret ?_)))))))
            refine g_end1 Tryd.results3 rfl ?_
            exact fun w hS => ⟨ret_bool (by first | (simp_all; done) | (simp; omega)), hS.below⟩
          · skip
            refine g_val rfl rfl rfl (y_move rfl) ?_
            refine g_val rfl rfl rfl (y_move rfl) ?_
            refine g_val rfl rfl rfl (y_sat rfl rfl Tryd.underlying9 (by omega) (by omega)) ?_
            refine g_val rfl rfl rfl (y_igt rfl rfl) ?_
            refine g_val rfl rfl rfl (y_pick_f rfl rfl) ?_
            refine g_nil (g_then ?_)
            first | refine g_casep 46 rfl (fun h6 => ?_) (fun h6 => ?_) | refine g_caseb 46 rfl (fun h6 => ?_) (fun h6 => ?_)
            · skip
              refine g_cond_t rfl (g_seq (g_ops ?_))
              refine g_call1 rfl rfl rfl Tryd.call6 (fun w hS => alive_any w) ?_
              refine g_val rfl rfl rfl (y_assign rfl) ?_
              refine g_nil (g_then (g_ret (g_in_ret (g_then_ret (g_then_ret (g_in_ret (g_then_ret ?_)))))))
              refine g_end1 Tryd.results3 rfl ?_
              exact fun w hS => ⟨ret_bool (by first | (simp_all; done) | (simp; omega)), hS.below⟩
            · skip
              refine g_cond_f rfl (g_skip (g_in_normal (g_then (g_ops ?_))))
              refine g_val rfl rfl rfl (y_move rfl) ?_
              refine g_val rfl rfl rfl (by first | exact y_addi rfl rfl (by first | omega | (simp only [size_mk, ByteArray.size_append, ByteArray.size_extract]; omega)) | exact y_iadd rfl rfl) ?_
              refine g_val rfl rfl rfl (y_assign rfl) ?_
              refine g_nil ?_
              exact g_again ⟨j + 1, by omega, by omega, let_snoc s j (by omega) (by omega) hw (by omega) (by omega)⟩ [0, 1, 2, 7] (by dsimp only; omega) rfl (fun w h => h.sub .slnil)
        · skip
          refine g_cond_f rfl (g_exit (g_then_exit (g_then_exit (g_in_exit (g_then (g_seq (g_ops ?_)))))))
          refine g_val rfl rfl rfl (y_assign rfl) ?_
          refine g_nil (g_then (g_seq (g_seq (g_ops ?_))))
          refine g_val rfl rfl rfl (y_assign rfl) ?_
          refine g_nil (g_then (g_block ?_))
          refine g_loop (α := {x : Int × ByteArray // 0 ≤ x.1 ∧ x.1 ≤ n ∧ x.2.size = x.1.toNat ∧ ∀ c ∈ x.2.data.toList, isBl c = true}) (fun x => [(0, .string s), (1, .int .i64 n), (2, .int .i64 z), (8, .string x.1.2), (9, .int .i64 x.1.1)]) (fun x => St w [] []) (fun x => n.toNat - x.1.1.toNat) ⟨(0, ⟨#[]⟩), by dsimp only; omega, by dsimp only; omega, rfl, by simp⟩ [0, 1, 2, 8, 9] rfl (fun w h => h.sub .slnil) ?_
          rintro ⟨⟨m, b⟩, hx⟩
          dsimp only
          dsimp only at hx
          obtain ⟨hm0, hm1, hbs, hbl⟩ := hx
          have hw2 : ∀ c ∈ s.data.toList, isLet c := by rw [← btw_all s j (by omega)]; exact hw
          have hmm : m.tmod 2 = m % 2 := Int.tmod_eq_emod_of_nonneg hm0
          have hbs2 := bl_size m hm0 b
          refine g_seq (g_seq (g_ops ?_))
          refine g_val rfl rfl rfl (y_move rfl) ?_
          refine g_val rfl rfl rfl (y_move rfl) ?_
          refine g_val rfl rfl rfl (y_ilt rfl rfl) ?_
          refine g_nil (g_then ?_)
          first | refine g_casep 50 rfl (fun h7 => ?_) (fun h7 => ?_) | refine g_caseb 50 rfl (fun h7 => ?_) (fun h7 => ?_)
          · skip
            refine g_cond_t rfl (g_skip (g_then (g_seq (g_block (g_ops ?_)))))
            refine g_val rfl rfl rfl (y_move rfl) ?_
            refine g_val rfl rfl rfl (y_move rfl) ?_
            refine g_val rfl rfl rfl (y_irem rfl rfl (by decide)) ?_
            refine g_val rfl rfl rfl (y_move rfl) ?_
            refine g_val rfl rfl rfl (y_irem rfl rfl (by decide)) ?_
            refine g_val rfl rfl rfl (by first | exact y_addi rfl rfl (by first | omega | (simp only [size_mk, ByteArray.size_append, ByteArray.size_extract]; omega)) | exact y_iadd rfl rfl) ?_
            refine g_val rfl rfl rfl (y_ssl rfl rfl rfl Tryd.underlying9 (by omega) (by omega) (by first | omega | (simp only [size_mk, List.length_cons, List.length_nil]; omega))) ?_
            refine g_val rfl rfl rfl (y_scat rfl rfl (by first | omega | (simp only [ByteArray.size_extract, ByteArray.size_append, size_mk, List.length_append, List.length_cons, List.length_nil] <;> omega))) ?_
            refine g_val rfl rfl rfl (y_assign rfl) ?_
            refine g_nil (g_in_normal (g_then (g_ops ?_)))
            refine g_val rfl rfl rfl (y_move rfl) ?_
            refine g_val rfl rfl rfl (by first | exact y_addi rfl rfl (by first | omega | (simp only [size_mk, ByteArray.size_append, ByteArray.size_extract]; omega)) | exact y_iadd rfl rfl) ?_
            refine g_val rfl rfl rfl (y_assign rfl) ?_
            refine g_nil ?_
            exact g_again ⟨(m + 1, _), by dsimp only; omega, by dsimp only; omega, by dsimp only; rw [hbs2]; omega, bl_more m (by omega) b hbl⟩ [0, 1, 2, 8, 9] (by dsimp only; omega) rfl (fun w h => h.sub .slnil)
          · skip
            refine g_cond_f rfl (g_exit (g_then_exit (g_then_exit (g_in_exit (g_then (g_seq (g_ops ?_)))))))
            refine g_val rfl rfl rfl (y_assign rfl) ?_
            refine g_nil (g_then (g_seq (g_seq (g_ops ?_))))
            refine g_val rfl rfl rfl (y_move rfl) ?_
            refine g_val rfl rfl rfl (y_igt rfl rfl) ?_
            refine g_nil (g_then ?_)
            first | refine g_casep 62 rfl (fun h8 => ?_) (fun h8 => ?_) | refine g_caseb 62 rfl (fun h8 => ?_) (fun h8 => ?_)
            · skip
              refine g_cond_t rfl (g_ops ?_)
              refine g_buildSlice (offs := [0]) rfl rfl Tryd.underlying23 rfl Tryd.zeroValue5 (by kernel_rfl) (fun b1 => ?_)
              refine g_val rfl rfl rfl (y_cellsStr (l := [10]) 0 rfl Tryd.underlying23 Tryd.underlying9 Tryd.underlying5 rfl rfl rfl) ?_
              refine g_val rfl rfl rfl (y_assign rfl) ?_
              refine g_nil (g_then (g_seq (g_ops ?_)))
              refine g_val rfl rfl rfl (y_move rfl) ?_
              refine g_val rfl rfl rfl (y_move rfl) ?_
              refine g_val rfl rfl rfl (y_scat rfl rfl (by first | omega | (simp only [ByteArray.size_extract, ByteArray.size_append, size_mk, List.length_append, List.length_cons, List.length_nil] <;> omega))) ?_
              refine g_val rfl rfl rfl (y_move rfl) ?_
              refine g_val rfl rfl rfl (y_scat rfl rfl (by first | omega | (simp only [ByteArray.size_extract, ByteArray.size_append, size_mk, List.length_append, List.length_cons, List.length_nil] <;> omega))) ?_
              refine g_val rfl rfl rfl (y_move rfl) ?_
              refine g_val rfl rfl rfl (y_scat rfl rfl (by first | omega | (simp only [ByteArray.size_extract, ByteArray.size_append, size_mk, List.length_append, List.length_cons, List.length_nil] <;> omega))) ?_
              refine g_val rfl rfl rfl (y_scat rfl rfl (by first | omega | (simp only [ByteArray.size_extract, ByteArray.size_append, size_mk, List.length_append, List.length_cons, List.length_nil] <;> omega))) ?_
              refine g_call1 (v := .tuple #[.string s, .int .i64 ((b.size : Int) + s.size + b.size)]) rfl rfl rfl Tryd.call7 (fun w hS => word_any _ 0 (s, (b.size : Int) + s.size + b.size) (by simp only [ByteArray.size_append, size_mk, List.length_cons, List.length_nil]; first | omega | (have : (⟨#[59]⟩ : ByteArray).size = 1 := rfl; have : (⟨#[120]⟩ : ByteArray).size = 1 := rfl; omega)) (by first | exact words1 b s _ hbl hw2 10 rfl rfl | exact words1 b s _ hbl hw2 59 rfl rfl) w) ?_
              refine g_val rfl rfl rfl (y_move rfl) ?_
              refine g_val rfl rfl rfl (y_extract rfl rfl) ?_
              refine g_val rfl rfl rfl (y_extract rfl rfl) ?_
              refine g_val rfl rfl rfl (y_assign rfl) ?_
              refine g_val rfl rfl rfl (y_assign rfl) ?_
              refine g_nil (g_then (g_seq (g_ops ?_)))
              refine g_val rfl rfl rfl (y_move rfl) ?_
              refine g_val rfl rfl rfl (y_move rfl) ?_
              refine g_val rfl rfl rfl (y_scat rfl rfl (by first | omega | (simp only [ByteArray.size_extract, ByteArray.size_append, size_mk, List.length_append, List.length_cons, List.length_nil] <;> omega))) ?_
              refine g_val rfl rfl rfl (y_move rfl) ?_
              refine g_val rfl rfl rfl (y_scat rfl rfl (by first | omega | (simp only [ByteArray.size_extract, ByteArray.size_append, size_mk, List.length_append, List.length_cons, List.length_nil] <;> omega))) ?_
              refine g_call1 (v := .tuple #[.string s, .int .i64 ((b.size : Int) + s.size + b.size)]) rfl rfl rfl Tryd.call7 (fun w hS => word_any _ 0 (s, (b.size : Int) + s.size + b.size) (by simp only [ByteArray.size_append, size_mk, List.length_cons, List.length_nil]; first | omega | (have : (⟨#[59]⟩ : ByteArray).size = 1 := rfl; have : (⟨#[120]⟩ : ByteArray).size = 1 := rfl; omega)) (words2 b s hbl hw2) w) ?_
              refine g_val rfl rfl rfl (y_move rfl) ?_
              refine g_val rfl rfl rfl (y_extract rfl rfl) ?_
              refine g_val rfl rfl rfl (y_extract rfl rfl) ?_
              refine g_val rfl rfl rfl (y_assign rfl) ?_
              refine g_val rfl rfl rfl (y_assign rfl) ?_
              refine g_nil (g_then (g_seq (g_ops ?_)))
              refine g_val rfl rfl rfl (y_move rfl) ?_
              refine g_val rfl rfl rfl (y_move rfl) ?_
              refine g_val rfl rfl rfl (y_scat rfl rfl (by first | omega | (simp only [ByteArray.size_extract, ByteArray.size_append, size_mk, List.length_append, List.length_cons, List.length_nil] <;> omega))) ?_
              refine g_val rfl rfl rfl (y_move rfl) ?_
              refine g_val rfl rfl rfl (y_scat rfl rfl (by first | omega | (simp only [ByteArray.size_extract, ByteArray.size_append, size_mk, List.length_append, List.length_cons, List.length_nil] <;> omega))) ?_
              refine g_val rfl rfl rfl (y_scat rfl rfl (by first | omega | (simp only [ByteArray.size_extract, ByteArray.size_append, size_mk, List.length_append, List.length_cons, List.length_nil] <;> omega))) ?_
              refine g_val rfl rfl rfl (y_move rfl) ?_
              refine g_val rfl rfl rfl (y_scat rfl rfl (by first | omega | (simp only [ByteArray.size_extract, ByteArray.size_append, size_mk, List.length_append, List.length_cons, List.length_nil] <;> omega))) ?_
              refine g_call1 (v := .tuple #[.string (if s = ⟨#[]⟩ then (⟨#[59]⟩ : ByteArray) else s ++ b ++ (⟨#[59]⟩ : ByteArray) ++ s), .int .i64 ((b.size : Int) + s.size + b.size + 1 + s.size)]) rfl rfl rfl Tryd.call8 (fun w hS => rest_any _ 0 (if s = ⟨#[]⟩ then (⟨#[59]⟩ : ByteArray) else s ++ b ++ (⟨#[59]⟩ : ByteArray) ++ s, (b.size : Int) + s.size + b.size + 1 + s.size) (by simp only [ByteArray.size_append, size_mk, List.length_cons, List.length_nil]; first | omega | (have : (⟨#[59]⟩ : ByteArray).size = 1 := rfl; have : (⟨#[120]⟩ : ByteArray).size = 1 := rfl; omega)) (words3 b s hbl hw2) w) ?_
              refine g_val rfl rfl rfl (y_move rfl) ?_
              refine g_val rfl rfl rfl (y_extract rfl rfl) ?_
              refine g_val rfl rfl rfl (y_extract rfl rfl) ?_
              refine g_val rfl rfl rfl (y_assign rfl) ?_
              refine g_val rfl rfl rfl (y_assign rfl) ?_
              refine g_nil (g_then (g_seq (g_ops ?_)))
              refine g_val rfl rfl rfl (y_move rfl) ?_
              refine g_val rfl rfl rfl (y_slen rfl Tryd.underlying9) ?_
              refine g_val rfl rfl rfl (y_move rfl) ?_
              refine g_val rfl rfl rfl (y_slen rfl Tryd.underlying9) ?_
              refine g_val rfl rfl rfl (by first | exact y_addi rfl rfl (by first | omega | (simp only [size_mk, ByteArray.size_append, ByteArray.size_extract]; omega)) | exact y_iadd rfl rfl) ?_
              refine g_val rfl rfl rfl (y_move rfl) ?_
              refine g_val rfl rfl rfl (y_slen rfl Tryd.underlying9) ?_
              refine g_val rfl rfl rfl (by first | exact y_addi rfl rfl (by first | omega | (simp only [size_mk, ByteArray.size_append, ByteArray.size_extract]; omega)) | exact y_iadd rfl rfl) ?_
              refine g_val rfl rfl rfl (y_assign rfl) ?_
              refine g_nil (g_then (g_seq (g_ops ?_)))
              refine g_val rfl rfl rfl (y_move rfl) ?_
              refine g_val rfl rfl rfl (y_move rfl) ?_
              refine g_val rfl rfl rfl (y_scat rfl rfl (by first | omega | (simp only [ByteArray.size_extract, ByteArray.size_append, size_mk, List.length_append, List.length_cons, List.length_nil] <;> omega))) ?_
              refine g_val rfl rfl rfl (y_scat rfl rfl (by first | omega | (simp only [ByteArray.size_extract, ByteArray.size_append, size_mk, List.length_append, List.length_cons, List.length_nil] <;> omega))) ?_
              refine g_val rfl rfl rfl (y_move rfl) ?_
              refine g_val rfl rfl rfl (y_scat rfl rfl (by first | omega | (simp only [ByteArray.size_extract, ByteArray.size_append, size_mk, List.length_append, List.length_cons, List.length_nil] <;> omega))) ?_
              refine g_val rfl rfl rfl (y_assign rfl) ?_
              refine g_nil (g_then (g_seq (g_seq (g_ops ?_))))
              refine g_val rfl rfl rfl (y_move rfl) ?_
              refine g_val rfl rfl rfl (y_seq rfl rfl) ?_
              refine g_nil (g_then ?_)
              first | refine g_casep 113 rfl (fun h9 => ?_) (fun h9 => ?_) | refine g_caseb 113 rfl (fun h9 => ?_) (fun h9 => ?_)
              · skip
                refine g_cond_t rfl (g_ops ?_)
                refine g_val rfl rfl rfl (y_assign rfl) ?_
                refine g_nil (g_then (g_seq (g_ops ?_)))
                refine g_call1 rfl rfl rfl Tryd.call6 (fun w hS => alive_any w) ?_
                refine g_val rfl rfl rfl (y_move rfl) ?_
                first | refine g_casep 115 rfl (fun h10 => ?_) (fun h10 => ?_) | refine g_caseb 115 rfl (fun h10 => ?_) (fun h10 => ?_)
                · skip
                  refine g_val rfl rfl rfl (y_move rfl) ?_
                  refine g_val rfl rfl rfl (y_move rfl) ?_
                  refine g_val rfl rfl rfl (y_seq rfl rfl) ?_
                  refine g_val rfl rfl rfl (y_pick_t rfl rfl) ?_
                  refine g_val rfl rfl rfl (y_move rfl) ?_
                  first | refine g_casep 120 rfl (fun h11 => ?_) (fun h11 => ?_) | refine g_caseb 120 rfl (fun h11 => ?_) (fun h11 => ?_)
                  · skip
                    refine g_val rfl rfl rfl (y_move rfl) ?_
                    refine g_val rfl rfl rfl (y_move rfl) ?_
                    refine g_val rfl rfl rfl (y_seq rfl rfl) ?_
                    refine g_val rfl rfl rfl (y_pick_t rfl rfl) ?_
                    refine g_val rfl rfl rfl (y_move rfl) ?_
                    first | refine g_casep 125 rfl (fun h12 => ?_) (fun h12 => ?_) | refine g_caseb 125 rfl (fun h12 => ?_) (fun h12 => ?_)
                    · skip
                      refine g_val rfl rfl rfl (y_move rfl) ?_
                      refine g_val rfl rfl rfl (y_move rfl) ?_
                      refine g_val rfl rfl rfl (y_ieq rfl rfl) ?_
                      refine g_val rfl rfl rfl (y_pick_t rfl rfl) ?_
                      refine g_val rfl rfl rfl (y_move rfl) ?_
                      first | refine g_casep 130 rfl (fun h13 => ?_) (fun h13 => ?_) | refine g_caseb 130 rfl (fun h13 => ?_) (fun h13 => ?_)
                      · skip
                        refine g_val rfl rfl rfl (y_move rfl) ?_
                        refine g_val rfl rfl rfl (y_move rfl) ?_
                        refine g_val rfl rfl rfl (y_ieq rfl rfl) ?_
                        refine g_val rfl rfl rfl (y_pick_t rfl rfl) ?_
                        refine g_val rfl rfl rfl (y_move rfl) ?_
                        first | refine g_casep 135 rfl (fun h14 => ?_) (fun h14 => ?_) | refine g_caseb 135 rfl (fun h14 => ?_) (fun h14 => ?_)
                        · skip
                          refine g_val rfl rfl rfl (y_move rfl) ?_
                          refine g_val rfl rfl rfl (y_move rfl) ?_
                          refine g_val rfl rfl rfl (y_seq rfl rfl) ?_
                          refine g_val rfl rfl rfl (y_pick_t rfl rfl) ?_
                          refine g_val rfl rfl rfl (y_move rfl) ?_
                          first | refine g_casep 140 rfl (fun h15 => ?_) (fun h15 => ?_) | refine g_caseb 140 rfl (fun h15 => ?_) (fun h15 => ?_)
                          · skip
                            refine g_val rfl rfl rfl (y_move rfl) ?_
                            refine g_val rfl rfl rfl (y_move rfl) ?_
                            refine g_val rfl rfl rfl (by first | exact y_addi rfl rfl (by first | omega | (simp only [size_mk, ByteArray.size_append, ByteArray.size_extract]; omega)) | exact y_iadd rfl rfl) ?_
                            refine g_val rfl rfl rfl (y_move rfl) ?_
                            refine g_val rfl rfl rfl (y_slen rfl Tryd.underlying9) ?_
                            refine g_val rfl rfl rfl (by first | exact y_addi rfl rfl (by first | omega | (simp only [size_mk, ByteArray.size_append, ByteArray.size_extract]; omega)) | exact y_iadd rfl rfl) ?_
                            refine g_val rfl rfl rfl (y_ieq rfl rfl) ?_
                            refine g_val rfl rfl rfl (y_pick_t rfl rfl) ?_
                            refine g_val rfl rfl rfl (y_assign rfl) ?_
                            refine g_nil (g_then (g_ret ?_))
                            refine g_end1 Tryd.results3 rfl ?_
                            exact fun w hS => ⟨ret_bool (by first | (simp_all; done) | (simp; omega)), hS.below⟩
                          · skip
                            refine g_not rfl rfl rfl ?_
                            refine g_not rfl rfl rfl ?_
                            refine g_not rfl rfl rfl ?_
                            refine g_not rfl rfl rfl ?_
                            refine g_not rfl rfl rfl ?_
                            refine g_not rfl rfl rfl ?_
                            refine g_not rfl rfl rfl ?_
                            refine g_val rfl rfl rfl (y_pick_f rfl rfl) ?_
                            refine g_val rfl rfl rfl (y_assign rfl) ?_
                            refine g_nil (g_then (g_ret ?_))
                            refine g_end1 Tryd.results3 rfl ?_
                            exfalso
                            first | omega | (simp_all; done)
                        · skip
                          refine g_not rfl rfl rfl ?_
                          refine g_not rfl rfl rfl ?_
                          refine g_not rfl rfl rfl ?_
                          refine g_val rfl rfl rfl (y_pick_f rfl rfl) ?_
                          refine g_val rfl rfl rfl (y_move rfl) ?_
                          refine g_not rfl rfl rfl ?_
                          refine g_not rfl rfl rfl ?_
                          refine g_not rfl rfl rfl ?_
                          refine g_not rfl rfl rfl ?_
                          refine g_not rfl rfl rfl ?_
                          refine g_not rfl rfl rfl ?_
                          refine g_not rfl rfl rfl ?_
                          refine g_val rfl rfl rfl (y_pick_f rfl rfl) ?_
                          refine g_val rfl rfl rfl (y_assign rfl) ?_
                          refine g_nil (g_then (g_ret ?_))
                          refine g_end1 Tryd.results3 rfl ?_
                          exfalso
                          first | omega | (simp_all; done)
                      · skip
                        refine g_not rfl rfl rfl ?_
                        refine g_not rfl rfl rfl ?_
                        refine g_not rfl rfl rfl ?_
                        refine g_val rfl rfl rfl (y_pick_f rfl rfl) ?_
                        refine g_val rfl rfl rfl (y_move rfl) ?_
                        refine g_not rfl rfl rfl ?_
                        refine g_not rfl rfl rfl ?_
                        refine g_not rfl rfl rfl ?_
                        refine g_val rfl rfl rfl (y_pick_f rfl rfl) ?_
                        refine g_val rfl rfl rfl (y_move rfl) ?_
                        refine g_not rfl rfl rfl ?_
                        refine g_not rfl rfl rfl ?_
                        refine g_not rfl rfl rfl ?_
                        refine g_not rfl rfl rfl ?_
                        refine g_not rfl rfl rfl ?_
                        refine g_not rfl rfl rfl ?_
                        refine g_not rfl rfl rfl ?_
                        refine g_val rfl rfl rfl (y_pick_f rfl rfl) ?_
                        refine g_val rfl rfl rfl (y_assign rfl) ?_
                        refine g_nil (g_then (g_ret ?_))
                        refine g_end1 Tryd.results3 rfl ?_
                        exfalso
                        first | omega | (simp_all; done)
                    · skip
                      refine g_not rfl rfl rfl ?_
                      refine g_not rfl rfl rfl ?_
                      refine g_not rfl rfl rfl ?_
                      refine g_val rfl rfl rfl (y_pick_f rfl rfl) ?_
                      refine g_val rfl rfl rfl (y_move rfl) ?_
                      refine g_not rfl rfl rfl ?_
                      refine g_not rfl rfl rfl ?_
                      refine g_not rfl rfl rfl ?_
                      refine g_val rfl rfl rfl (y_pick_f rfl rfl) ?_
                      refine g_val rfl rfl rfl (y_move rfl) ?_
                      refine g_not rfl rfl rfl ?_
                      refine g_not rfl rfl rfl ?_
                      refine g_not rfl rfl rfl ?_
                      refine g_val rfl rfl rfl (y_pick_f rfl rfl) ?_
                      refine g_val rfl rfl rfl (y_move rfl) ?_
                      refine g_not rfl rfl rfl ?_
                      refine g_not rfl rfl rfl ?_
                      refine g_not rfl rfl rfl ?_
                      refine g_not rfl rfl rfl ?_
                      refine g_not rfl rfl rfl ?_
                      refine g_not rfl rfl rfl ?_
                      refine g_not rfl rfl rfl ?_
                      refine g_val rfl rfl rfl (y_pick_f rfl rfl) ?_
                      refine g_val rfl rfl rfl (y_assign rfl) ?_
                      refine g_nil (g_then (g_ret ?_))
                      refine g_end1 Tryd.results3 rfl ?_
                      exfalso
                      first | omega | (simp_all; done)
                  · skip
                    refine g_not rfl rfl rfl ?_
                    refine g_not rfl rfl rfl ?_
                    refine g_not rfl rfl rfl ?_
                    refine g_val rfl rfl rfl (y_pick_f rfl rfl) ?_
                    refine g_val rfl rfl rfl (y_move rfl) ?_
                    refine g_not rfl rfl rfl ?_
                    refine g_not rfl rfl rfl ?_
                    refine g_not rfl rfl rfl ?_
                    refine g_val rfl rfl rfl (y_pick_f rfl rfl) ?_
                    refine g_val rfl rfl rfl (y_move rfl) ?_
                    refine g_not rfl rfl rfl ?_
                    refine g_not rfl rfl rfl ?_
                    refine g_not rfl rfl rfl ?_
                    refine g_val rfl rfl rfl (y_pick_f rfl rfl) ?_
                    refine g_val rfl rfl rfl (y_move rfl) ?_
                    refine g_not rfl rfl rfl ?_
                    refine g_not rfl rfl rfl ?_
                    refine g_not rfl rfl rfl ?_
                    refine g_val rfl rfl rfl (y_pick_f rfl rfl) ?_
                    refine g_val rfl rfl rfl (y_move rfl) ?_
                    refine g_not rfl rfl rfl ?_
                    refine g_not rfl rfl rfl ?_
                    refine g_not rfl rfl rfl ?_
                    refine g_not rfl rfl rfl ?_
                    refine g_not rfl rfl rfl ?_
                    refine g_not rfl rfl rfl ?_
                    refine g_not rfl rfl rfl ?_
                    refine g_val rfl rfl rfl (y_pick_f rfl rfl) ?_
                    refine g_val rfl rfl rfl (y_assign rfl) ?_
                    refine g_nil (g_then (g_ret ?_))
                    refine g_end1 Tryd.results3 rfl ?_
                    exfalso
                    first | omega | (simp_all; done)
                · skip
                  refine g_not rfl rfl rfl ?_
                  refine g_not rfl rfl rfl ?_
                  refine g_not rfl rfl rfl ?_
                  refine g_val rfl rfl rfl (y_pick_f rfl rfl) ?_
                  refine g_val rfl rfl rfl (y_move rfl) ?_
                  refine g_not rfl rfl rfl ?_
                  refine g_not rfl rfl rfl ?_
                  refine g_not rfl rfl rfl ?_
                  refine g_val rfl rfl rfl (y_pick_f rfl rfl) ?_
                  refine g_val rfl rfl rfl (y_move rfl) ?_
                  refine g_not rfl rfl rfl ?_
                  refine g_not rfl rfl rfl ?_
                  refine g_not rfl rfl rfl ?_
                  refine g_val rfl rfl rfl (y_pick_f rfl rfl) ?_
                  refine g_val rfl rfl rfl (y_move rfl) ?_
                  refine g_not rfl rfl rfl ?_
                  refine g_not rfl rfl rfl ?_
                  refine g_not rfl rfl rfl ?_
                  refine g_val rfl rfl rfl (y_pick_f rfl rfl) ?_
                  refine g_val rfl rfl rfl (y_move rfl) ?_
                  refine g_not rfl rfl rfl ?_
                  refine g_not rfl rfl rfl ?_
                  refine g_not rfl rfl rfl ?_
                  refine g_val rfl rfl rfl (y_pick_f rfl rfl) ?_
                  refine g_val rfl rfl rfl (y_move rfl) ?_
                  refine g_not rfl rfl rfl ?_
                  refine g_not rfl rfl rfl ?_
                  refine g_not rfl rfl rfl ?_
                  refine g_not rfl rfl rfl ?_
                  refine g_not rfl rfl rfl ?_
                  refine g_not rfl rfl rfl ?_
                  refine g_not rfl rfl rfl ?_
                  refine g_val rfl rfl rfl (y_pick_f rfl rfl) ?_
                  refine g_val rfl rfl rfl (y_assign rfl) ?_
                  refine g_nil (g_then (g_ret ?_))
                  refine g_end1 Tryd.results3 rfl ?_
                  exfalso
                  first | omega | (simp_all; done)
              · skip
                refine g_cond_f rfl (g_skip (g_then (g_seq (g_ops ?_))))
                refine g_call1 rfl rfl rfl Tryd.call6 (fun w hS => alive_any w) ?_
                refine g_val rfl rfl rfl (y_move rfl) ?_
                first | refine g_casep 115 rfl (fun h16 => ?_) (fun h16 => ?_) | refine g_caseb 115 rfl (fun h16 => ?_) (fun h16 => ?_)
                · skip
                  refine g_val rfl rfl rfl (y_move rfl) ?_
                  refine g_val rfl rfl rfl (y_move rfl) ?_
                  refine g_val rfl rfl rfl (y_seq rfl rfl) ?_
                  refine g_val rfl rfl rfl (y_pick_t rfl rfl) ?_
                  refine g_val rfl rfl rfl (y_move rfl) ?_
                  first | refine g_casep 120 rfl (fun h17 => ?_) (fun h17 => ?_) | refine g_caseb 120 rfl (fun h17 => ?_) (fun h17 => ?_)
                  · skip
                    refine g_val rfl rfl rfl (y_move rfl) ?_
                    refine g_val rfl rfl rfl (y_move rfl) ?_
                    refine g_val rfl rfl rfl (y_seq rfl rfl) ?_
                    refine g_val rfl rfl rfl (y_pick_t rfl rfl) ?_
                    refine g_val rfl rfl rfl (y_move rfl) ?_
                    first | refine g_casep 125 rfl (fun h18 => ?_) (fun h18 => ?_) | refine g_caseb 125 rfl (fun h18 => ?_) (fun h18 => ?_)
                    · skip
                      refine g_val rfl rfl rfl (y_move rfl) ?_
                      refine g_val rfl rfl rfl (y_move rfl) ?_
                      refine g_val rfl rfl rfl (y_ieq rfl rfl) ?_
                      refine g_val rfl rfl rfl (y_pick_t rfl rfl) ?_
                      refine g_val rfl rfl rfl (y_move rfl) ?_
                      first | refine g_casep 130 rfl (fun h19 => ?_) (fun h19 => ?_) | refine g_caseb 130 rfl (fun h19 => ?_) (fun h19 => ?_)
                      · skip
                        refine g_val rfl rfl rfl (y_move rfl) ?_
                        refine g_val rfl rfl rfl (y_move rfl) ?_
                        refine g_val rfl rfl rfl (y_ieq rfl rfl) ?_
                        refine g_val rfl rfl rfl (y_pick_t rfl rfl) ?_
                        refine g_val rfl rfl rfl (y_move rfl) ?_
                        first | refine g_casep 135 rfl (fun h20 => ?_) (fun h20 => ?_) | refine g_caseb 135 rfl (fun h20 => ?_) (fun h20 => ?_)
                        · skip
                          refine g_val rfl rfl rfl (y_move rfl) ?_
                          refine g_val rfl rfl rfl (y_move rfl) ?_
                          refine g_val rfl rfl rfl (y_seq rfl rfl) ?_
                          refine g_val rfl rfl rfl (y_pick_t rfl rfl) ?_
                          refine g_val rfl rfl rfl (y_move rfl) ?_
                          first | refine g_casep 140 rfl (fun h21 => ?_) (fun h21 => ?_) | refine g_caseb 140 rfl (fun h21 => ?_) (fun h21 => ?_)
                          · skip
                            refine g_val rfl rfl rfl (y_move rfl) ?_
                            refine g_val rfl rfl rfl (y_move rfl) ?_
                            refine g_val rfl rfl rfl (by first | exact y_addi rfl rfl (by first | omega | (simp only [size_mk, ByteArray.size_append, ByteArray.size_extract]; omega)) | exact y_iadd rfl rfl) ?_
                            refine g_val rfl rfl rfl (y_move rfl) ?_
                            refine g_val rfl rfl rfl (y_slen rfl Tryd.underlying9) ?_
                            refine g_val rfl rfl rfl (by first | exact y_addi rfl rfl (by first | omega | (simp only [size_mk, ByteArray.size_append, ByteArray.size_extract]; omega)) | exact y_iadd rfl rfl) ?_
                            refine g_val rfl rfl rfl (y_ieq rfl rfl) ?_
                            refine g_val rfl rfl rfl (y_pick_t rfl rfl) ?_
                            refine g_val rfl rfl rfl (y_assign rfl) ?_
                            refine g_nil (g_then (g_ret ?_))
                            refine g_end1 Tryd.results3 rfl ?_
                            exact fun w hS => ⟨ret_bool (by first | (simp_all; done) | (simp; omega)), hS.below⟩
                          · skip
                            refine g_not rfl rfl rfl ?_
                            refine g_not rfl rfl rfl ?_
                            refine g_not rfl rfl rfl ?_
                            refine g_not rfl rfl rfl ?_
                            refine g_not rfl rfl rfl ?_
                            refine g_not rfl rfl rfl ?_
                            refine g_not rfl rfl rfl ?_
                            refine g_val rfl rfl rfl (y_pick_f rfl rfl) ?_
                            refine g_val rfl rfl rfl (y_assign rfl) ?_
                            refine g_nil (g_then (g_ret ?_))
                            refine g_end1 Tryd.results3 rfl ?_
                            exfalso
                            first | omega | (simp_all; done)
                        · skip
                          refine g_not rfl rfl rfl ?_
                          refine g_not rfl rfl rfl ?_
                          refine g_not rfl rfl rfl ?_
                          refine g_val rfl rfl rfl (y_pick_f rfl rfl) ?_
                          refine g_val rfl rfl rfl (y_move rfl) ?_
                          refine g_not rfl rfl rfl ?_
                          refine g_not rfl rfl rfl ?_
                          refine g_not rfl rfl rfl ?_
                          refine g_not rfl rfl rfl ?_
                          refine g_not rfl rfl rfl ?_
                          refine g_not rfl rfl rfl ?_
                          refine g_not rfl rfl rfl ?_
                          refine g_val rfl rfl rfl (y_pick_f rfl rfl) ?_
                          refine g_val rfl rfl rfl (y_assign rfl) ?_
                          refine g_nil (g_then (g_ret ?_))
                          refine g_end1 Tryd.results3 rfl ?_
                          exfalso
                          first | omega | (simp_all; done)
                      · skip
                        refine g_not rfl rfl rfl ?_
                        refine g_not rfl rfl rfl ?_
                        refine g_not rfl rfl rfl ?_
                        refine g_val rfl rfl rfl (y_pick_f rfl rfl) ?_
                        refine g_val rfl rfl rfl (y_move rfl) ?_
                        refine g_not rfl rfl rfl ?_
                        refine g_not rfl rfl rfl ?_
                        refine g_not rfl rfl rfl ?_
                        refine g_val rfl rfl rfl (y_pick_f rfl rfl) ?_
                        refine g_val rfl rfl rfl (y_move rfl) ?_
                        refine g_not rfl rfl rfl ?_
                        refine g_not rfl rfl rfl ?_
                        refine g_not rfl rfl rfl ?_
                        refine g_not rfl rfl rfl ?_
                        refine g_not rfl rfl rfl ?_
                        refine g_not rfl rfl rfl ?_
                        refine g_not rfl rfl rfl ?_
                        refine g_val rfl rfl rfl (y_pick_f rfl rfl) ?_
                        refine g_val rfl rfl rfl (y_assign rfl) ?_
                        refine g_nil (g_then (g_ret ?_))
                        refine g_end1 Tryd.results3 rfl ?_
                        exfalso
                        first | omega | (simp_all; done)
                    · skip
                      refine g_not rfl rfl rfl ?_
                      refine g_not rfl rfl rfl ?_
                      refine g_not rfl rfl rfl ?_
                      refine g_val rfl rfl rfl (y_pick_f rfl rfl) ?_
                      refine g_val rfl rfl rfl (y_move rfl) ?_
                      refine g_not rfl rfl rfl ?_
                      refine g_not rfl rfl rfl ?_
                      refine g_not rfl rfl rfl ?_
                      refine g_val rfl rfl rfl (y_pick_f rfl rfl) ?_
                      refine g_val rfl rfl rfl (y_move rfl) ?_
                      refine g_not rfl rfl rfl ?_
                      refine g_not rfl rfl rfl ?_
                      refine g_not rfl rfl rfl ?_
                      refine g_val rfl rfl rfl (y_pick_f rfl rfl) ?_
                      refine g_val rfl rfl rfl (y_move rfl) ?_
                      refine g_not rfl rfl rfl ?_
                      refine g_not rfl rfl rfl ?_
                      refine g_not rfl rfl rfl ?_
                      refine g_not rfl rfl rfl ?_
                      refine g_not rfl rfl rfl ?_
                      refine g_not rfl rfl rfl ?_
                      refine g_not rfl rfl rfl ?_
                      refine g_val rfl rfl rfl (y_pick_f rfl rfl) ?_
                      refine g_val rfl rfl rfl (y_assign rfl) ?_
                      refine g_nil (g_then (g_ret ?_))
                      refine g_end1 Tryd.results3 rfl ?_
                      exfalso
                      first | omega | (simp_all; done)
                  · skip
                    refine g_not rfl rfl rfl ?_
                    refine g_not rfl rfl rfl ?_
                    refine g_not rfl rfl rfl ?_
                    refine g_val rfl rfl rfl (y_pick_f rfl rfl) ?_
                    refine g_val rfl rfl rfl (y_move rfl) ?_
                    refine g_not rfl rfl rfl ?_
                    refine g_not rfl rfl rfl ?_
                    refine g_not rfl rfl rfl ?_
                    refine g_val rfl rfl rfl (y_pick_f rfl rfl) ?_
                    refine g_val rfl rfl rfl (y_move rfl) ?_
                    refine g_not rfl rfl rfl ?_
                    refine g_not rfl rfl rfl ?_
                    refine g_not rfl rfl rfl ?_
                    refine g_val rfl rfl rfl (y_pick_f rfl rfl) ?_
                    refine g_val rfl rfl rfl (y_move rfl) ?_
                    refine g_not rfl rfl rfl ?_
                    refine g_not rfl rfl rfl ?_
                    refine g_not rfl rfl rfl ?_
                    refine g_val rfl rfl rfl (y_pick_f rfl rfl) ?_
                    refine g_val rfl rfl rfl (y_move rfl) ?_
                    refine g_not rfl rfl rfl ?_
                    refine g_not rfl rfl rfl ?_
                    refine g_not rfl rfl rfl ?_
                    refine g_not rfl rfl rfl ?_
                    refine g_not rfl rfl rfl ?_
                    refine g_not rfl rfl rfl ?_
                    refine g_not rfl rfl rfl ?_
                    refine g_val rfl rfl rfl (y_pick_f rfl rfl) ?_
                    refine g_val rfl rfl rfl (y_assign rfl) ?_
                    refine g_nil (g_then (g_ret ?_))
                    refine g_end1 Tryd.results3 rfl ?_
                    exfalso
                    first | omega | (simp_all; done)
                · skip
                  refine g_not rfl rfl rfl ?_
                  refine g_not rfl rfl rfl ?_
                  refine g_not rfl rfl rfl ?_
                  refine g_val rfl rfl rfl (y_pick_f rfl rfl) ?_
                  refine g_val rfl rfl rfl (y_move rfl) ?_
                  refine g_not rfl rfl rfl ?_
                  refine g_not rfl rfl rfl ?_
                  refine g_not rfl rfl rfl ?_
                  refine g_val rfl rfl rfl (y_pick_f rfl rfl) ?_
                  refine g_val rfl rfl rfl (y_move rfl) ?_
                  refine g_not rfl rfl rfl ?_
                  refine g_not rfl rfl rfl ?_
                  refine g_not rfl rfl rfl ?_
                  refine g_val rfl rfl rfl (y_pick_f rfl rfl) ?_
                  refine g_val rfl rfl rfl (y_move rfl) ?_
                  refine g_not rfl rfl rfl ?_
                  refine g_not rfl rfl rfl ?_
                  refine g_not rfl rfl rfl ?_
                  refine g_val rfl rfl rfl (y_pick_f rfl rfl) ?_
                  refine g_val rfl rfl rfl (y_move rfl) ?_
                  refine g_not rfl rfl rfl ?_
                  refine g_not rfl rfl rfl ?_
                  refine g_not rfl rfl rfl ?_
                  refine g_val rfl rfl rfl (y_pick_f rfl rfl) ?_
                  refine g_val rfl rfl rfl (y_move rfl) ?_
                  refine g_not rfl rfl rfl ?_
                  refine g_not rfl rfl rfl ?_
                  refine g_not rfl rfl rfl ?_
                  refine g_not rfl rfl rfl ?_
                  refine g_not rfl rfl rfl ?_
                  refine g_not rfl rfl rfl ?_
                  refine g_not rfl rfl rfl ?_
                  refine g_val rfl rfl rfl (y_pick_f rfl rfl) ?_
                  refine g_val rfl rfl rfl (y_assign rfl) ?_
                  refine g_nil (g_then (g_ret ?_))
                  refine g_end1 Tryd.results3 rfl ?_
                  exfalso
                  first | omega | (simp_all; done)
            · skip
              refine g_cond_f rfl (g_skip (g_then (g_seq (g_ops ?_))))
              refine g_val rfl rfl rfl (y_move rfl) ?_
              refine g_val rfl rfl rfl (y_move rfl) ?_
              refine g_val rfl rfl rfl (y_scat rfl rfl (by first | omega | (simp only [ByteArray.size_extract, ByteArray.size_append, size_mk, List.length_append, List.length_cons, List.length_nil] <;> omega))) ?_
              refine g_val rfl rfl rfl (y_move rfl) ?_
              refine g_val rfl rfl rfl (y_scat rfl rfl (by first | omega | (simp only [ByteArray.size_extract, ByteArray.size_append, size_mk, List.length_append, List.length_cons, List.length_nil] <;> omega))) ?_
              refine g_val rfl rfl rfl (y_move rfl) ?_
              refine g_val rfl rfl rfl (y_scat rfl rfl (by first | omega | (simp only [ByteArray.size_extract, ByteArray.size_append, size_mk, List.length_append, List.length_cons, List.length_nil] <;> omega))) ?_
              refine g_val rfl rfl rfl (y_scat rfl rfl (by first | omega | (simp only [ByteArray.size_extract, ByteArray.size_append, size_mk, List.length_append, List.length_cons, List.length_nil] <;> omega))) ?_
              refine g_call1 (v := .tuple #[.string s, .int .i64 ((b.size : Int) + s.size + b.size)]) rfl rfl rfl Tryd.call7 (fun w hS => word_any _ 0 (s, (b.size : Int) + s.size + b.size) (by simp only [ByteArray.size_append, size_mk, List.length_cons, List.length_nil]; first | omega | (have : (⟨#[59]⟩ : ByteArray).size = 1 := rfl; have : (⟨#[120]⟩ : ByteArray).size = 1 := rfl; omega)) (by first | exact words1 b s _ hbl hw2 10 rfl rfl | exact words1 b s _ hbl hw2 59 rfl rfl) w) ?_
              refine g_val rfl rfl rfl (y_move rfl) ?_
              refine g_val rfl rfl rfl (y_extract rfl rfl) ?_
              refine g_val rfl rfl rfl (y_extract rfl rfl) ?_
              refine g_val rfl rfl rfl (y_assign rfl) ?_
              refine g_val rfl rfl rfl (y_assign rfl) ?_
              refine g_nil (g_then (g_seq (g_ops ?_)))
              refine g_val rfl rfl rfl (y_move rfl) ?_
              refine g_val rfl rfl rfl (y_move rfl) ?_
              refine g_val rfl rfl rfl (y_scat rfl rfl (by first | omega | (simp only [ByteArray.size_extract, ByteArray.size_append, size_mk, List.length_append, List.length_cons, List.length_nil] <;> omega))) ?_
              refine g_val rfl rfl rfl (y_move rfl) ?_
              refine g_val rfl rfl rfl (y_scat rfl rfl (by first | omega | (simp only [ByteArray.size_extract, ByteArray.size_append, size_mk, List.length_append, List.length_cons, List.length_nil] <;> omega))) ?_
              refine g_call1 (v := .tuple #[.string s, .int .i64 ((b.size : Int) + s.size + b.size)]) rfl rfl rfl Tryd.call7 (fun w hS => word_any _ 0 (s, (b.size : Int) + s.size + b.size) (by simp only [ByteArray.size_append, size_mk, List.length_cons, List.length_nil]; first | omega | (have : (⟨#[59]⟩ : ByteArray).size = 1 := rfl; have : (⟨#[120]⟩ : ByteArray).size = 1 := rfl; omega)) (words2 b s hbl hw2) w) ?_
              refine g_val rfl rfl rfl (y_move rfl) ?_
              refine g_val rfl rfl rfl (y_extract rfl rfl) ?_
              refine g_val rfl rfl rfl (y_extract rfl rfl) ?_
              refine g_val rfl rfl rfl (y_assign rfl) ?_
              refine g_val rfl rfl rfl (y_assign rfl) ?_
              refine g_nil (g_then (g_seq (g_ops ?_)))
              refine g_val rfl rfl rfl (y_move rfl) ?_
              refine g_val rfl rfl rfl (y_move rfl) ?_
              refine g_val rfl rfl rfl (y_scat rfl rfl (by first | omega | (simp only [ByteArray.size_extract, ByteArray.size_append, size_mk, List.length_append, List.length_cons, List.length_nil] <;> omega))) ?_
              refine g_val rfl rfl rfl (y_move rfl) ?_
              refine g_val rfl rfl rfl (y_scat rfl rfl (by first | omega | (simp only [ByteArray.size_extract, ByteArray.size_append, size_mk, List.length_append, List.length_cons, List.length_nil] <;> omega))) ?_
              refine g_val rfl rfl rfl (y_scat rfl rfl (by first | omega | (simp only [ByteArray.size_extract, ByteArray.size_append, size_mk, List.length_append, List.length_cons, List.length_nil] <;> omega))) ?_
              refine g_val rfl rfl rfl (y_move rfl) ?_
              refine g_val rfl rfl rfl (y_scat rfl rfl (by first | omega | (simp only [ByteArray.size_extract, ByteArray.size_append, size_mk, List.length_append, List.length_cons, List.length_nil] <;> omega))) ?_
              refine g_call1 (v := .tuple #[.string (if s = ⟨#[]⟩ then (⟨#[59]⟩ : ByteArray) else s ++ b ++ (⟨#[59]⟩ : ByteArray) ++ s), .int .i64 ((b.size : Int) + s.size + b.size + 1 + s.size)]) rfl rfl rfl Tryd.call8 (fun w hS => rest_any _ 0 (if s = ⟨#[]⟩ then (⟨#[59]⟩ : ByteArray) else s ++ b ++ (⟨#[59]⟩ : ByteArray) ++ s, (b.size : Int) + s.size + b.size + 1 + s.size) (by simp only [ByteArray.size_append, size_mk, List.length_cons, List.length_nil]; first | omega | (have : (⟨#[59]⟩ : ByteArray).size = 1 := rfl; have : (⟨#[120]⟩ : ByteArray).size = 1 := rfl; omega)) (words3 b s hbl hw2) w) ?_
              refine g_val rfl rfl rfl (y_move rfl) ?_
              refine g_val rfl rfl rfl (y_extract rfl rfl) ?_
              refine g_val rfl rfl rfl (y_extract rfl rfl) ?_
              refine g_val rfl rfl rfl (y_assign rfl) ?_
              refine g_val rfl rfl rfl (y_assign rfl) ?_
              refine g_nil (g_then (g_seq (g_ops ?_)))
              refine g_val rfl rfl rfl (y_move rfl) ?_
              refine g_val rfl rfl rfl (y_slen rfl Tryd.underlying9) ?_
              refine g_val rfl rfl rfl (y_move rfl) ?_
              refine g_val rfl rfl rfl (y_slen rfl Tryd.underlying9) ?_
              refine g_val rfl rfl rfl (by first | exact y_addi rfl rfl (by first | omega | (simp only [size_mk, ByteArray.size_append, ByteArray.size_extract]; omega)) | exact y_iadd rfl rfl) ?_
              refine g_val rfl rfl rfl (y_move rfl) ?_
              refine g_val rfl rfl rfl (y_slen rfl Tryd.underlying9) ?_
              refine g_val rfl rfl rfl (by first | exact y_addi rfl rfl (by first | omega | (simp only [size_mk, ByteArray.size_append, ByteArray.size_extract]; omega)) | exact y_iadd rfl rfl) ?_
              refine g_val rfl rfl rfl (y_assign rfl) ?_
              refine g_nil (g_then (g_seq (g_ops ?_)))
              refine g_val rfl rfl rfl (y_move rfl) ?_
              refine g_val rfl rfl rfl (y_move rfl) ?_
              refine g_val rfl rfl rfl (y_scat rfl rfl (by first | omega | (simp only [ByteArray.size_extract, ByteArray.size_append, size_mk, List.length_append, List.length_cons, List.length_nil] <;> omega))) ?_
              refine g_val rfl rfl rfl (y_scat rfl rfl (by first | omega | (simp only [ByteArray.size_extract, ByteArray.size_append, size_mk, List.length_append, List.length_cons, List.length_nil] <;> omega))) ?_
              refine g_val rfl rfl rfl (y_move rfl) ?_
              refine g_val rfl rfl rfl (y_scat rfl rfl (by first | omega | (simp only [ByteArray.size_extract, ByteArray.size_append, size_mk, List.length_append, List.length_cons, List.length_nil] <;> omega))) ?_
              refine g_val rfl rfl rfl (y_assign rfl) ?_
              refine g_nil (g_then (g_seq (g_seq (g_ops ?_))))
              refine g_val rfl rfl rfl (y_move rfl) ?_
              refine g_val rfl rfl rfl (y_seq rfl rfl) ?_
              refine g_nil (g_then ?_)
              first | refine g_casep 113 rfl (fun h22 => ?_) (fun h22 => ?_) | refine g_caseb 113 rfl (fun h22 => ?_) (fun h22 => ?_)
              · skip
                refine g_cond_t rfl (g_ops ?_)
                refine g_val rfl rfl rfl (y_assign rfl) ?_
                refine g_nil (g_then (g_seq (g_ops ?_)))
                refine g_call1 rfl rfl rfl Tryd.call6 (fun w hS => alive_any w) ?_
                refine g_val rfl rfl rfl (y_move rfl) ?_
                first | refine g_casep 115 rfl (fun h23 => ?_) (fun h23 => ?_) | refine g_caseb 115 rfl (fun h23 => ?_) (fun h23 => ?_)
                · skip
                  refine g_val rfl rfl rfl (y_move rfl) ?_
                  refine g_val rfl rfl rfl (y_move rfl) ?_
                  refine g_val rfl rfl rfl (y_seq rfl rfl) ?_
                  refine g_val rfl rfl rfl (y_pick_t rfl rfl) ?_
                  refine g_val rfl rfl rfl (y_move rfl) ?_
                  first | refine g_casep 120 rfl (fun h24 => ?_) (fun h24 => ?_) | refine g_caseb 120 rfl (fun h24 => ?_) (fun h24 => ?_)
                  · skip
                    refine g_val rfl rfl rfl (y_move rfl) ?_
                    refine g_val rfl rfl rfl (y_move rfl) ?_
                    refine g_val rfl rfl rfl (y_seq rfl rfl) ?_
                    refine g_val rfl rfl rfl (y_pick_t rfl rfl) ?_
                    refine g_val rfl rfl rfl (y_move rfl) ?_
                    first | refine g_casep 125 rfl (fun h25 => ?_) (fun h25 => ?_) | refine g_caseb 125 rfl (fun h25 => ?_) (fun h25 => ?_)
                    · skip
                      refine g_val rfl rfl rfl (y_move rfl) ?_
                      refine g_val rfl rfl rfl (y_move rfl) ?_
                      refine g_val rfl rfl rfl (y_ieq rfl rfl) ?_
                      refine g_val rfl rfl rfl (y_pick_t rfl rfl) ?_
                      refine g_val rfl rfl rfl (y_move rfl) ?_
                      first | refine g_casep 130 rfl (fun h26 => ?_) (fun h26 => ?_) | refine g_caseb 130 rfl (fun h26 => ?_) (fun h26 => ?_)
                      · skip
                        refine g_val rfl rfl rfl (y_move rfl) ?_
                        refine g_val rfl rfl rfl (y_move rfl) ?_
                        refine g_val rfl rfl rfl (y_ieq rfl rfl) ?_
                        refine g_val rfl rfl rfl (y_pick_t rfl rfl) ?_
                        refine g_val rfl rfl rfl (y_move rfl) ?_
                        first | refine g_casep 135 rfl (fun h27 => ?_) (fun h27 => ?_) | refine g_caseb 135 rfl (fun h27 => ?_) (fun h27 => ?_)
                        · skip
                          refine g_val rfl rfl rfl (y_move rfl) ?_
                          refine g_val rfl rfl rfl (y_move rfl) ?_
                          refine g_val rfl rfl rfl (y_seq rfl rfl) ?_
                          refine g_val rfl rfl rfl (y_pick_t rfl rfl) ?_
                          refine g_val rfl rfl rfl (y_move rfl) ?_
                          first | refine g_casep 140 rfl (fun h28 => ?_) (fun h28 => ?_) | refine g_caseb 140 rfl (fun h28 => ?_) (fun h28 => ?_)
                          · skip
                            refine g_val rfl rfl rfl (y_move rfl) ?_
                            refine g_val rfl rfl rfl (y_move rfl) ?_
                            refine g_val rfl rfl rfl (by first | exact y_addi rfl rfl (by first | omega | (simp only [size_mk, ByteArray.size_append, ByteArray.size_extract]; omega)) | exact y_iadd rfl rfl) ?_
                            refine g_val rfl rfl rfl (y_move rfl) ?_
                            refine g_val rfl rfl rfl (y_slen rfl Tryd.underlying9) ?_
                            refine g_val rfl rfl rfl (by first | exact y_addi rfl rfl (by first | omega | (simp only [size_mk, ByteArray.size_append, ByteArray.size_extract]; omega)) | exact y_iadd rfl rfl) ?_
                            refine g_val rfl rfl rfl (y_ieq rfl rfl) ?_
                            refine g_val rfl rfl rfl (y_pick_t rfl rfl) ?_
                            refine g_val rfl rfl rfl (y_assign rfl) ?_
                            refine g_nil (g_then (g_ret ?_))
                            refine g_end1 Tryd.results3 rfl ?_
                            exact fun w hS => ⟨ret_bool (by first | (simp_all; done) | (simp; omega)), hS.below⟩
                          · skip
                            refine g_not rfl rfl rfl ?_
                            refine g_not rfl rfl rfl ?_
                            refine g_not rfl rfl rfl ?_
                            refine g_not rfl rfl rfl ?_
                            refine g_not rfl rfl rfl ?_
                            refine g_not rfl rfl rfl ?_
                            refine g_not rfl rfl rfl ?_
                            refine g_val rfl rfl rfl (y_pick_f rfl rfl) ?_
                            refine g_val rfl rfl rfl (y_assign rfl) ?_
                            refine g_nil (g_then (g_ret ?_))
                            refine g_end1 Tryd.results3 rfl ?_
                            exfalso
                            first | omega | (simp_all; done)
                        · skip
                          refine g_not rfl rfl rfl ?_
                          refine g_not rfl rfl rfl ?_
                          refine g_not rfl rfl rfl ?_
                          refine g_val rfl rfl rfl (y_pick_f rfl rfl) ?_
                          refine g_val rfl rfl rfl (y_move rfl) ?_
                          refine g_not rfl rfl rfl ?_
                          refine g_not rfl rfl rfl ?_
                          refine g_not rfl rfl rfl ?_
                          refine g_not rfl rfl rfl ?_
                          refine g_not rfl rfl rfl ?_
                          refine g_not rfl rfl rfl ?_
                          refine g_not rfl rfl rfl ?_
                          refine g_val rfl rfl rfl (y_pick_f rfl rfl) ?_
                          refine g_val rfl rfl rfl (y_assign rfl) ?_
                          refine g_nil (g_then (g_ret ?_))
                          refine g_end1 Tryd.results3 rfl ?_
                          exfalso
                          first | omega | (simp_all; done)
                      · skip
                        refine g_not rfl rfl rfl ?_
                        refine g_not rfl rfl rfl ?_
                        refine g_not rfl rfl rfl ?_
                        refine g_val rfl rfl rfl (y_pick_f rfl rfl) ?_
                        refine g_val rfl rfl rfl (y_move rfl) ?_
                        refine g_not rfl rfl rfl ?_
                        refine g_not rfl rfl rfl ?_
                        refine g_not rfl rfl rfl ?_
                        refine g_val rfl rfl rfl (y_pick_f rfl rfl) ?_
                        refine g_val rfl rfl rfl (y_move rfl) ?_
                        refine g_not rfl rfl rfl ?_
                        refine g_not rfl rfl rfl ?_
                        refine g_not rfl rfl rfl ?_
                        refine g_not rfl rfl rfl ?_
                        refine g_not rfl rfl rfl ?_
                        refine g_not rfl rfl rfl ?_
                        refine g_not rfl rfl rfl ?_
                        refine g_val rfl rfl rfl (y_pick_f rfl rfl) ?_
                        refine g_val rfl rfl rfl (y_assign rfl) ?_
                        refine g_nil (g_then (g_ret ?_))
                        refine g_end1 Tryd.results3 rfl ?_
                        exfalso
                        first | omega | (simp_all; done)
                    · skip
                      refine g_not rfl rfl rfl ?_
                      refine g_not rfl rfl rfl ?_
                      refine g_not rfl rfl rfl ?_
                      refine g_val rfl rfl rfl (y_pick_f rfl rfl) ?_
                      refine g_val rfl rfl rfl (y_move rfl) ?_
                      refine g_not rfl rfl rfl ?_
                      refine g_not rfl rfl rfl ?_
                      refine g_not rfl rfl rfl ?_
                      refine g_val rfl rfl rfl (y_pick_f rfl rfl) ?_
                      refine g_val rfl rfl rfl (y_move rfl) ?_
                      refine g_not rfl rfl rfl ?_
                      refine g_not rfl rfl rfl ?_
                      refine g_not rfl rfl rfl ?_
                      refine g_val rfl rfl rfl (y_pick_f rfl rfl) ?_
                      refine g_val rfl rfl rfl (y_move rfl) ?_
                      refine g_not rfl rfl rfl ?_
                      refine g_not rfl rfl rfl ?_
                      refine g_not rfl rfl rfl ?_
                      refine g_not rfl rfl rfl ?_
                      refine g_not rfl rfl rfl ?_
                      refine g_not rfl rfl rfl ?_
                      refine g_not rfl rfl rfl ?_
                      refine g_val rfl rfl rfl (y_pick_f rfl rfl) ?_
                      refine g_val rfl rfl rfl (y_assign rfl) ?_
                      refine g_nil (g_then (g_ret ?_))
                      refine g_end1 Tryd.results3 rfl ?_
                      exfalso
                      first | omega | (simp_all; done)
                  · skip
                    refine g_not rfl rfl rfl ?_
                    refine g_not rfl rfl rfl ?_
                    refine g_not rfl rfl rfl ?_
                    refine g_val rfl rfl rfl (y_pick_f rfl rfl) ?_
                    refine g_val rfl rfl rfl (y_move rfl) ?_
                    refine g_not rfl rfl rfl ?_
                    refine g_not rfl rfl rfl ?_
                    refine g_not rfl rfl rfl ?_
                    refine g_val rfl rfl rfl (y_pick_f rfl rfl) ?_
                    refine g_val rfl rfl rfl (y_move rfl) ?_
                    refine g_not rfl rfl rfl ?_
                    refine g_not rfl rfl rfl ?_
                    refine g_not rfl rfl rfl ?_
                    refine g_val rfl rfl rfl (y_pick_f rfl rfl) ?_
                    refine g_val rfl rfl rfl (y_move rfl) ?_
                    refine g_not rfl rfl rfl ?_
                    refine g_not rfl rfl rfl ?_
                    refine g_not rfl rfl rfl ?_
                    refine g_val rfl rfl rfl (y_pick_f rfl rfl) ?_
                    refine g_val rfl rfl rfl (y_move rfl) ?_
                    refine g_not rfl rfl rfl ?_
                    refine g_not rfl rfl rfl ?_
                    refine g_not rfl rfl rfl ?_
                    refine g_not rfl rfl rfl ?_
                    refine g_not rfl rfl rfl ?_
                    refine g_not rfl rfl rfl ?_
                    refine g_not rfl rfl rfl ?_
                    refine g_val rfl rfl rfl (y_pick_f rfl rfl) ?_
                    refine g_val rfl rfl rfl (y_assign rfl) ?_
                    refine g_nil (g_then (g_ret ?_))
                    refine g_end1 Tryd.results3 rfl ?_
                    exfalso
                    first | omega | (simp_all; done)
                · skip
                  refine g_not rfl rfl rfl ?_
                  refine g_not rfl rfl rfl ?_
                  refine g_not rfl rfl rfl ?_
                  refine g_val rfl rfl rfl (y_pick_f rfl rfl) ?_
                  refine g_val rfl rfl rfl (y_move rfl) ?_
                  refine g_not rfl rfl rfl ?_
                  refine g_not rfl rfl rfl ?_
                  refine g_not rfl rfl rfl ?_
                  refine g_val rfl rfl rfl (y_pick_f rfl rfl) ?_
                  refine g_val rfl rfl rfl (y_move rfl) ?_
                  refine g_not rfl rfl rfl ?_
                  refine g_not rfl rfl rfl ?_
                  refine g_not rfl rfl rfl ?_
                  refine g_val rfl rfl rfl (y_pick_f rfl rfl) ?_
                  refine g_val rfl rfl rfl (y_move rfl) ?_
                  refine g_not rfl rfl rfl ?_
                  refine g_not rfl rfl rfl ?_
                  refine g_not rfl rfl rfl ?_
                  refine g_val rfl rfl rfl (y_pick_f rfl rfl) ?_
                  refine g_val rfl rfl rfl (y_move rfl) ?_
                  refine g_not rfl rfl rfl ?_
                  refine g_not rfl rfl rfl ?_
                  refine g_not rfl rfl rfl ?_
                  refine g_val rfl rfl rfl (y_pick_f rfl rfl) ?_
                  refine g_val rfl rfl rfl (y_move rfl) ?_
                  refine g_not rfl rfl rfl ?_
                  refine g_not rfl rfl rfl ?_
                  refine g_not rfl rfl rfl ?_
                  refine g_not rfl rfl rfl ?_
                  refine g_not rfl rfl rfl ?_
                  refine g_not rfl rfl rfl ?_
                  refine g_not rfl rfl rfl ?_
                  refine g_val rfl rfl rfl (y_pick_f rfl rfl) ?_
                  refine g_val rfl rfl rfl (y_assign rfl) ?_
                  refine g_nil (g_then (g_ret ?_))
                  refine g_end1 Tryd.results3 rfl ?_
                  exfalso
                  first | omega | (simp_all; done)
              · skip
                refine g_cond_f rfl (g_skip (g_then (g_seq (g_ops ?_))))
                refine g_call1 rfl rfl rfl Tryd.call6 (fun w hS => alive_any w) ?_
                refine g_val rfl rfl rfl (y_move rfl) ?_
                first | refine g_casep 115 rfl (fun h29 => ?_) (fun h29 => ?_) | refine g_caseb 115 rfl (fun h29 => ?_) (fun h29 => ?_)
                · skip
                  refine g_val rfl rfl rfl (y_move rfl) ?_
                  refine g_val rfl rfl rfl (y_move rfl) ?_
                  refine g_val rfl rfl rfl (y_seq rfl rfl) ?_
                  refine g_val rfl rfl rfl (y_pick_t rfl rfl) ?_
                  refine g_val rfl rfl rfl (y_move rfl) ?_
                  first | refine g_casep 120 rfl (fun h30 => ?_) (fun h30 => ?_) | refine g_caseb 120 rfl (fun h30 => ?_) (fun h30 => ?_)
                  · skip
                    refine g_val rfl rfl rfl (y_move rfl) ?_
                    refine g_val rfl rfl rfl (y_move rfl) ?_
                    refine g_val rfl rfl rfl (y_seq rfl rfl) ?_
                    refine g_val rfl rfl rfl (y_pick_t rfl rfl) ?_
                    refine g_val rfl rfl rfl (y_move rfl) ?_
                    first | refine g_casep 125 rfl (fun h31 => ?_) (fun h31 => ?_) | refine g_caseb 125 rfl (fun h31 => ?_) (fun h31 => ?_)
                    · skip
                      refine g_val rfl rfl rfl (y_move rfl) ?_
                      refine g_val rfl rfl rfl (y_move rfl) ?_
                      refine g_val rfl rfl rfl (y_ieq rfl rfl) ?_
                      refine g_val rfl rfl rfl (y_pick_t rfl rfl) ?_
                      refine g_val rfl rfl rfl (y_move rfl) ?_
                      first | refine g_casep 130 rfl (fun h32 => ?_) (fun h32 => ?_) | refine g_caseb 130 rfl (fun h32 => ?_) (fun h32 => ?_)
                      · skip
                        refine g_val rfl rfl rfl (y_move rfl) ?_
                        refine g_val rfl rfl rfl (y_move rfl) ?_
                        refine g_val rfl rfl rfl (y_ieq rfl rfl) ?_
                        refine g_val rfl rfl rfl (y_pick_t rfl rfl) ?_
                        refine g_val rfl rfl rfl (y_move rfl) ?_
                        first | refine g_casep 135 rfl (fun h33 => ?_) (fun h33 => ?_) | refine g_caseb 135 rfl (fun h33 => ?_) (fun h33 => ?_)
                        · skip
                          refine g_val rfl rfl rfl (y_move rfl) ?_
                          refine g_val rfl rfl rfl (y_move rfl) ?_
                          refine g_val rfl rfl rfl (y_seq rfl rfl) ?_
                          refine g_val rfl rfl rfl (y_pick_t rfl rfl) ?_
                          refine g_val rfl rfl rfl (y_move rfl) ?_
                          first | refine g_casep 140 rfl (fun h34 => ?_) (fun h34 => ?_) | refine g_caseb 140 rfl (fun h34 => ?_) (fun h34 => ?_)
                          · skip
                            refine g_val rfl rfl rfl (y_move rfl) ?_
                            refine g_val rfl rfl rfl (y_move rfl) ?_
                            refine g_val rfl rfl rfl (by first | exact y_addi rfl rfl (by first | omega | (simp only [size_mk, ByteArray.size_append, ByteArray.size_extract]; omega)) | exact y_iadd rfl rfl) ?_
                            refine g_val rfl rfl rfl (y_move rfl) ?_
                            refine g_val rfl rfl rfl (y_slen rfl Tryd.underlying9) ?_
                            refine g_val rfl rfl rfl (by first | exact y_addi rfl rfl (by first | omega | (simp only [size_mk, ByteArray.size_append, ByteArray.size_extract]; omega)) | exact y_iadd rfl rfl) ?_
                            refine g_val rfl rfl rfl (y_ieq rfl rfl) ?_
                            refine g_val rfl rfl rfl (y_pick_t rfl rfl) ?_
                            refine g_val rfl rfl rfl (y_assign rfl) ?_
                            refine g_nil (g_then (g_ret ?_))
                            refine g_end1 Tryd.results3 rfl ?_
                            exact fun w hS => ⟨ret_bool (by first | (simp_all; done) | (simp; omega)), hS.below⟩
                          · skip
                            refine g_not rfl rfl rfl ?_
                            refine g_not rfl rfl rfl ?_
                            refine g_not rfl rfl rfl ?_
                            refine g_not rfl rfl rfl ?_
                            refine g_not rfl rfl rfl ?_
                            refine g_not rfl rfl rfl ?_
                            refine g_not rfl rfl rfl ?_
                            refine g_val rfl rfl rfl (y_pick_f rfl rfl) ?_
                            refine g_val rfl rfl rfl (y_assign rfl) ?_
                            refine g_nil (g_then (g_ret ?_))
                            refine g_end1 Tryd.results3 rfl ?_
                            exfalso
                            first | omega | (simp_all; done)
                        · skip
                          refine g_not rfl rfl rfl ?_
                          refine g_not rfl rfl rfl ?_
                          refine g_not rfl rfl rfl ?_
                          refine g_val rfl rfl rfl (y_pick_f rfl rfl) ?_
                          refine g_val rfl rfl rfl (y_move rfl) ?_
                          refine g_not rfl rfl rfl ?_
                          refine g_not rfl rfl rfl ?_
                          refine g_not rfl rfl rfl ?_
                          refine g_not rfl rfl rfl ?_
                          refine g_not rfl rfl rfl ?_
                          refine g_not rfl rfl rfl ?_
                          refine g_not rfl rfl rfl ?_
                          refine g_val rfl rfl rfl (y_pick_f rfl rfl) ?_
                          refine g_val rfl rfl rfl (y_assign rfl) ?_
                          refine g_nil (g_then (g_ret ?_))
                          refine g_end1 Tryd.results3 rfl ?_
                          exfalso
                          first | omega | (simp_all; done)
                      · skip
                        refine g_not rfl rfl rfl ?_
                        refine g_not rfl rfl rfl ?_
                        refine g_not rfl rfl rfl ?_
                        refine g_val rfl rfl rfl (y_pick_f rfl rfl) ?_
                        refine g_val rfl rfl rfl (y_move rfl) ?_
                        refine g_not rfl rfl rfl ?_
                        refine g_not rfl rfl rfl ?_
                        refine g_not rfl rfl rfl ?_
                        refine g_val rfl rfl rfl (y_pick_f rfl rfl) ?_
                        refine g_val rfl rfl rfl (y_move rfl) ?_
                        refine g_not rfl rfl rfl ?_
                        refine g_not rfl rfl rfl ?_
                        refine g_not rfl rfl rfl ?_
                        refine g_not rfl rfl rfl ?_
                        refine g_not rfl rfl rfl ?_
                        refine g_not rfl rfl rfl ?_
                        refine g_not rfl rfl rfl ?_
                        refine g_val rfl rfl rfl (y_pick_f rfl rfl) ?_
                        refine g_val rfl rfl rfl (y_assign rfl) ?_
                        refine g_nil (g_then (g_ret ?_))
                        refine g_end1 Tryd.results3 rfl ?_
                        exfalso
                        first | omega | (simp_all; done)
                    · skip
                      refine g_not rfl rfl rfl ?_
                      refine g_not rfl rfl rfl ?_
                      refine g_not rfl rfl rfl ?_
                      refine g_val rfl rfl rfl (y_pick_f rfl rfl) ?_
                      refine g_val rfl rfl rfl (y_move rfl) ?_
                      refine g_not rfl rfl rfl ?_
                      refine g_not rfl rfl rfl ?_
                      refine g_not rfl rfl rfl ?_
                      refine g_val rfl rfl rfl (y_pick_f rfl rfl) ?_
                      refine g_val rfl rfl rfl (y_move rfl) ?_
                      refine g_not rfl rfl rfl ?_
                      refine g_not rfl rfl rfl ?_
                      refine g_not rfl rfl rfl ?_
                      refine g_val rfl rfl rfl (y_pick_f rfl rfl) ?_
                      refine g_val rfl rfl rfl (y_move rfl) ?_
                      refine g_not rfl rfl rfl ?_
                      refine g_not rfl rfl rfl ?_
                      refine g_not rfl rfl rfl ?_
                      refine g_not rfl rfl rfl ?_
                      refine g_not rfl rfl rfl ?_
                      refine g_not rfl rfl rfl ?_
                      refine g_not rfl rfl rfl ?_
                      refine g_val rfl rfl rfl (y_pick_f rfl rfl) ?_
                      refine g_val rfl rfl rfl (y_assign rfl) ?_
                      refine g_nil (g_then (g_ret ?_))
                      refine g_end1 Tryd.results3 rfl ?_
                      exfalso
                      first | omega | (simp_all; done)
                  · skip
                    refine g_not rfl rfl rfl ?_
                    refine g_not rfl rfl rfl ?_
                    refine g_not rfl rfl rfl ?_
                    refine g_val rfl rfl rfl (y_pick_f rfl rfl) ?_
                    refine g_val rfl rfl rfl (y_move rfl) ?_
                    refine g_not rfl rfl rfl ?_
                    refine g_not rfl rfl rfl ?_
                    refine g_not rfl rfl rfl ?_
                    refine g_val rfl rfl rfl (y_pick_f rfl rfl) ?_
                    refine g_val rfl rfl rfl (y_move rfl) ?_
                    refine g_not rfl rfl rfl ?_
                    refine g_not rfl rfl rfl ?_
                    refine g_not rfl rfl rfl ?_
                    refine g_val rfl rfl rfl (y_pick_f rfl rfl) ?_
                    refine g_val rfl rfl rfl (y_move rfl) ?_
                    refine g_not rfl rfl rfl ?_
                    refine g_not rfl rfl rfl ?_
                    refine g_not rfl rfl rfl ?_
                    refine g_val rfl rfl rfl (y_pick_f rfl rfl) ?_
                    refine g_val rfl rfl rfl (y_move rfl) ?_
                    refine g_not rfl rfl rfl ?_
                    refine g_not rfl rfl rfl ?_
                    refine g_not rfl rfl rfl ?_
                    refine g_not rfl rfl rfl ?_
                    refine g_not rfl rfl rfl ?_
                    refine g_not rfl rfl rfl ?_
                    refine g_not rfl rfl rfl ?_
                    refine g_val rfl rfl rfl (y_pick_f rfl rfl) ?_
                    refine g_val rfl rfl rfl (y_assign rfl) ?_
                    refine g_nil (g_then (g_ret ?_))
                    refine g_end1 Tryd.results3 rfl ?_
                    exfalso
                    first | omega | (simp_all; done)
                · skip
                  refine g_not rfl rfl rfl ?_
                  refine g_not rfl rfl rfl ?_
                  refine g_not rfl rfl rfl ?_
                  refine g_val rfl rfl rfl (y_pick_f rfl rfl) ?_
                  refine g_val rfl rfl rfl (y_move rfl) ?_
                  refine g_not rfl rfl rfl ?_
                  refine g_not rfl rfl rfl ?_
                  refine g_not rfl rfl rfl ?_
                  refine g_val rfl rfl rfl (y_pick_f rfl rfl) ?_
                  refine g_val rfl rfl rfl (y_move rfl) ?_
                  refine g_not rfl rfl rfl ?_
                  refine g_not rfl rfl rfl ?_
                  refine g_not rfl rfl rfl ?_
                  refine g_val rfl rfl rfl (y_pick_f rfl rfl) ?_
                  refine g_val rfl rfl rfl (y_move rfl) ?_
                  refine g_not rfl rfl rfl ?_
                  refine g_not rfl rfl rfl ?_
                  refine g_not rfl rfl rfl ?_
                  refine g_val rfl rfl rfl (y_pick_f rfl rfl) ?_
                  refine g_val rfl rfl rfl (y_move rfl) ?_
                  refine g_not rfl rfl rfl ?_
                  refine g_not rfl rfl rfl ?_
                  refine g_not rfl rfl rfl ?_
                  refine g_val rfl rfl rfl (y_pick_f rfl rfl) ?_
                  refine g_val rfl rfl rfl (y_move rfl) ?_
                  refine g_not rfl rfl rfl ?_
                  refine g_not rfl rfl rfl ?_
                  refine g_not rfl rfl rfl ?_
                  refine g_not rfl rfl rfl ?_
                  refine g_not rfl rfl rfl ?_
                  refine g_not rfl rfl rfl ?_
                  refine g_not rfl rfl rfl ?_
                  refine g_val rfl rfl rfl (y_pick_f rfl rfl) ?_
                  refine g_val rfl rfl rfl (y_assign rfl) ?_
                  refine g_nil (g_then (g_ret ?_))
                  refine g_end1 Tryd.results3 rfl ?_
                  exfalso
                  first | omega | (simp_all; done)

end Go.Proofs.YtjafkmaolpkbnaaDoor
