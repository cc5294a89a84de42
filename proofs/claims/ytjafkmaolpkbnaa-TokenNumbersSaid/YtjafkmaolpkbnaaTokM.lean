/- Numbers are their figures. -/
import Derived.Test.YtjafkmaolpkbnaaTokL
namespace Go.Proofs.Ytjafkmaolpkbnaa
open Go Go.RowKit

/-- The figures of a number: what is still to come stands in k. -/
theorem dig_byte (k : Int) (h0 : 0 ≤ k) : ((⟨#[48, 49, 50, 51, 52, 53, 54, 55, 56, 57]⟩ : ByteArray).extract (k.tmod 10).toNat (k.tmod 10 + 1).toNat).data.toList = [UInt8.ofNat (48 + (k % 10).toNat)] := by
  have e : k.tmod 10 = k % 10 := by rw [Int.tmod_eq_emod_of_nonneg h0]
  rw [e]
  have h : k % 10 = 0 ∨ k % 10 = 1 ∨ k % 10 = 2 ∨ k % 10 = 3 ∨ k % 10 = 4 ∨ k % 10 = 5 ∨ k % 10 = 6 ∨ k % 10 = 7 ∨ k % 10 = 8 ∨ k % 10 = 9 := by omega
  rcases h with h | h | h | h | h | h | h | h | h | h <;> rw [h] <;> rfl
theorem dig_isD (k : Int) (h0 : 0 ≤ k) : isD (UInt8.ofNat (48 + (k % 10).toNat)) = true ∧ ((UInt8.ofNat (48 + (k % 10).toNat)).toNat : Int) - 48 = k % 10 := by
  have h : k % 10 = 0 ∨ k % 10 = 1 ∨ k % 10 = 2 ∨ k % 10 = 3 ∨ k % 10 = 4 ∨ k % 10 = 5 ∨ k % 10 = 6 ∨ k % 10 = 7 ∨ k % 10 = 8 ∨ k % 10 = 9 := by omega
  rcases h with h | h | h | h | h | h | h | h | h | h <;> rw [h] <;> exact ⟨by decide, by decide⟩
theorem foldl_val (l : List UInt8) : ∀ n : Int, l.foldl (fun n c => 10 * n + ((c.toNat : Int) - 48)) n = n * 10 ^ l.length + valL l := by
  induction l with
  | nil => intro n; simp [valL]
  | cons c l ih =>
    intro n
    have h2 : valL (c :: l) = ((c.toNat : Int) - 48) * 10 ^ l.length + valL l := by
      show l.foldl _ (10 * 0 + ((c.toNat : Int) - 48)) = _
      rw [ih]; simp
    rw [List.foldl_cons, ih, h2, List.length_cons, Int.pow_succ]
    rw [Int.add_mul, Int.mul_comm 10 n, Int.mul_assoc, Int.mul_comm 10, Int.add_assoc]
theorem valL_cons (c : UInt8) (l : List UInt8) : valL (c :: l) = ((c.toNat : Int) - 48) * 10 ^ l.length + valL l := by
  show l.foldl _ (10 * 0 + ((c.toNat : Int) - 48)) = _
  rw [foldl_val]; simp
/-- A step of the division. -/
theorem num_step (n k : Int) (t : List UInt8) (h0 : 0 ≤ k) (h : n = k * 10 ^ t.length + valL t) : n = (k / 10) * 10 ^ (t.length + 1) + valL (UInt8.ofNat (48 + (k % 10).toNat) :: t) := by
  rw [valL_cons, (dig_isD k h0).2, h, Int.pow_succ]
  have e : k = 10 * (k / 10) + k % 10 := by omega
  generalize (10 : Int) ^ t.length = p
  have : k * p = (k / 10) * (p * 10) + k % 10 * p := by
    conv => lhs; rw [e]
    rw [Int.add_mul, Int.mul_assoc, ← Int.mul_assoc (k / 10), Int.mul_comm 10]
  omega
theorem num_len (n k : Int) (t : List UInt8) (h0 : 0 < k) (hn : n ≤ 999999999) (ht : 0 ≤ valL t) (h : n = k * 10 ^ t.length + valL t) : t.length < 9 := by
  rcases Nat.lt_or_ge t.length 9 with q | q
  · exact q
  · exfalso
    have h2 : (10 : Int) ^ 9 ≤ 10 ^ t.length := by
      have := Nat.pow_le_pow_right (n := 10) (by decide) q
      exact_mod_cast this
    have h3 : 1 * (10 : Int) ^ t.length ≤ k * 10 ^ t.length := Int.mul_le_mul_of_nonneg_right (by omega) (by omega)
    omega
theorem dig_word (l : List UInt8) (hl : ∀ c ∈ l, isD c = true) (r : List UInt8) (hr : ∀ c r', r = c :: r' → isD c = false) : digL (l ++ r) = l := by
  unfold digL
  induction l with
  | nil =>
    cases r with
    | nil => rfl
    | cons c r => rw [List.nil_append, List.takeWhile_cons, hr c r rfl]; rfl
  | cons c l ih =>
    rw [List.cons_append, List.takeWhile_cons, if_pos (hl c (by simp)), ih (fun x hx => hl x (by simp [hx]))]
theorem num_word (a b : ByteArray) (l : List UInt8) (h1 : l ≠ []) (h9 : l.length ≤ 9) (hl : ∀ c ∈ l, isD c = true) (hb : ∀ c r', b.data.toList = c :: r' → isD c = false) :
    numR (a ++ (⟨l.toArray⟩ : ByteArray) ++ b) a.size = (valL l, (a.size : Int) + l.length, true) := by
  have e : from_ (a ++ (⟨l.toArray⟩ : ByteArray) ++ b) a.size = l ++ b.data.toList := by
    rw [ByteArray.append_assoc, from_app, app_data, mk_data]
  have hpos : 0 < l.length := List.length_pos_iff.2 h1
  unfold numR
  rw [e, dig_word l hl _ hb, if_pos]
  refine ⟨by omega, ?_, by omega, h9⟩
  rw [ByteArray.size_append, ByteArray.size_append]; omega
theorem num_long (a b : ByteArray) : numR (a ++ (⟨#[49, 50, 51, 52, 53, 54, 55, 56, 57, 48]⟩ : ByteArray) ++ b) a.size = (0, (a.size : Int), false) := by
  have e : from_ (a ++ (⟨#[49, 50, 51, 52, 53, 54, 55, 56, 57, 48]⟩ : ByteArray) ++ b) a.size = [49, 50, 51, 52, 53, 54, 55, 56, 57, 48] ++ b.data.toList := by
    rw [ByteArray.append_assoc, from_app, app_data]
  unfold numR
  rw [e, if_neg]
  rintro ⟨_, _, _, q⟩
  have : digL ([49, 50, 51, 52, 53, 54, 55, 56, 57, 48] ++ b.data.toList) = [49, 50, 51, 52, 53, 54, 55, 56, 57, 48] ++ digL b.data.toList := by
    unfold digL
    simp [List.takeWhile_cons, isD]
  rw [this] at q
  simp at q
theorem behind_no (b : ByteArray) (h : ¬ (0 < (b.size : Int)) ∨ ¬ 48 ≤ bt b 0 ∨ ¬ bt b 0 ≤ 57) : ∀ c r', b.data.toList = c :: r' → isD c = false := by
  intro c r' hc
  have hs : b.size = r'.length + 1 := by rw [← dlen, hc]; rfl
  have h2 := from_at b 0 (by omega) (by omega)
  rw [from_zero, hc] at h2
  have h3 : c = by8 b 0 := (List.cons.inj h2).1
  unfold isD
  rw [h3]
  unfold bt at h
  simp; omega

theorem num_sz (k : Int) (t : ByteArray) (h0 : 0 ≤ k) : ((⟨#[48, 49, 50, 51, 52, 53, 54, 55, 56, 57]⟩ : ByteArray).extract (k.tmod 10).toNat (k.tmod 10 + 1).toNat ++ t).size = t.size + 1 := by
  rw [← dlen, app_data, dig_byte k h0]; simp only [List.length_append, List.length_singleton, dlen]; omega
theorem z_size : (⟨#[]⟩ : ByteArray).size = 0 := rfl

theorem numbers_law (n : Int) (a b : ByteArray) (w : World) :
    Calls Try.prog 5 #[.int .i64 n, .string a, .string b] w fun e w' => e = .returned (.bool true) ∧ Below w.heap.size w w' := by
  refine fn_intro Try.func5 rfl Try.ntmps5 rfl rfl ?_
  refine g_seq (g_ops ?_)
  refine g_val rfl rfl rfl (y_assign rfl) ?_
  refine g_nil (g_then (g_seq (g_seq (g_ops ?_))))
  refine g_val rfl rfl rfl (y_move rfl) ?_
  refine g_val rfl rfl rfl (y_ilt rfl rfl) ?_
  refine g_val rfl rfl rfl (y_move rfl) ?_
  first | refine g_casep 17 rfl (fun h1 => ?_) (fun h1 => ?_) | refine g_caseb 17 rfl (fun h1 => ?_) (fun h1 => ?_)
  · skip
    refine g_not rfl rfl rfl ?_
    refine g_not rfl rfl rfl ?_
    refine g_val rfl rfl rfl (y_pick_t rfl rfl) ?_
    refine g_val rfl rfl rfl (y_move rfl) ?_
    refine g_not rfl rfl rfl ?_
    refine g_not rfl rfl rfl ?_
    refine g_not rfl rfl rfl ?_
    refine g_val rfl rfl rfl (y_pick_t rfl rfl) ?_
    refine g_val rfl rfl rfl (y_move rfl) ?_
    refine g_not rfl rfl rfl ?_
    refine g_not rfl rfl rfl ?_
    refine g_not rfl rfl rfl ?_
    refine g_val rfl rfl rfl (y_pick_t rfl rfl) ?_
    refine g_val rfl rfl rfl (y_move rfl) ?_
    refine g_not rfl rfl rfl ?_
    refine g_not rfl rfl rfl ?_
    refine g_not rfl rfl rfl ?_
    refine g_not rfl rfl rfl ?_
    refine g_not rfl rfl rfl ?_
    refine g_not rfl rfl rfl ?_
    refine g_not rfl rfl rfl ?_
    refine g_not rfl rfl rfl ?_
    refine g_not rfl rfl rfl ?_
    refine g_not rfl rfl rfl ?_
    refine g_not rfl rfl rfl ?_
    refine g_not rfl rfl rfl ?_
    refine g_not rfl rfl rfl ?_
    refine g_val rfl rfl rfl (y_pick_t rfl rfl) ?_
    refine g_nil (g_then (g_cond_t rfl (g_seq (g_ops ?_))))
    refine g_call1 rfl rfl rfl Try.call7 (fun w hS => alive_any w) ?_
    refine g_val rfl rfl rfl (y_assign rfl) ?_
    refine g_nil (g_then (g_ret (g_then_ret ?_)))
    refine g_end1 Try.results5 rfl ?_
    exact fun w hS => ⟨rfl, hS.below⟩
  · skip
    refine g_val rfl rfl rfl (y_move rfl) ?_
    refine g_val rfl rfl rfl (y_igt rfl rfl) ?_
    refine g_val rfl rfl rfl (y_pick_f rfl rfl) ?_
    refine g_val rfl rfl rfl (y_move rfl) ?_
    first | refine g_casep 21 rfl (fun h2 => ?_) (fun h2 => ?_) | refine g_caseb 21 rfl (fun h2 => ?_) (fun h2 => ?_)
    · skip
      refine g_not rfl rfl rfl ?_
      refine g_not rfl rfl rfl ?_
      refine g_not rfl rfl rfl ?_
      refine g_val rfl rfl rfl (y_pick_t rfl rfl) ?_
      refine g_val rfl rfl rfl (y_move rfl) ?_
      refine g_not rfl rfl rfl ?_
      refine g_not rfl rfl rfl ?_
      refine g_not rfl rfl rfl ?_
      refine g_val rfl rfl rfl (y_pick_t rfl rfl) ?_
      refine g_val rfl rfl rfl (y_move rfl) ?_
      refine g_not rfl rfl rfl ?_
      refine g_not rfl rfl rfl ?_
      refine g_not rfl rfl rfl ?_
      refine g_not rfl rfl rfl ?_
      refine g_not rfl rfl rfl ?_
      refine g_not rfl rfl rfl ?_
      refine g_not rfl rfl rfl ?_
      refine g_not rfl rfl rfl ?_
      refine g_not rfl rfl rfl ?_
      refine g_not rfl rfl rfl ?_
      refine g_not rfl rfl rfl ?_
      refine g_not rfl rfl rfl ?_
      refine g_not rfl rfl rfl ?_
      refine g_val rfl rfl rfl (y_pick_t rfl rfl) ?_
      refine g_nil (g_then (g_cond_t rfl (g_seq (g_ops ?_))))
      refine g_call1 rfl rfl rfl Try.call7 (fun w hS => alive_any w) ?_
      refine g_val rfl rfl rfl (y_assign rfl) ?_
      refine g_nil (g_then (g_ret (g_then_ret ?_)))
      refine g_end1 Try.results5 rfl ?_
      exact fun w hS => ⟨rfl, hS.below⟩
    · skip
      refine g_val rfl rfl rfl (y_move rfl) ?_
      refine g_val rfl rfl rfl (y_slen rfl Try.underlying9) ?_
      refine g_val rfl rfl rfl (y_igt rfl rfl) ?_
      refine g_val rfl rfl rfl (y_pick_f rfl rfl) ?_
      refine g_val rfl rfl rfl (y_move rfl) ?_
      first | refine g_casep 26 rfl (fun h3 => ?_) (fun h3 => ?_) | refine g_caseb 26 rfl (fun h3 => ?_) (fun h3 => ?_)
      · skip
        refine g_not rfl rfl rfl ?_
        refine g_not rfl rfl rfl ?_
        refine g_not rfl rfl rfl ?_
        refine g_val rfl rfl rfl (y_pick_t rfl rfl) ?_
        refine g_val rfl rfl rfl (y_move rfl) ?_
        refine g_not rfl rfl rfl ?_
        refine g_not rfl rfl rfl ?_
        refine g_not rfl rfl rfl ?_
        refine g_not rfl rfl rfl ?_
        refine g_not rfl rfl rfl ?_
        refine g_not rfl rfl rfl ?_
        refine g_not rfl rfl rfl ?_
        refine g_not rfl rfl rfl ?_
        refine g_not rfl rfl rfl ?_
        refine g_not rfl rfl rfl ?_
        refine g_not rfl rfl rfl ?_
        refine g_not rfl rfl rfl ?_
        refine g_not rfl rfl rfl ?_
        refine g_val rfl rfl rfl (y_pick_t rfl rfl) ?_
        refine g_nil (g_then (g_cond_t rfl (g_seq (g_ops ?_))))
        refine g_call1 rfl rfl rfl Try.call7 (fun w hS => alive_any w) ?_
        refine g_val rfl rfl rfl (y_assign rfl) ?_
        refine g_nil (g_then (g_ret (g_then_ret ?_)))
        refine g_end1 Try.results5 rfl ?_
        exact fun w hS => ⟨rfl, hS.below⟩
      · skip
        refine g_val rfl rfl rfl (y_move rfl) ?_
        refine g_val rfl rfl rfl (y_slen rfl Try.underlying9) ?_
        refine g_val rfl rfl rfl (y_igt rfl rfl) ?_
        refine g_val rfl rfl rfl (y_pick_f rfl rfl) ?_
        refine g_val rfl rfl rfl (y_move rfl) ?_
        first | refine g_casep 31 rfl (fun h4 => ?_) (fun h4 => ?_) | refine g_caseb 31 rfl (fun h4 => ?_) (fun h4 => ?_)
        · skip
          refine g_not rfl rfl rfl ?_
          refine g_not rfl rfl rfl ?_
          refine g_not rfl rfl rfl ?_
          refine g_not rfl rfl rfl ?_
          refine g_not rfl rfl rfl ?_
          refine g_not rfl rfl rfl ?_
          refine g_not rfl rfl rfl ?_
          refine g_not rfl rfl rfl ?_
          refine g_not rfl rfl rfl ?_
          refine g_not rfl rfl rfl ?_
          refine g_not rfl rfl rfl ?_
          refine g_not rfl rfl rfl ?_
          refine g_not rfl rfl rfl ?_
          refine g_val rfl rfl rfl (y_pick_t rfl rfl) ?_
          refine g_nil (g_then (g_cond_t rfl (g_seq (g_ops ?_))))
          refine g_call1 rfl rfl rfl Try.call7 (fun w hS => alive_any w) ?_
          refine g_val rfl rfl rfl (y_assign rfl) ?_
          refine g_nil (g_then (g_ret (g_then_ret ?_)))
          refine g_end1 Try.results5 rfl ?_
          exact fun w hS => ⟨rfl, hS.below⟩
        · skip
          refine g_val rfl rfl rfl (y_move rfl) ?_
          refine g_val rfl rfl rfl (y_slen rfl Try.underlying9) ?_
          refine g_val rfl rfl rfl (y_igt rfl rfl) ?_
          refine g_val rfl rfl rfl (y_move rfl) ?_
          first | refine g_casep 35 rfl (fun h5 => ?_) (fun h5 => ?_) | refine g_caseb 35 rfl (fun h5 => ?_) (fun h5 => ?_)
          · skip
            refine g_val rfl rfl rfl (y_move rfl) ?_
            refine g_val rfl rfl rfl (y_sat rfl rfl Try.underlying9 (by omega) (by omega)) ?_
            refine g_val rfl rfl rfl (y_ige rfl rfl) ?_
            refine g_val rfl rfl rfl (y_pick_t rfl rfl) ?_
            refine g_val rfl rfl rfl (y_move rfl) ?_
            first | refine g_casep 40 rfl (fun h6 => ?_) (fun h6 => ?_) | refine g_caseb 40 rfl (fun h6 => ?_) (fun h6 => ?_)
            · skip
              refine g_val rfl rfl rfl (y_move rfl) ?_
              refine g_val rfl rfl rfl (y_sat rfl rfl Try.underlying9 (by omega) (by omega)) ?_
              refine g_val rfl rfl rfl (y_ile rfl rfl) ?_
              refine g_val rfl rfl rfl (y_pick_t rfl rfl) ?_
              refine g_val rfl rfl rfl (y_pick_f rfl rfl) ?_
              refine g_nil (g_then ?_)
              first | refine g_casep 45 rfl (fun h7 => ?_) (fun h7 => ?_) | refine g_caseb 45 rfl (fun h7 => ?_) (fun h7 => ?_)
              · skip
                refine g_cond_t rfl (g_seq (g_ops ?_))
                refine g_call1 rfl rfl rfl Try.call7 (fun w hS => alive_any w) ?_
                refine g_val rfl rfl rfl (y_assign rfl) ?_
                refine g_nil (g_then (g_ret (g_then_ret ?_)))
                refine g_end1 Try.results5 rfl ?_
                exact fun w hS => ⟨rfl, hS.below⟩
              · skip
                refine g_cond_f rfl (g_skip (g_then (g_seq (g_ops ?_))))
                refine g_val rfl rfl rfl (y_assign rfl) ?_
                refine g_nil (g_then (g_seq (g_seq (g_ops ?_))))
                refine g_val rfl rfl rfl (y_move rfl) ?_
                refine g_val rfl rfl rfl (y_assign rfl) ?_
                refine g_nil (g_then (g_block ?_))
                refine g_loop (α := {x : Int × ByteArray // 0 ≤ x.1 ∧ x.1 ≤ 999999999 ∧ n = x.1 * 10 ^ x.2.data.toList.length + valL x.2.data.toList ∧ (∀ c ∈ x.2.data.toList, isD c = true) ∧ x.2.size ≤ 9}) (fun x => [(0, .int .i64 n), (1, .string a), (2, .string b), (7, .string x.1.2), (8, .int .i64 x.1.1)]) (fun x => St w [] []) (fun x => 2 * x.1.1.toNat + (if x.1.2.size = 0 then 1 else 0)) ⟨(n, ⟨#[]⟩), by omega, by omega, by simp [valL], by simp, by rw [size_mk]; simp⟩ [0, 1, 2, 7, 8] rfl (fun w h => h.sub .slnil) ?_
                rintro ⟨⟨k, t⟩, hx⟩
                dsimp only
                dsimp only at hx
                obtain ⟨hk0, hk1, hv, hd, hl⟩ := hx
                have hm10 : k.tmod 10 = k % 10 := Int.tmod_eq_emod_of_nonneg hk0
                have hq10 : k.tdiv 10 = k / 10 := Int.tdiv_eq_ediv_of_nonneg hk0
                have hsz := num_sz k t hk0
                have hl9 : 0 < k → t.size < 9 := fun q => by have e := num_len n k t.data.toList q (by omega) (valL_bd _ hd).1 hv; rwa [dlen] at e
                refine g_seq (g_seq (g_ops ?_))
                refine g_val rfl rfl rfl (y_move rfl) ?_
                refine g_val rfl rfl rfl (y_igt rfl rfl) ?_
                refine g_val rfl rfl rfl (y_move rfl) ?_
                first | refine g_casep 50 rfl (fun h8 => ?_) (fun h8 => ?_) | refine g_caseb 50 rfl (fun h8 => ?_) (fun h8 => ?_)
                · skip
                  refine g_not rfl rfl rfl ?_
                  refine g_not rfl rfl rfl ?_
                  refine g_val rfl rfl rfl (y_pick_t rfl rfl) ?_
                  refine g_nil (g_then (g_cond_t rfl (g_skip (g_then (g_seq (g_block (g_ops ?_)))))))
                  refine g_val rfl rfl rfl (y_move rfl) ?_
                  refine g_val rfl rfl rfl (y_irem rfl rfl (by decide)) ?_
                  refine g_val rfl rfl rfl (y_move rfl) ?_
                  refine g_val rfl rfl rfl (y_irem rfl rfl (by decide)) ?_
                  refine g_val rfl rfl rfl (by first | exact y_addi rfl rfl (by first | omega | (simp only [size_mk, ByteArray.size_append, ByteArray.size_extract]; omega)) | exact y_iadd rfl rfl) ?_
                  refine g_val rfl rfl rfl (y_ssl rfl rfl rfl Try.underlying9 (by omega) (by omega) (by first | omega | (simp only [size_mk, List.length_cons, List.length_nil]; omega))) ?_
                  refine g_val rfl rfl rfl (y_move rfl) ?_
                  refine g_val rfl rfl rfl (y_scat rfl rfl (by first | omega | (simp only [ByteArray.size_extract, ByteArray.size_append, size_mk, List.length_append, List.length_cons, List.length_nil] <;> omega))) ?_
                  refine g_val rfl rfl rfl (y_assign rfl) ?_
                  refine g_nil (g_in_normal (g_then (g_ops ?_)))
                  refine g_val rfl rfl rfl (y_move rfl) ?_
                  refine g_val rfl rfl rfl (by first | exact y_quoi rfl rfl (by decide) (by omega) | exact y_iquo rfl rfl (by decide)) ?_
                  refine g_val rfl rfl rfl (y_assign rfl) ?_
                  refine g_nil ?_
                  exact g_again ⟨(k.tdiv 10, _), by dsimp only; omega, by dsimp only; omega, by dsimp only; rw [app_data, dig_byte k (by omega), hq10, List.singleton_append, List.length_cons]; exact num_step n k _ (by omega) hv, by dsimp only; rw [app_data, dig_byte k (by omega)]; intro c hc; rcases List.mem_append.1 hc with q | q; (rw [List.mem_singleton.1 q]; exact (dig_isD k (by omega)).1); exact hd c q, by dsimp only; rw [hsz]; first | (have := hl9 (by omega); omega) | (simp_all [size_mk]; done)⟩ [0, 1, 2, 7, 8] (by dsimp only; rw [hsz, if_neg (by omega)]; first | (split <;> omega) | (rw [if_pos (by rw [‹t = _›]; rfl)]; omega)) rfl (fun w h => h.sub .slnil)
                · skip
                  refine g_val rfl rfl rfl (y_move rfl) ?_
                  refine g_val rfl rfl rfl (y_seq rfl rfl) ?_
                  refine g_val rfl rfl rfl (y_pick_f rfl rfl) ?_
                  refine g_nil (g_then ?_)
                  first | refine g_casep 53 rfl (fun h9 => ?_) (fun h9 => ?_) | refine g_caseb 53 rfl (fun h9 => ?_) (fun h9 => ?_)
                  · skip
                    refine g_cond_t rfl (g_skip (g_then (g_seq (g_block (g_ops ?_)))))
                    refine g_val rfl rfl rfl (y_move rfl) ?_
                    refine g_val rfl rfl rfl (y_irem rfl rfl (by decide)) ?_
                    refine g_val rfl rfl rfl (y_move rfl) ?_
                    refine g_val rfl rfl rfl (y_irem rfl rfl (by decide)) ?_
                    refine g_val rfl rfl rfl (by first | exact y_addi rfl rfl (by first | omega | (simp only [size_mk, ByteArray.size_append, ByteArray.size_extract]; omega)) | exact y_iadd rfl rfl) ?_
                    refine g_val rfl rfl rfl (y_ssl rfl rfl rfl Try.underlying9 (by omega) (by omega) (by first | omega | (simp only [size_mk, List.length_cons, List.length_nil]; omega))) ?_
                    refine g_val rfl rfl rfl (y_move rfl) ?_
                    refine g_val rfl rfl rfl (y_scat rfl rfl (by first | omega | (simp only [ByteArray.size_extract, ByteArray.size_append, size_mk, List.length_append, List.length_cons, List.length_nil] <;> omega))) ?_
                    refine g_val rfl rfl rfl (y_assign rfl) ?_
                    refine g_nil (g_in_normal (g_then (g_ops ?_)))
                    refine g_val rfl rfl rfl (y_move rfl) ?_
                    refine g_val rfl rfl rfl (by first | exact y_quoi rfl rfl (by decide) (by omega) | exact y_iquo rfl rfl (by decide)) ?_
                    refine g_val rfl rfl rfl (y_assign rfl) ?_
                    refine g_nil ?_
                    exact g_again ⟨(k.tdiv 10, _), by dsimp only; omega, by dsimp only; omega, by dsimp only; rw [app_data, dig_byte k (by omega), hq10, List.singleton_append, List.length_cons]; exact num_step n k _ (by omega) hv, by dsimp only; rw [app_data, dig_byte k (by omega)]; intro c hc; rcases List.mem_append.1 hc with q | q; (rw [List.mem_singleton.1 q]; exact (dig_isD k (by omega)).1); exact hd c q, by dsimp only; rw [hsz]; first | (have := hl9 (by omega); omega) | (simp_all [size_mk]; done)⟩ [0, 1, 2, 7, 8] (by dsimp only; rw [hsz, if_neg (by omega)]; first | (split <;> omega) | (rw [if_pos (by rw [‹t = _›]; rfl)]; omega)) rfl (fun w h => h.sub .slnil)
                  · skip
                    refine g_cond_f rfl (g_exit (g_then_exit (g_then_exit (g_in_exit (g_then (g_seq (g_ops ?_)))))))
                    refine g_val rfl rfl rfl (y_move rfl) ?_
                    refine g_val rfl rfl rfl (y_move rfl) ?_
                    refine g_val rfl rfl rfl (y_scat rfl rfl (by first | omega | (simp only [ByteArray.size_extract, ByteArray.size_append, size_mk, List.length_append, List.length_cons, List.length_nil] <;> omega))) ?_
                    refine g_val rfl rfl rfl (y_move rfl) ?_
                    refine g_val rfl rfl rfl (y_scat rfl rfl (by first | omega | (simp only [ByteArray.size_extract, ByteArray.size_append, size_mk, List.length_append, List.length_cons, List.length_nil] <;> omega))) ?_
                    refine g_val rfl rfl rfl (y_move rfl) ?_
                    refine g_val rfl rfl rfl (y_slen rfl Try.underlying9) ?_
                    refine g_call1 rfl rfl rfl Try.call11 (fun w hS => number_any _ _ (valL t.data.toList, (a.size : Int) + t.data.toList.length, true) (by simp only [ByteArray.size_append, size_mk, List.length_cons, List.length_nil]; omega) (by have e := num_word a b t.data.toList (fun q => ‹¬ t = _› (ba_inj q)) (by rw [dlen]; omega) hd (behind_no b (by omega)); rwa [← (ba_ext rfl : t = _)] at e) w) ?_
                    refine g_val rfl rfl rfl (y_move rfl) ?_
                    refine g_val rfl rfl rfl (y_extract rfl rfl) ?_
                    refine g_val rfl rfl rfl (y_extract rfl rfl) ?_
                    refine g_val rfl rfl rfl (y_extract rfl rfl) ?_
                    refine g_val rfl rfl rfl (y_assign rfl) ?_
                    refine g_val rfl rfl rfl (y_assign rfl) ?_
                    refine g_val rfl rfl rfl (y_assign rfl) ?_
                    refine g_nil (g_then (g_seq (g_ops ?_)))
                    refine g_val rfl rfl rfl (y_move rfl) ?_
                    refine g_val rfl rfl rfl (y_scat rfl rfl (by first | omega | (simp only [ByteArray.size_extract, ByteArray.size_append, size_mk, List.length_append, List.length_cons, List.length_nil] <;> omega))) ?_
                    refine g_val rfl rfl rfl (y_move rfl) ?_
                    refine g_val rfl rfl rfl (y_scat rfl rfl (by first | omega | (simp only [ByteArray.size_extract, ByteArray.size_append, size_mk, List.length_append, List.length_cons, List.length_nil] <;> omega))) ?_
                    refine g_val rfl rfl rfl (y_move rfl) ?_
                    refine g_val rfl rfl rfl (y_slen rfl Try.underlying9) ?_
                    refine g_call1 rfl rfl rfl Try.call11 (fun w hS => number_any _ _ _ (by simp only [ByteArray.size_append, size_mk, List.length_cons, List.length_nil]; omega) (num_long a b) w) ?_
                    refine g_val rfl rfl rfl (y_move rfl) ?_
                    refine g_val rfl rfl rfl (y_extract rfl rfl) ?_
                    refine g_val rfl rfl rfl (y_extract rfl rfl) ?_
                    refine g_val rfl rfl rfl (y_extract rfl rfl) ?_
                    refine g_val rfl rfl rfl (y_assign rfl) ?_
                    refine g_val rfl rfl rfl (y_assign rfl) ?_
                    refine g_val rfl rfl rfl (y_assign rfl) ?_
                    refine g_nil (g_then (g_seq (g_ops ?_)))
                    refine g_call1 rfl rfl rfl Try.call7 (fun w hS => alive_any w) ?_
                    refine g_val rfl rfl rfl (y_move rfl) ?_
                    first | refine g_casep 88 rfl (fun h10 => ?_) (fun h10 => ?_) | refine g_caseb 88 rfl (fun h10 => ?_) (fun h10 => ?_)
                    · skip
                      refine g_val rfl rfl rfl (y_move rfl) ?_
                      refine g_val rfl rfl rfl (y_pick_t rfl rfl) ?_
                      refine g_val rfl rfl rfl (y_move rfl) ?_
                      first | refine g_casep 91 rfl (fun h11 => ?_) (fun h11 => ?_) | refine g_caseb 91 rfl (fun h11 => ?_) (fun h11 => ?_)
                      · skip
                        refine g_val rfl rfl rfl (y_move rfl) ?_
                        refine g_val rfl rfl rfl (y_move rfl) ?_
                        refine g_val rfl rfl rfl (y_ieq rfl rfl) ?_
                        refine g_val rfl rfl rfl (y_pick_t rfl rfl) ?_
                        refine g_val rfl rfl rfl (y_move rfl) ?_
                        first | refine g_casep 96 rfl (fun h12 => ?_) (fun h12 => ?_) | refine g_caseb 96 rfl (fun h12 => ?_) (fun h12 => ?_)
                        · skip
                          refine g_val rfl rfl rfl (y_move rfl) ?_
                          refine g_val rfl rfl rfl (y_move rfl) ?_
                          refine g_val rfl rfl rfl (y_slen rfl Try.underlying9) ?_
                          refine g_val rfl rfl rfl (y_move rfl) ?_
                          refine g_val rfl rfl rfl (y_slen rfl Try.underlying9) ?_
                          refine g_val rfl rfl rfl (by first | exact y_addi rfl rfl (by first | omega | (simp only [size_mk, ByteArray.size_append, ByteArray.size_extract]; omega)) | exact y_iadd rfl rfl) ?_
                          refine g_val rfl rfl rfl (y_ieq rfl rfl) ?_
                          refine g_val rfl rfl rfl (y_pick_t rfl rfl) ?_
                          refine g_val rfl rfl rfl (y_move rfl) ?_
                          first | refine g_casep 105 rfl (fun h13 => ?_) (fun h13 => ?_) | refine g_caseb 105 rfl (fun h13 => ?_) (fun h13 => ?_)
                          · skip
                            refine g_val rfl rfl rfl (y_move rfl) ?_
                            refine g_val rfl rfl rfl ((by first | exact y_notp rfl | exact y_not rfl)) ?_
                            refine g_val rfl rfl rfl (y_pick_t rfl rfl) ?_
                            refine g_val rfl rfl rfl (y_assign rfl) ?_
                            refine g_nil (g_then (g_ret ?_))
                            refine g_end1 Try.results5 rfl ?_
                            have hk00 : k = 0 := by omega
                            have hnn : valL t.data.toList = n := by rw [hv, hk00]; simp
                            clear hv hd hl hl9 hsz hm10 hq10 hk1 hk0
                            exact fun w hS => ⟨ret_bool (by simp_all [dlen]), hS.below⟩
                          · skip
                            refine g_not rfl rfl rfl ?_
                            refine g_not rfl rfl rfl ?_
                            refine g_val rfl rfl rfl (y_pick_f rfl rfl) ?_
                            refine g_val rfl rfl rfl (y_assign rfl) ?_
                            refine g_nil (g_then (g_ret ?_))
                            refine g_end1 Try.results5 rfl ?_
                            have hk00 : k = 0 := by omega
                            have hnn : valL t.data.toList = n := by rw [hv, hk00]; simp
                            clear hv hd hl hl9 hsz hm10 hq10 hk1 hk0
                            exfalso
                            simp_all [dlen]
                        · skip
                          refine g_not rfl rfl rfl ?_
                          refine g_not rfl rfl rfl ?_
                          refine g_not rfl rfl rfl ?_
                          refine g_not rfl rfl rfl ?_
                          refine g_not rfl rfl rfl ?_
                          refine g_not rfl rfl rfl ?_
                          refine g_not rfl rfl rfl ?_
                          refine g_val rfl rfl rfl (y_pick_f rfl rfl) ?_
                          refine g_val rfl rfl rfl (y_move rfl) ?_
                          refine g_not rfl rfl rfl ?_
                          refine g_not rfl rfl rfl ?_
                          refine g_val rfl rfl rfl (y_pick_f rfl rfl) ?_
                          refine g_val rfl rfl rfl (y_assign rfl) ?_
                          refine g_nil (g_then (g_ret ?_))
                          refine g_end1 Try.results5 rfl ?_
                          have hk00 : k = 0 := by omega
                          have hnn : valL t.data.toList = n := by rw [hv, hk00]; simp
                          clear hv hd hl hl9 hsz hm10 hq10 hk1 hk0
                          exfalso
                          simp_all [dlen]
                      · skip
                        refine g_not rfl rfl rfl ?_
                        refine g_not rfl rfl rfl ?_
                        refine g_not rfl rfl rfl ?_
                        refine g_val rfl rfl rfl (y_pick_f rfl rfl) ?_
                        refine g_val rfl rfl rfl (y_move rfl) ?_
                        refine g_not rfl rfl rfl ?_
                        refine g_not rfl rfl rfl ?_
                        refine g_not rfl rfl rfl ?_
                        refine g_not rfl rfl rfl ?_
                        refine g_not rfl rfl rfl ?_
                        refine g_not rfl rfl rfl ?_
                        refine g_not rfl rfl rfl ?_
                        refine g_val rfl rfl rfl (y_pick_f rfl rfl) ?_
                        refine g_val rfl rfl rfl (y_move rfl) ?_
                        refine g_not rfl rfl rfl ?_
                        refine g_not rfl rfl rfl ?_
                        refine g_val rfl rfl rfl (y_pick_f rfl rfl) ?_
                        refine g_val rfl rfl rfl (y_assign rfl) ?_
                        refine g_nil (g_then (g_ret ?_))
                        refine g_end1 Try.results5 rfl ?_
                        have hk00 : k = 0 := by omega
                        have hnn : valL t.data.toList = n := by rw [hv, hk00]; simp
                        clear hv hd hl hl9 hsz hm10 hq10 hk1 hk0
                        exfalso
                        simp_all [dlen]
                    · skip
                      refine g_not rfl rfl rfl ?_
                      refine g_val rfl rfl rfl (y_pick_f rfl rfl) ?_
                      refine g_val rfl rfl rfl (y_move rfl) ?_
                      refine g_not rfl rfl rfl ?_
                      refine g_not rfl rfl rfl ?_
                      refine g_not rfl rfl rfl ?_
                      refine g_val rfl rfl rfl (y_pick_f rfl rfl) ?_
                      refine g_val rfl rfl rfl (y_move rfl) ?_
                      refine g_not rfl rfl rfl ?_
                      refine g_not rfl rfl rfl ?_
                      refine g_not rfl rfl rfl ?_
                      refine g_not rfl rfl rfl ?_
                      refine g_not rfl rfl rfl ?_
                      refine g_not rfl rfl rfl ?_
                      refine g_not rfl rfl rfl ?_
                      refine g_val rfl rfl rfl (y_pick_f rfl rfl) ?_
                      refine g_val rfl rfl rfl (y_move rfl) ?_
                      refine g_not rfl rfl rfl ?_
                      refine g_not rfl rfl rfl ?_
                      refine g_val rfl rfl rfl (y_pick_f rfl rfl) ?_
                      refine g_val rfl rfl rfl (y_assign rfl) ?_
                      refine g_nil (g_then (g_ret ?_))
                      refine g_end1 Try.results5 rfl ?_
                      have hk00 : k = 0 := by omega
                      have hnn : valL t.data.toList = n := by rw [hv, hk00]; simp
                      clear hv hd hl hl9 hsz hm10 hq10 hk1 hk0
                      exfalso
                      simp_all [dlen]
            · skip
              refine g_not rfl rfl rfl ?_
              refine g_not rfl rfl rfl ?_
              refine g_not rfl rfl rfl ?_
              refine g_val rfl rfl rfl (y_pick_f rfl rfl) ?_
              refine g_val rfl rfl rfl (y_pick_f rfl rfl) ?_
              refine g_nil (g_then (g_cond_f rfl (g_skip (g_then (g_seq (g_ops ?_))))))
              refine g_val rfl rfl rfl (y_assign rfl) ?_
              refine g_nil (g_then (g_seq (g_seq (g_ops ?_))))
              refine g_val rfl rfl rfl (y_move rfl) ?_
              refine g_val rfl rfl rfl (y_assign rfl) ?_
              refine g_nil (g_then (g_block ?_))
              refine g_loop (α := {x : Int × ByteArray // 0 ≤ x.1 ∧ x.1 ≤ 999999999 ∧ n = x.1 * 10 ^ x.2.data.toList.length + valL x.2.data.toList ∧ (∀ c ∈ x.2.data.toList, isD c = true) ∧ x.2.size ≤ 9}) (fun x => [(0, .int .i64 n), (1, .string a), (2, .string b), (7, .string x.1.2), (8, .int .i64 x.1.1)]) (fun x => St w [] []) (fun x => 2 * x.1.1.toNat + (if x.1.2.size = 0 then 1 else 0)) ⟨(n, ⟨#[]⟩), by omega, by omega, by simp [valL], by simp, by rw [size_mk]; simp⟩ [0, 1, 2, 7, 8] rfl (fun w h => h.sub .slnil) ?_
              rintro ⟨⟨k, t⟩, hx⟩
              dsimp only
              dsimp only at hx
              obtain ⟨hk0, hk1, hv, hd, hl⟩ := hx
              have hm10 : k.tmod 10 = k % 10 := Int.tmod_eq_emod_of_nonneg hk0
              have hq10 : k.tdiv 10 = k / 10 := Int.tdiv_eq_ediv_of_nonneg hk0
              have hsz := num_sz k t hk0
              have hl9 : 0 < k → t.size < 9 := fun q => by have e := num_len n k t.data.toList q (by omega) (valL_bd _ hd).1 hv; rwa [dlen] at e
              refine g_seq (g_seq (g_ops ?_))
              refine g_val rfl rfl rfl (y_move rfl) ?_
              refine g_val rfl rfl rfl (y_igt rfl rfl) ?_
              refine g_val rfl rfl rfl (y_move rfl) ?_
              first | refine g_casep 50 rfl (fun h14 => ?_) (fun h14 => ?_) | refine g_caseb 50 rfl (fun h14 => ?_) (fun h14 => ?_)
              · skip
                refine g_not rfl rfl rfl ?_
                refine g_not rfl rfl rfl ?_
                refine g_val rfl rfl rfl (y_pick_t rfl rfl) ?_
                refine g_nil (g_then (g_cond_t rfl (g_skip (g_then (g_seq (g_block (g_ops ?_)))))))
                refine g_val rfl rfl rfl (y_move rfl) ?_
                refine g_val rfl rfl rfl (y_irem rfl rfl (by decide)) ?_
                refine g_val rfl rfl rfl (y_move rfl) ?_
                refine g_val rfl rfl rfl (y_irem rfl rfl (by decide)) ?_
                refine g_val rfl rfl rfl (by first | exact y_addi rfl rfl (by first | omega | (simp only [size_mk, ByteArray.size_append, ByteArray.size_extract]; omega)) | exact y_iadd rfl rfl) ?_
                refine g_val rfl rfl rfl (y_ssl rfl rfl rfl Try.underlying9 (by omega) (by omega) (by first | omega | (simp only [size_mk, List.length_cons, List.length_nil]; omega))) ?_
                refine g_val rfl rfl rfl (y_move rfl) ?_
                refine g_val rfl rfl rfl (y_scat rfl rfl (by first | omega | (simp only [ByteArray.size_extract, ByteArray.size_append, size_mk, List.length_append, List.length_cons, List.length_nil] <;> omega))) ?_
                refine g_val rfl rfl rfl (y_assign rfl) ?_
                refine g_nil (g_in_normal (g_then (g_ops ?_)))
                refine g_val rfl rfl rfl (y_move rfl) ?_
                refine g_val rfl rfl rfl (by first | exact y_quoi rfl rfl (by decide) (by omega) | exact y_iquo rfl rfl (by decide)) ?_
                refine g_val rfl rfl rfl (y_assign rfl) ?_
                refine g_nil ?_
                exact g_again ⟨(k.tdiv 10, _), by dsimp only; omega, by dsimp only; omega, by dsimp only; rw [app_data, dig_byte k (by omega), hq10, List.singleton_append, List.length_cons]; exact num_step n k _ (by omega) hv, by dsimp only; rw [app_data, dig_byte k (by omega)]; intro c hc; rcases List.mem_append.1 hc with q | q; (rw [List.mem_singleton.1 q]; exact (dig_isD k (by omega)).1); exact hd c q, by dsimp only; rw [hsz]; first | (have := hl9 (by omega); omega) | (simp_all [size_mk]; done)⟩ [0, 1, 2, 7, 8] (by dsimp only; rw [hsz, if_neg (by omega)]; first | (split <;> omega) | (rw [if_pos (by rw [‹t = _›]; rfl)]; omega)) rfl (fun w h => h.sub .slnil)
              · skip
                refine g_val rfl rfl rfl (y_move rfl) ?_
                refine g_val rfl rfl rfl (y_seq rfl rfl) ?_
                refine g_val rfl rfl rfl (y_pick_f rfl rfl) ?_
                refine g_nil (g_then ?_)
                first | refine g_casep 53 rfl (fun h15 => ?_) (fun h15 => ?_) | refine g_caseb 53 rfl (fun h15 => ?_) (fun h15 => ?_)
                · skip
                  refine g_cond_t rfl (g_skip (g_then (g_seq (g_block (g_ops ?_)))))
                  refine g_val rfl rfl rfl (y_move rfl) ?_
                  refine g_val rfl rfl rfl (y_irem rfl rfl (by decide)) ?_
                  refine g_val rfl rfl rfl (y_move rfl) ?_
                  refine g_val rfl rfl rfl (y_irem rfl rfl (by decide)) ?_
                  refine g_val rfl rfl rfl (by first | exact y_addi rfl rfl (by first | omega | (simp only [size_mk, ByteArray.size_append, ByteArray.size_extract]; omega)) | exact y_iadd rfl rfl) ?_
                  refine g_val rfl rfl rfl (y_ssl rfl rfl rfl Try.underlying9 (by omega) (by omega) (by first | omega | (simp only [size_mk, List.length_cons, List.length_nil]; omega))) ?_
                  refine g_val rfl rfl rfl (y_move rfl) ?_
                  refine g_val rfl rfl rfl (y_scat rfl rfl (by first | omega | (simp only [ByteArray.size_extract, ByteArray.size_append, size_mk, List.length_append, List.length_cons, List.length_nil] <;> omega))) ?_
                  refine g_val rfl rfl rfl (y_assign rfl) ?_
                  refine g_nil (g_in_normal (g_then (g_ops ?_)))
                  refine g_val rfl rfl rfl (y_move rfl) ?_
                  refine g_val rfl rfl rfl (by first | exact y_quoi rfl rfl (by decide) (by omega) | exact y_iquo rfl rfl (by decide)) ?_
                  refine g_val rfl rfl rfl (y_assign rfl) ?_
                  refine g_nil ?_
                  exact g_again ⟨(k.tdiv 10, _), by dsimp only; omega, by dsimp only; omega, by dsimp only; rw [app_data, dig_byte k (by omega), hq10, List.singleton_append, List.length_cons]; exact num_step n k _ (by omega) hv, by dsimp only; rw [app_data, dig_byte k (by omega)]; intro c hc; rcases List.mem_append.1 hc with q | q; (rw [List.mem_singleton.1 q]; exact (dig_isD k (by omega)).1); exact hd c q, by dsimp only; rw [hsz]; first | (have := hl9 (by omega); omega) | (simp_all [size_mk]; done)⟩ [0, 1, 2, 7, 8] (by dsimp only; rw [hsz, if_neg (by omega)]; first | (split <;> omega) | (rw [if_pos (by rw [‹t = _›]; rfl)]; omega)) rfl (fun w h => h.sub .slnil)
                · skip
                  refine g_cond_f rfl (g_exit (g_then_exit (g_then_exit (g_in_exit (g_then (g_seq (g_ops ?_)))))))
                  refine g_val rfl rfl rfl (y_move rfl) ?_
                  refine g_val rfl rfl rfl (y_move rfl) ?_
                  refine g_val rfl rfl rfl (y_scat rfl rfl (by first | omega | (simp only [ByteArray.size_extract, ByteArray.size_append, size_mk, List.length_append, List.length_cons, List.length_nil] <;> omega))) ?_
                  refine g_val rfl rfl rfl (y_move rfl) ?_
                  refine g_val rfl rfl rfl (y_scat rfl rfl (by first | omega | (simp only [ByteArray.size_extract, ByteArray.size_append, size_mk, List.length_append, List.length_cons, List.length_nil] <;> omega))) ?_
                  refine g_val rfl rfl rfl (y_move rfl) ?_
                  refine g_val rfl rfl rfl (y_slen rfl Try.underlying9) ?_
                  refine g_call1 rfl rfl rfl Try.call11 (fun w hS => number_any _ _ (valL t.data.toList, (a.size : Int) + t.data.toList.length, true) (by simp only [ByteArray.size_append, size_mk, List.length_cons, List.length_nil]; omega) (by have e := num_word a b t.data.toList (fun q => ‹¬ t = _› (ba_inj q)) (by rw [dlen]; omega) hd (behind_no b (by omega)); rwa [← (ba_ext rfl : t = _)] at e) w) ?_
                  refine g_val rfl rfl rfl (y_move rfl) ?_
                  refine g_val rfl rfl rfl (y_extract rfl rfl) ?_
                  refine g_val rfl rfl rfl (y_extract rfl rfl) ?_
                  refine g_val rfl rfl rfl (y_extract rfl rfl) ?_
                  refine g_val rfl rfl rfl (y_assign rfl) ?_
                  refine g_val rfl rfl rfl (y_assign rfl) ?_
                  refine g_val rfl rfl rfl (y_assign rfl) ?_
                  refine g_nil (g_then (g_seq (g_ops ?_)))
                  refine g_val rfl rfl rfl (y_move rfl) ?_
                  refine g_val rfl rfl rfl (y_scat rfl rfl (by first | omega | (simp only [ByteArray.size_extract, ByteArray.size_append, size_mk, List.length_append, List.length_cons, List.length_nil] <;> omega))) ?_
                  refine g_val rfl rfl rfl (y_move rfl) ?_
                  refine g_val rfl rfl rfl (y_scat rfl rfl (by first | omega | (simp only [ByteArray.size_extract, ByteArray.size_append, size_mk, List.length_append, List.length_cons, List.length_nil] <;> omega))) ?_
                  refine g_val rfl rfl rfl (y_move rfl) ?_
                  refine g_val rfl rfl rfl (y_slen rfl Try.underlying9) ?_
                  refine g_call1 rfl rfl rfl Try.call11 (fun w hS => number_any _ _ _ (by simp only [ByteArray.size_append, size_mk, List.length_cons, List.length_nil]; omega) (num_long a b) w) ?_
                  refine g_val rfl rfl rfl (y_move rfl) ?_
                  refine g_val rfl rfl rfl (y_extract rfl rfl) ?_
                  refine g_val rfl rfl rfl (y_extract rfl rfl) ?_
                  refine g_val rfl rfl rfl (y_extract rfl rfl) ?_
                  refine g_val rfl rfl rfl (y_assign rfl) ?_
                  refine g_val rfl rfl rfl (y_assign rfl) ?_
                  refine g_val rfl rfl rfl (y_assign rfl) ?_
                  refine g_nil (g_then (g_seq (g_ops ?_)))
                  refine g_call1 rfl rfl rfl Try.call7 (fun w hS => alive_any w) ?_
                  refine g_val rfl rfl rfl (y_move rfl) ?_
                  first | refine g_casep 88 rfl (fun h16 => ?_) (fun h16 => ?_) | refine g_caseb 88 rfl (fun h16 => ?_) (fun h16 => ?_)
                  · skip
                    refine g_val rfl rfl rfl (y_move rfl) ?_
                    refine g_val rfl rfl rfl (y_pick_t rfl rfl) ?_
                    refine g_val rfl rfl rfl (y_move rfl) ?_
                    first | refine g_casep 91 rfl (fun h17 => ?_) (fun h17 => ?_) | refine g_caseb 91 rfl (fun h17 => ?_) (fun h17 => ?_)
                    · skip
                      refine g_val rfl rfl rfl (y_move rfl) ?_
                      refine g_val rfl rfl rfl (y_move rfl) ?_
                      refine g_val rfl rfl rfl (y_ieq rfl rfl) ?_
                      refine g_val rfl rfl rfl (y_pick_t rfl rfl) ?_
                      refine g_val rfl rfl rfl (y_move rfl) ?_
                      first | refine g_casep 96 rfl (fun h18 => ?_) (fun h18 => ?_) | refine g_caseb 96 rfl (fun h18 => ?_) (fun h18 => ?_)
                      · skip
                        refine g_val rfl rfl rfl (y_move rfl) ?_
                        refine g_val rfl rfl rfl (y_move rfl) ?_
                        refine g_val rfl rfl rfl (y_slen rfl Try.underlying9) ?_
                        refine g_val rfl rfl rfl (y_move rfl) ?_
                        refine g_val rfl rfl rfl (y_slen rfl Try.underlying9) ?_
                        refine g_val rfl rfl rfl (by first | exact y_addi rfl rfl (by first | omega | (simp only [size_mk, ByteArray.size_append, ByteArray.size_extract]; omega)) | exact y_iadd rfl rfl) ?_
                        refine g_val rfl rfl rfl (y_ieq rfl rfl) ?_
                        refine g_val rfl rfl rfl (y_pick_t rfl rfl) ?_
                        refine g_val rfl rfl rfl (y_move rfl) ?_
                        first | refine g_casep 105 rfl (fun h19 => ?_) (fun h19 => ?_) | refine g_caseb 105 rfl (fun h19 => ?_) (fun h19 => ?_)
                        · skip
                          refine g_val rfl rfl rfl (y_move rfl) ?_
                          refine g_val rfl rfl rfl ((by first | exact y_notp rfl | exact y_not rfl)) ?_
                          refine g_val rfl rfl rfl (y_pick_t rfl rfl) ?_
                          refine g_val rfl rfl rfl (y_assign rfl) ?_
                          refine g_nil (g_then (g_ret ?_))
                          refine g_end1 Try.results5 rfl ?_
                          have hk00 : k = 0 := by omega
                          have hnn : valL t.data.toList = n := by rw [hv, hk00]; simp
                          clear hv hd hl hl9 hsz hm10 hq10 hk1 hk0
                          exact fun w hS => ⟨ret_bool (by simp_all [dlen]), hS.below⟩
                        · skip
                          refine g_not rfl rfl rfl ?_
                          refine g_not rfl rfl rfl ?_
                          refine g_val rfl rfl rfl (y_pick_f rfl rfl) ?_
                          refine g_val rfl rfl rfl (y_assign rfl) ?_
                          refine g_nil (g_then (g_ret ?_))
                          refine g_end1 Try.results5 rfl ?_
                          have hk00 : k = 0 := by omega
                          have hnn : valL t.data.toList = n := by rw [hv, hk00]; simp
                          clear hv hd hl hl9 hsz hm10 hq10 hk1 hk0
                          exfalso
                          simp_all [dlen]
                      · skip
                        refine g_not rfl rfl rfl ?_
                        refine g_not rfl rfl rfl ?_
                        refine g_not rfl rfl rfl ?_
                        refine g_not rfl rfl rfl ?_
                        refine g_not rfl rfl rfl ?_
                        refine g_not rfl rfl rfl ?_
                        refine g_not rfl rfl rfl ?_
                        refine g_val rfl rfl rfl (y_pick_f rfl rfl) ?_
                        refine g_val rfl rfl rfl (y_move rfl) ?_
                        refine g_not rfl rfl rfl ?_
                        refine g_not rfl rfl rfl ?_
                        refine g_val rfl rfl rfl (y_pick_f rfl rfl) ?_
                        refine g_val rfl rfl rfl (y_assign rfl) ?_
                        refine g_nil (g_then (g_ret ?_))
                        refine g_end1 Try.results5 rfl ?_
                        have hk00 : k = 0 := by omega
                        have hnn : valL t.data.toList = n := by rw [hv, hk00]; simp
                        clear hv hd hl hl9 hsz hm10 hq10 hk1 hk0
                        exfalso
                        simp_all [dlen]
                    · skip
                      refine g_not rfl rfl rfl ?_
                      refine g_not rfl rfl rfl ?_
                      refine g_not rfl rfl rfl ?_
                      refine g_val rfl rfl rfl (y_pick_f rfl rfl) ?_
                      refine g_val rfl rfl rfl (y_move rfl) ?_
                      refine g_not rfl rfl rfl ?_
                      refine g_not rfl rfl rfl ?_
                      refine g_not rfl rfl rfl ?_
                      refine g_not rfl rfl rfl ?_
                      refine g_not rfl rfl rfl ?_
                      refine g_not rfl rfl rfl ?_
                      refine g_not rfl rfl rfl ?_
                      refine g_val rfl rfl rfl (y_pick_f rfl rfl) ?_
                      refine g_val rfl rfl rfl (y_move rfl) ?_
                      refine g_not rfl rfl rfl ?_
                      refine g_not rfl rfl rfl ?_
                      refine g_val rfl rfl rfl (y_pick_f rfl rfl) ?_
                      refine g_val rfl rfl rfl (y_assign rfl) ?_
                      refine g_nil (g_then (g_ret ?_))
                      refine g_end1 Try.results5 rfl ?_
                      have hk00 : k = 0 := by omega
                      have hnn : valL t.data.toList = n := by rw [hv, hk00]; simp
                      clear hv hd hl hl9 hsz hm10 hq10 hk1 hk0
                      exfalso
                      simp_all [dlen]
                  · skip
                    refine g_not rfl rfl rfl ?_
                    refine g_val rfl rfl rfl (y_pick_f rfl rfl) ?_
                    refine g_val rfl rfl rfl (y_move rfl) ?_
                    refine g_not rfl rfl rfl ?_
                    refine g_not rfl rfl rfl ?_
                    refine g_not rfl rfl rfl ?_
                    refine g_val rfl rfl rfl (y_pick_f rfl rfl) ?_
                    refine g_val rfl rfl rfl (y_move rfl) ?_
                    refine g_not rfl rfl rfl ?_
                    refine g_not rfl rfl rfl ?_
                    refine g_not rfl rfl rfl ?_
                    refine g_not rfl rfl rfl ?_
                    refine g_not rfl rfl rfl ?_
                    refine g_not rfl rfl rfl ?_
                    refine g_not rfl rfl rfl ?_
                    refine g_val rfl rfl rfl (y_pick_f rfl rfl) ?_
                    refine g_val rfl rfl rfl (y_move rfl) ?_
                    refine g_not rfl rfl rfl ?_
                    refine g_not rfl rfl rfl ?_
                    refine g_val rfl rfl rfl (y_pick_f rfl rfl) ?_
                    refine g_val rfl rfl rfl (y_assign rfl) ?_
                    refine g_nil (g_then (g_ret ?_))
                    refine g_end1 Try.results5 rfl ?_
                    have hk00 : k = 0 := by omega
                    have hnn : valL t.data.toList = n := by rw [hv, hk00]; simp
                    clear hv hd hl hl9 hsz hm10 hq10 hk1 hk0
                    exfalso
                    simp_all [dlen]
          · skip
            refine g_not rfl rfl rfl ?_
            refine g_not rfl rfl rfl ?_
            refine g_not rfl rfl rfl ?_
            refine g_val rfl rfl rfl (y_pick_f rfl rfl) ?_
            refine g_val rfl rfl rfl (y_move rfl) ?_
            refine g_not rfl rfl rfl ?_
            refine g_not rfl rfl rfl ?_
            refine g_not rfl rfl rfl ?_
            refine g_val rfl rfl rfl (y_pick_f rfl rfl) ?_
            refine g_val rfl rfl rfl (y_pick_f rfl rfl) ?_
            refine g_nil (g_then (g_cond_f rfl (g_skip (g_then (g_seq (g_ops ?_))))))
            refine g_val rfl rfl rfl (y_assign rfl) ?_
            refine g_nil (g_then (g_seq (g_seq (g_ops ?_))))
            refine g_val rfl rfl rfl (y_move rfl) ?_
            refine g_val rfl rfl rfl (y_assign rfl) ?_
            refine g_nil (g_then (g_block ?_))
            refine g_loop (α := {x : Int × ByteArray // 0 ≤ x.1 ∧ x.1 ≤ 999999999 ∧ n = x.1 * 10 ^ x.2.data.toList.length + valL x.2.data.toList ∧ (∀ c ∈ x.2.data.toList, isD c = true) ∧ x.2.size ≤ 9}) (fun x => [(0, .int .i64 n), (1, .string a), (2, .string b), (7, .string x.1.2), (8, .int .i64 x.1.1)]) (fun x => St w [] []) (fun x => 2 * x.1.1.toNat + (if x.1.2.size = 0 then 1 else 0)) ⟨(n, ⟨#[]⟩), by omega, by omega, by simp [valL], by simp, by rw [size_mk]; simp⟩ [0, 1, 2, 7, 8] rfl (fun w h => h.sub .slnil) ?_
            rintro ⟨⟨k, t⟩, hx⟩
            dsimp only
            dsimp only at hx
            obtain ⟨hk0, hk1, hv, hd, hl⟩ := hx
            have hm10 : k.tmod 10 = k % 10 := Int.tmod_eq_emod_of_nonneg hk0
            have hq10 : k.tdiv 10 = k / 10 := Int.tdiv_eq_ediv_of_nonneg hk0
            have hsz := num_sz k t hk0
            have hl9 : 0 < k → t.size < 9 := fun q => by have e := num_len n k t.data.toList q (by omega) (valL_bd _ hd).1 hv; rwa [dlen] at e
            refine g_seq (g_seq (g_ops ?_))
            refine g_val rfl rfl rfl (y_move rfl) ?_
            refine g_val rfl rfl rfl (y_igt rfl rfl) ?_
            refine g_val rfl rfl rfl (y_move rfl) ?_
            first | refine g_casep 50 rfl (fun h20 => ?_) (fun h20 => ?_) | refine g_caseb 50 rfl (fun h20 => ?_) (fun h20 => ?_)
            · skip
              refine g_not rfl rfl rfl ?_
              refine g_not rfl rfl rfl ?_
              refine g_val rfl rfl rfl (y_pick_t rfl rfl) ?_
              refine g_nil (g_then (g_cond_t rfl (g_skip (g_then (g_seq (g_block (g_ops ?_)))))))
              refine g_val rfl rfl rfl (y_move rfl) ?_
              refine g_val rfl rfl rfl (y_irem rfl rfl (by decide)) ?_
              refine g_val rfl rfl rfl (y_move rfl) ?_
              refine g_val rfl rfl rfl (y_irem rfl rfl (by decide)) ?_
              refine g_val rfl rfl rfl (by first | exact y_addi rfl rfl (by first | omega | (simp only [size_mk, ByteArray.size_append, ByteArray.size_extract]; omega)) | exact y_iadd rfl rfl) ?_
              refine g_val rfl rfl rfl (y_ssl rfl rfl rfl Try.underlying9 (by omega) (by omega) (by first | omega | (simp only [size_mk, List.length_cons, List.length_nil]; omega))) ?_
              refine g_val rfl rfl rfl (y_move rfl) ?_
              refine g_val rfl rfl rfl (y_scat rfl rfl (by first | omega | (simp only [ByteArray.size_extract, ByteArray.size_append, size_mk, List.length_append, List.length_cons, List.length_nil] <;> omega))) ?_
              refine g_val rfl rfl rfl (y_assign rfl) ?_
              refine g_nil (g_in_normal (g_then (g_ops ?_)))
              refine g_val rfl rfl rfl (y_move rfl) ?_
              refine g_val rfl rfl rfl (by first | exact y_quoi rfl rfl (by decide) (by omega) | exact y_iquo rfl rfl (by decide)) ?_
              refine g_val rfl rfl rfl (y_assign rfl) ?_
              refine g_nil ?_
              exact g_again ⟨(k.tdiv 10, _), by dsimp only; omega, by dsimp only; omega, by dsimp only; rw [app_data, dig_byte k (by omega), hq10, List.singleton_append, List.length_cons]; exact num_step n k _ (by omega) hv, by dsimp only; rw [app_data, dig_byte k (by omega)]; intro c hc; rcases List.mem_append.1 hc with q | q; (rw [List.mem_singleton.1 q]; exact (dig_isD k (by omega)).1); exact hd c q, by dsimp only; rw [hsz]; first | (have := hl9 (by omega); omega) | (simp_all [size_mk]; done)⟩ [0, 1, 2, 7, 8] (by dsimp only; rw [hsz, if_neg (by omega)]; first | (split <;> omega) | (rw [if_pos (by rw [‹t = _›]; rfl)]; omega)) rfl (fun w h => h.sub .slnil)
            · skip
              refine g_val rfl rfl rfl (y_move rfl) ?_
              refine g_val rfl rfl rfl (y_seq rfl rfl) ?_
              refine g_val rfl rfl rfl (y_pick_f rfl rfl) ?_
              refine g_nil (g_then ?_)
              first | refine g_casep 53 rfl (fun h21 => ?_) (fun h21 => ?_) | refine g_caseb 53 rfl (fun h21 => ?_) (fun h21 => ?_)
              · skip
                refine g_cond_t rfl (g_skip (g_then (g_seq (g_block (g_ops ?_)))))
                refine g_val rfl rfl rfl (y_move rfl) ?_
                refine g_val rfl rfl rfl (y_irem rfl rfl (by decide)) ?_
                refine g_val rfl rfl rfl (y_move rfl) ?_
                refine g_val rfl rfl rfl (y_irem rfl rfl (by decide)) ?_
                refine g_val rfl rfl rfl (by first | exact y_addi rfl rfl (by first | omega | (simp only [size_mk, ByteArray.size_append, ByteArray.size_extract]; omega)) | exact y_iadd rfl rfl) ?_
                refine g_val rfl rfl rfl (y_ssl rfl rfl rfl Try.underlying9 (by omega) (by omega) (by first | omega | (simp only [size_mk, List.length_cons, List.length_nil]; omega))) ?_
                refine g_val rfl rfl rfl (y_move rfl) ?_
                refine g_val rfl rfl rfl (y_scat rfl rfl (by first | omega | (simp only [ByteArray.size_extract, ByteArray.size_append, size_mk, List.length_append, List.length_cons, List.length_nil] <;> omega))) ?_
                refine g_val rfl rfl rfl (y_assign rfl) ?_
                refine g_nil (g_in_normal (g_then (g_ops ?_)))
                refine g_val rfl rfl rfl (y_move rfl) ?_
                refine g_val rfl rfl rfl (by first | exact y_quoi rfl rfl (by decide) (by omega) | exact y_iquo rfl rfl (by decide)) ?_
                refine g_val rfl rfl rfl (y_assign rfl) ?_
                refine g_nil ?_
                exact g_again ⟨(k.tdiv 10, _), by dsimp only; omega, by dsimp only; omega, by dsimp only; rw [app_data, dig_byte k (by omega), hq10, List.singleton_append, List.length_cons]; exact num_step n k _ (by omega) hv, by dsimp only; rw [app_data, dig_byte k (by omega)]; intro c hc; rcases List.mem_append.1 hc with q | q; (rw [List.mem_singleton.1 q]; exact (dig_isD k (by omega)).1); exact hd c q, by dsimp only; rw [hsz]; first | (have := hl9 (by omega); omega) | (simp_all [size_mk]; done)⟩ [0, 1, 2, 7, 8] (by dsimp only; rw [hsz, if_neg (by omega)]; first | (split <;> omega) | (rw [if_pos (by rw [‹t = _›]; rfl)]; omega)) rfl (fun w h => h.sub .slnil)
              · skip
                refine g_cond_f rfl (g_exit (g_then_exit (g_then_exit (g_in_exit (g_then (g_seq (g_ops ?_)))))))
                refine g_val rfl rfl rfl (y_move rfl) ?_
                refine g_val rfl rfl rfl (y_move rfl) ?_
                refine g_val rfl rfl rfl (y_scat rfl rfl (by first | omega | (simp only [ByteArray.size_extract, ByteArray.size_append, size_mk, List.length_append, List.length_cons, List.length_nil] <;> omega))) ?_
                refine g_val rfl rfl rfl (y_move rfl) ?_
                refine g_val rfl rfl rfl (y_scat rfl rfl (by first | omega | (simp only [ByteArray.size_extract, ByteArray.size_append, size_mk, List.length_append, List.length_cons, List.length_nil] <;> omega))) ?_
                refine g_val rfl rfl rfl (y_move rfl) ?_
                refine g_val rfl rfl rfl (y_slen rfl Try.underlying9) ?_
                refine g_call1 rfl rfl rfl Try.call11 (fun w hS => number_any _ _ (valL t.data.toList, (a.size : Int) + t.data.toList.length, true) (by simp only [ByteArray.size_append, size_mk, List.length_cons, List.length_nil]; omega) (by have e := num_word a b t.data.toList (fun q => ‹¬ t = _› (ba_inj q)) (by rw [dlen]; omega) hd (behind_no b (by omega)); rwa [← (ba_ext rfl : t = _)] at e) w) ?_
                refine g_val rfl rfl rfl (y_move rfl) ?_
                refine g_val rfl rfl rfl (y_extract rfl rfl) ?_
                refine g_val rfl rfl rfl (y_extract rfl rfl) ?_
                refine g_val rfl rfl rfl (y_extract rfl rfl) ?_
                refine g_val rfl rfl rfl (y_assign rfl) ?_
                refine g_val rfl rfl rfl (y_assign rfl) ?_
                refine g_val rfl rfl rfl (y_assign rfl) ?_
                refine g_nil (g_then (g_seq (g_ops ?_)))
                refine g_val rfl rfl rfl (y_move rfl) ?_
                refine g_val rfl rfl rfl (y_scat rfl rfl (by first | omega | (simp only [ByteArray.size_extract, ByteArray.size_append, size_mk, List.length_append, List.length_cons, List.length_nil] <;> omega))) ?_
                refine g_val rfl rfl rfl (y_move rfl) ?_
                refine g_val rfl rfl rfl (y_scat rfl rfl (by first | omega | (simp only [ByteArray.size_extract, ByteArray.size_append, size_mk, List.length_append, List.length_cons, List.length_nil] <;> omega))) ?_
                refine g_val rfl rfl rfl (y_move rfl) ?_
                refine g_val rfl rfl rfl (y_slen rfl Try.underlying9) ?_
                refine g_call1 rfl rfl rfl Try.call11 (fun w hS => number_any _ _ _ (by simp only [ByteArray.size_append, size_mk, List.length_cons, List.length_nil]; omega) (num_long a b) w) ?_
                refine g_val rfl rfl rfl (y_move rfl) ?_
                refine g_val rfl rfl rfl (y_extract rfl rfl) ?_
                refine g_val rfl rfl rfl (y_extract rfl rfl) ?_
                refine g_val rfl rfl rfl (y_extract rfl rfl) ?_
                refine g_val rfl rfl rfl (y_assign rfl) ?_
                refine g_val rfl rfl rfl (y_assign rfl) ?_
                refine g_val rfl rfl rfl (y_assign rfl) ?_
                refine g_nil (g_then (g_seq (g_ops ?_)))
                refine g_call1 rfl rfl rfl Try.call7 (fun w hS => alive_any w) ?_
                refine g_val rfl rfl rfl (y_move rfl) ?_
                first | refine g_casep 88 rfl (fun h22 => ?_) (fun h22 => ?_) | refine g_caseb 88 rfl (fun h22 => ?_) (fun h22 => ?_)
                · skip
                  refine g_val rfl rfl rfl (y_move rfl) ?_
                  refine g_val rfl rfl rfl (y_pick_t rfl rfl) ?_
                  refine g_val rfl rfl rfl (y_move rfl) ?_
                  first | refine g_casep 91 rfl (fun h23 => ?_) (fun h23 => ?_) | refine g_caseb 91 rfl (fun h23 => ?_) (fun h23 => ?_)
                  · skip
                    refine g_val rfl rfl rfl (y_move rfl) ?_
                    refine g_val rfl rfl rfl (y_move rfl) ?_
                    refine g_val rfl rfl rfl (y_ieq rfl rfl) ?_
                    refine g_val rfl rfl rfl (y_pick_t rfl rfl) ?_
                    refine g_val rfl rfl rfl (y_move rfl) ?_
                    first | refine g_casep 96 rfl (fun h24 => ?_) (fun h24 => ?_) | refine g_caseb 96 rfl (fun h24 => ?_) (fun h24 => ?_)
                    · skip
                      refine g_val rfl rfl rfl (y_move rfl) ?_
                      refine g_val rfl rfl rfl (y_move rfl) ?_
                      refine g_val rfl rfl rfl (y_slen rfl Try.underlying9) ?_
                      refine g_val rfl rfl rfl (y_move rfl) ?_
                      refine g_val rfl rfl rfl (y_slen rfl Try.underlying9) ?_
                      refine g_val rfl rfl rfl (by first | exact y_addi rfl rfl (by first | omega | (simp only [size_mk, ByteArray.size_append, ByteArray.size_extract]; omega)) | exact y_iadd rfl rfl) ?_
                      refine g_val rfl rfl rfl (y_ieq rfl rfl) ?_
                      refine g_val rfl rfl rfl (y_pick_t rfl rfl) ?_
                      refine g_val rfl rfl rfl (y_move rfl) ?_
                      first | refine g_casep 105 rfl (fun h25 => ?_) (fun h25 => ?_) | refine g_caseb 105 rfl (fun h25 => ?_) (fun h25 => ?_)
                      · skip
                        refine g_val rfl rfl rfl (y_move rfl) ?_
                        refine g_val rfl rfl rfl ((by first | exact y_notp rfl | exact y_not rfl)) ?_
                        refine g_val rfl rfl rfl (y_pick_t rfl rfl) ?_
                        refine g_val rfl rfl rfl (y_assign rfl) ?_
                        refine g_nil (g_then (g_ret ?_))
                        refine g_end1 Try.results5 rfl ?_
                        have hk00 : k = 0 := by omega
                        have hnn : valL t.data.toList = n := by rw [hv, hk00]; simp
                        clear hv hd hl hl9 hsz hm10 hq10 hk1 hk0
                        exact fun w hS => ⟨ret_bool (by simp_all [dlen]), hS.below⟩
                      · skip
                        refine g_not rfl rfl rfl ?_
                        refine g_not rfl rfl rfl ?_
                        refine g_val rfl rfl rfl (y_pick_f rfl rfl) ?_
                        refine g_val rfl rfl rfl (y_assign rfl) ?_
                        refine g_nil (g_then (g_ret ?_))
                        refine g_end1 Try.results5 rfl ?_
                        have hk00 : k = 0 := by omega
                        have hnn : valL t.data.toList = n := by rw [hv, hk00]; simp
                        clear hv hd hl hl9 hsz hm10 hq10 hk1 hk0
                        exfalso
                        simp_all [dlen]
                    · skip
                      refine g_not rfl rfl rfl ?_
                      refine g_not rfl rfl rfl ?_
                      refine g_not rfl rfl rfl ?_
                      refine g_not rfl rfl rfl ?_
                      refine g_not rfl rfl rfl ?_
                      refine g_not rfl rfl rfl ?_
                      refine g_not rfl rfl rfl ?_
                      refine g_val rfl rfl rfl (y_pick_f rfl rfl) ?_
                      refine g_val rfl rfl rfl (y_move rfl) ?_
                      refine g_not rfl rfl rfl ?_
                      refine g_not rfl rfl rfl ?_
                      refine g_val rfl rfl rfl (y_pick_f rfl rfl) ?_
                      refine g_val rfl rfl rfl (y_assign rfl) ?_
                      refine g_nil (g_then (g_ret ?_))
                      refine g_end1 Try.results5 rfl ?_
                      have hk00 : k = 0 := by omega
                      have hnn : valL t.data.toList = n := by rw [hv, hk00]; simp
                      clear hv hd hl hl9 hsz hm10 hq10 hk1 hk0
                      exfalso
                      simp_all [dlen]
                  · skip
                    refine g_not rfl rfl rfl ?_
                    refine g_not rfl rfl rfl ?_
                    refine g_not rfl rfl rfl ?_
                    refine g_val rfl rfl rfl (y_pick_f rfl rfl) ?_
                    refine g_val rfl rfl rfl (y_move rfl) ?_
                    refine g_not rfl rfl rfl ?_
                    refine g_not rfl rfl rfl ?_
                    refine g_not rfl rfl rfl ?_
                    refine g_not rfl rfl rfl ?_
                    refine g_not rfl rfl rfl ?_
                    refine g_not rfl rfl rfl ?_
                    refine g_not rfl rfl rfl ?_
                    refine g_val rfl rfl rfl (y_pick_f rfl rfl) ?_
                    refine g_val rfl rfl rfl (y_move rfl) ?_
                    refine g_not rfl rfl rfl ?_
                    refine g_not rfl rfl rfl ?_
                    refine g_val rfl rfl rfl (y_pick_f rfl rfl) ?_
                    refine g_val rfl rfl rfl (y_assign rfl) ?_
                    refine g_nil (g_then (g_ret ?_))
                    refine g_end1 Try.results5 rfl ?_
                    have hk00 : k = 0 := by omega
                    have hnn : valL t.data.toList = n := by rw [hv, hk00]; simp
                    clear hv hd hl hl9 hsz hm10 hq10 hk1 hk0
                    exfalso
                    simp_all [dlen]
                · skip
                  refine g_not rfl rfl rfl ?_
                  refine g_val rfl rfl rfl (y_pick_f rfl rfl) ?_
                  refine g_val rfl rfl rfl (y_move rfl) ?_
                  refine g_not rfl rfl rfl ?_
                  refine g_not rfl rfl rfl ?_
                  refine g_not rfl rfl rfl ?_
                  refine g_val rfl rfl rfl (y_pick_f rfl rfl) ?_
                  refine g_val rfl rfl rfl (y_move rfl) ?_
                  refine g_not rfl rfl rfl ?_
                  refine g_not rfl rfl rfl ?_
                  refine g_not rfl rfl rfl ?_
                  refine g_not rfl rfl rfl ?_
                  refine g_not rfl rfl rfl ?_
                  refine g_not rfl rfl rfl ?_
                  refine g_not rfl rfl rfl ?_
                  refine g_val rfl rfl rfl (y_pick_f rfl rfl) ?_
                  refine g_val rfl rfl rfl (y_move rfl) ?_
                  refine g_not rfl rfl rfl ?_
                  refine g_not rfl rfl rfl ?_
                  refine g_val rfl rfl rfl (y_pick_f rfl rfl) ?_
                  refine g_val rfl rfl rfl (y_assign rfl) ?_
                  refine g_nil (g_then (g_ret ?_))
                  refine g_end1 Try.results5 rfl ?_
                  have hk00 : k = 0 := by omega
                  have hnn : valL t.data.toList = n := by rw [hv, hk00]; simp
                  clear hv hd hl hl9 hsz hm10 hq10 hk1 hk0
                  exfalso
                  simp_all [dlen]

end Go.Proofs.Ytjafkmaolpkbnaa
