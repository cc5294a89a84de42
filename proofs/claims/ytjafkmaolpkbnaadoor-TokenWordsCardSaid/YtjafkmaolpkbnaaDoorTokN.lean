/- Numbers. -/
import Derived.Test.YtjafkmaolpkbnaaDoorTok
namespace Go.Proofs.YtjafkmaolpkbnaaDoor
open Go Go.RowKit

def isD (c : UInt8) : Bool := decide (48 ≤ c.toNat ∧ c.toNat ≤ 57)
def digL (l : List UInt8) : List UInt8 := l.takeWhile isD
def valL (l : List UInt8) : Int := l.foldl (fun n c => 10 * n + ((c.toNat : Int) - 48)) 0
def numR (s : ByteArray) (i : Int) : Int × Int × Bool :=
  if 0 ≤ i ∧ i ≤ s.size ∧ 1 ≤ (digL (from_ s i)).length ∧ (digL (from_ s i)).length ≤ 9 then (valL (digL (from_ s i)), i + (digL (from_ s i)).length, true) else (0, i, false)
abbrev numV (r : Int × Int × Bool) : Value := .tuple #[.int .i64 r.1, .int .i64 r.2.1, .bool r.2.2]
theorem ret_num {a b : Int} {c : Bool} {r : Int × Int × Bool} (h : r = (a, b, c)) : Ending.returned (.tuple #[.int .i64 a, .int .i64 b, .bool c]) = .returned (numV r) := by rw [h]
theorem valL_snoc (l : List UInt8) (c : UInt8) : valL (l ++ [c]) = 10 * valL l + ((c.toNat : Int) - 48) := by simp [valL, List.foldl_append]
theorem foldl_bd (l : List UInt8) : ∀ n : Int, 0 ≤ n → (∀ c ∈ l, isD c = true) → n * 10 ^ l.length ≤ l.foldl (fun n c => 10 * n + ((c.toNat : Int) - 48)) n ∧ l.foldl (fun n c => 10 * n + ((c.toNat : Int) - 48)) n < (n + 1) * 10 ^ l.length := by
  induction l with
  | nil => intro n _ _; simp; omega
  | cons c l ih =>
    intro n hn h
    have h2 := h c (by simp)
    simp [isD] at h2
    have h1 := ih (10 * n + ((c.toNat : Int) - 48)) (by omega) (fun x hx => h x (by simp [hx]))
    rw [List.length_cons, Int.pow_succ, List.foldl_cons]
    generalize (10 : Int) ^ l.length = p at h1
    generalize hdd : (c.toNat : Int) - 48 = d at h1
    have hp : 0 < p := by
      rcases Int.lt_or_le 0 p with q | q
      · exact q
      · exfalso
        have e3 : (10 * n + d + 1) * p = (10 * n + d) * p + p := by rw [Int.add_mul, Int.one_mul]
        omega
    have e1 : (10 * n + d) * p = 10 * (n * p) + d * p := by rw [Int.add_mul, Int.mul_assoc]
    have e2 : (10 * n + d + 1) * p = 10 * (n * p) + d * p + p := by rw [Int.add_mul, e1, Int.one_mul]
    have e4 : n * (p * 10) = 10 * (n * p) := by rw [← Int.mul_assoc, Int.mul_comm]
    have e5 : (n + 1) * (p * 10) = 10 * (n * p) + 10 * p := by rw [Int.add_mul, e4]; omega
    have q1 : 0 ≤ d * p := Int.mul_nonneg (by omega) (by omega)
    have q2 : d * p ≤ 9 * p := Int.mul_le_mul_of_nonneg_right (by omega) (by omega)
    omega
theorem valL_bd (l : List UInt8) (h : ∀ c ∈ l, isD c = true) : 0 ≤ valL l ∧ valL l < 10 ^ l.length := by
  have := foldl_bd l 0 (by omega) h
  simpa [valL] using this
theorem valL_9 (l : List UInt8) (h : ∀ c ∈ l, isD c = true) (h9 : l.length ≤ 9) : 0 ≤ valL l ∧ valL l ≤ 999999999 := by
  have h1 := valL_bd l h
  have h2 : (10 : Int) ^ l.length ≤ 10 ^ 9 := by
    have := Nat.pow_le_pow_right (n := 10) (by decide) h9
    exact_mod_cast this
  omega
theorem digL_all (l : List UInt8) : ∀ c ∈ digL l, isD c = true := fun c hc => List.all_takeWhile (l := l) (p := isD) |> fun q => List.all_eq_true.1 q c hc
theorem dig_at (s : ByteArray) (i : Int) (h0 : 0 ≤ i) (h1 : i < s.size) (ha : 48 ≤ bt s i) (hb : bt s i ≤ 57) : digL (from_ s i) = by8 s i :: digL (from_ s (i + 1)) := by
  have : isD (by8 s i) = true := by unfold isD; unfold bt at ha hb; simp; omega
  rw [from_at s i h0 h1, digL, List.takeWhile_cons, if_pos this]; rfl
theorem dig_no (s : ByteArray) (i : Int) (h0 : 0 ≤ i) (h1 : i < s.size) (h : ¬ (48 ≤ bt s i ∧ bt s i ≤ 57)) : digL (from_ s i) = [] := by
  have : ¬ isD (by8 s i) = true := by unfold isD; unfold bt at h; simp; omega
  rw [from_at s i h0 h1, digL, List.takeWhile_cons, if_neg this]
theorem dig_end (s : ByteArray) (i : Int) (h1 : i = s.size) : digL (from_ s i) = [] := by rw [from_end s i h1]; rfl
section
variable {s : ByteArray} {i j n : Int} {ds : List UInt8} {R0 : Int × Int × Bool} (hR : numR s i = R0) (hi0 : 0 ≤ i) (hi1 : i ≤ s.size) (hd : digL (from_ s i) = ds ++ digL (from_ s j)) (hn : n = valL ds) (hj : j = i + ds.length) (hk : ds.length ≤ 9)
include hR hd
theorem num_none0 (he : digL (from_ s j) = []) (h0 : ds = []) : R0 = (0, i, false) := by
  subst h0; rw [he] at hd
  rw [← hR, numR, if_neg]; rw [hd]; simp
include hk
omit hk in
theorem num_none9 (h0 : 0 ≤ j) (h1 : j < s.size) (ha : 48 ≤ bt s j) (hb : bt s j ≤ 57) (hl : ds.length = 9) : R0 = (0, i, false) := by
  rw [dig_at s j h0 h1 ha hb] at hd
  rw [← hR, numR, if_neg]; rw [hd]; simp; omega
include hi0 hi1 hn hj
theorem num_some (he : digL (from_ s j) = []) (h0 : ds.length ≠ 0) : R0 = (n, j, true) := by
  rw [he, List.append_nil] at hd
  rw [← hR, numR, hd, if_pos ⟨hi0, hi1, by omega, hk⟩, hn, hj]
end

theorem number_any (s : ByteArray) (i : Int) (R0 : Int × Int × Bool) (hs : s.size ≤ 1073741824) (hR : numR s i = R0) (w : World) :
    Calls Tryd.prog 10 #[.string s, .int .i64 i] w fun e w' => e = .returned (numV R0) ∧ Below w.heap.size w w' := by
  refine fn_intro Tryd.func10 rfl Tryd.ntmps10 rfl rfl ?_
  refine g_seq (g_ops ?_)
  refine g_val rfl rfl rfl (y_assign rfl) ?_
  refine g_val rfl rfl rfl (y_assign rfl) ?_
  refine g_val rfl rfl rfl (y_assign rfl) ?_
  refine g_nil (g_then ?_)
  refine g_scope (α := ({x : Unit // R0 = (0, i, false)}) ⊕ ({x : Int × Int × List UInt8 // i ≤ x.1 ∧ 0 ≤ i ∧ x.1 ≤ s.size ∧ digL (from_ s i) = x.2.2 ++ digL (from_ s x.1) ∧ x.2.1 = valL x.2.2 ∧ x.1 = i + x.2.2.length ∧ x.2.2.length ≤ 9})) (fun z => match z with | (.inl x) => [(1, .int .i64 i)] | (.inr x) => [(0, .string s), (1, .int .i64 i), (7, .int .i64 x.1.2.1), (8, .int .i64 x.1.1)]) (fun z => match z with | (.inl x) => St w [] [] | (.inr x) => St w [] []) (fun z => match z with | (.inl x) => 0 | (.inr x) => 1) (fun z => match z with | (.inl x) => 0 | (.inr x) => s.size - x.1.1.toNat + 1) ?_ ?_
  · skip
    refine g_seq (g_ops ?_)
    refine g_val rfl rfl rfl (y_move rfl) ?_
    refine g_val rfl rfl rfl (y_assign rfl) ?_
    refine g_val rfl rfl rfl (y_assign rfl) ?_
    refine g_nil (g_then (g_seq (g_seq (g_ops ?_))))
    refine g_val rfl rfl rfl (y_move rfl) ?_
    refine g_val rfl rfl rfl (y_move rfl) ?_
    refine g_call1 rfl rfl rfl Tryd.call20 (fun w hS => place_any _ _ w) ?_
    refine g_val rfl rfl rfl ((by first | exact y_notp rfl | exact y_not rfl)) ?_
    refine g_nil (g_then ?_)
    first | refine g_casep 13 rfl (fun h1 => ?_) (fun h1 => ?_) | refine g_caseb 13 rfl (fun h1 => ?_) (fun h1 => ?_)
    · skip
      refine g_cond_t rfl (g_goto (g_then_goto ?_))
      exact g_jump (.inl ⟨(), by first | exact num_none9 hR hd (by omega) (by omega) (by omega) (by omega) (by omega) | (rw [← hR, numR, if_neg (by rintro ⟨q1, q2, q3, q4⟩; first | omega | simp_all)])⟩) [1] rfl (fun j hj => by cases hj) rfl (fun w h => h.sub .slnil)
    · skip
      refine g_cond_f rfl (g_skip (g_then (g_seq (g_label ?_))))
      have hi0 : 0 ≤ i := by simp_all
      have hi1 : i ≤ s.size := by simp_all
      obtain ⟨j, hji⟩ : ∃ j, j = i := ⟨_, rfl⟩
      obtain ⟨ds, hds⟩ : ∃ ds : List UInt8, ds = [] := ⟨_, rfl⟩
      obtain ⟨n, hn0⟩ : ∃ n : Int, n = 0 := ⟨_, rfl⟩
      have hd : digL (from_ s i) = ds ++ digL (from_ s j) := by rw [hji, hds]; rfl
      have hn : n = valL ds := by rw [hn0, hds]; rfl
      have hj : j = i + ds.length := by rw [hji, hds]; simp
      have hk : ds.length ≤ 9 := by rw [hds]; simp
      have hbt : bt s j = bt s i := by rw [hji]
      refine g_then (g_seq (g_seq (g_ops ?_)))
      refine g_val rfl rfl rfl (y_move rfl) ?_
      refine g_val rfl rfl rfl (y_move rfl) ?_
      refine g_val rfl rfl rfl (y_slen rfl Tryd.underlying9) ?_
      refine g_val rfl rfl rfl (y_ilt rfl rfl) ?_
      refine g_val rfl rfl rfl (y_move rfl) ?_
      first | refine g_casep 18 rfl (fun h2 => ?_) (fun h2 => ?_) | refine g_caseb 18 rfl (fun h2 => ?_) (fun h2 => ?_)
      · skip
        refine g_val rfl rfl rfl (y_move rfl) ?_
        refine g_val rfl rfl rfl (y_move rfl) ?_
        refine g_val rfl rfl rfl (y_sat rfl rfl Tryd.underlying9 (by omega) (by omega)) ?_
        refine g_val rfl rfl rfl (y_ige rfl rfl) ?_
        refine g_val rfl rfl rfl (y_pick_t rfl rfl) ?_
        refine g_val rfl rfl rfl (y_move rfl) ?_
        first | refine g_casep 24 rfl (fun h3 => ?_) (fun h3 => ?_) | refine g_caseb 24 rfl (fun h3 => ?_) (fun h3 => ?_)
        · skip
          refine g_val rfl rfl rfl (y_move rfl) ?_
          refine g_val rfl rfl rfl (y_move rfl) ?_
          refine g_val rfl rfl rfl (y_sat rfl rfl Tryd.underlying9 (by omega) (by omega)) ?_
          refine g_val rfl rfl rfl (y_ile rfl rfl) ?_
          refine g_val rfl rfl rfl (y_pick_t rfl rfl) ?_
          refine g_nil (g_then ?_)
          first | refine g_casep 29 rfl (fun h4 => ?_) (fun h4 => ?_) | refine g_caseb 29 rfl (fun h4 => ?_) (fun h4 => ?_)
          · skip
            refine g_cond_t rfl (g_seq (g_seq (g_ops ?_)))
            refine g_val rfl rfl rfl (y_move rfl) ?_
            refine g_val rfl rfl rfl (y_move rfl) ?_
            refine g_val rfl rfl rfl (by first | exact y_subi rfl rfl (by first | omega | (simp only [size_mk, ByteArray.size_append, ByteArray.size_extract]; omega)) | exact y_isub rfl rfl) ?_
            refine g_val rfl rfl rfl (y_ieq rfl rfl) ?_
            refine g_nil (g_then ?_)
            first | refine g_casep 33 rfl (fun h5 => ?_) (fun h5 => ?_) | refine g_caseb 33 rfl (fun h5 => ?_) (fun h5 => ?_)
            · skip
              refine g_cond_t rfl (g_goto (g_then_goto (g_then_goto ?_)))
              exact g_jump (.inl ⟨(), by first | exact num_none9 hR hd (by omega) (by omega) (by omega) (by omega) (by omega) | (rw [← hR, numR, if_neg (by rintro ⟨q1, q2, q3, q4⟩; first | omega | simp_all)])⟩) [1] rfl (fun j hj => by cases hj) rfl (fun w h => h.sub .slnil)
            · skip
              refine g_cond_f rfl (g_skip (g_then (g_seq (g_ops ?_))))
              refine g_val rfl rfl rfl (y_move rfl) ?_
              refine g_val rfl rfl rfl (by first | exact y_muli rfl rfl (by first | omega | (simp only [size_mk, ByteArray.size_append, ByteArray.size_extract]; omega)) | exact y_imul rfl rfl) ?_
              refine g_val rfl rfl rfl (y_move rfl) ?_
              refine g_val rfl rfl rfl (y_move rfl) ?_
              refine g_val rfl rfl rfl (y_sat rfl rfl Tryd.underlying9 (by omega) (by omega)) ?_
              refine g_val rfl rfl rfl (by first | exact y_subu8 rfl rfl (by omega) | exact y_isub rfl rfl) ?_
              refine g_val rfl rfl rfl (by first | exact y_toI64 rfl Tryd.underlying5 Tryd.underlying3 (by omega) | exact y_toInt rfl Tryd.underlying5 Tryd.underlying3) ?_
              refine g_val rfl rfl rfl (by first | exact y_addi rfl rfl (by first | omega | (simp only [size_mk, ByteArray.size_append, ByteArray.size_extract]; omega)) | exact y_iadd rfl rfl) ?_
              refine g_val rfl rfl rfl (y_assign rfl) ?_
              refine g_nil (g_then (g_seq (g_ops ?_)))
              refine g_val rfl rfl rfl (y_move rfl) ?_
              refine g_val rfl rfl rfl (by first | exact y_addi rfl rfl (by first | omega | (simp only [size_mk, ByteArray.size_append, ByteArray.size_extract]; omega)) | exact y_iadd rfl rfl) ?_
              refine g_val rfl rfl rfl (y_assign rfl) ?_
              refine g_nil (g_then (g_goto (g_then_goto ?_)))
              exact g_jump (.inr ⟨(_, _, ds ++ [by8 s j]), by dsimp only; omega, by omega, by dsimp only; omega, by dsimp only; rw [hd, dig_at s j (by omega) (by omega) (by omega) (by omega)]; first | (simp; done) | (rw [hji]; simp), by dsimp only; rw [valL_snoc, ← hn]; first | rfl | (rw [hn0, hji]; rfl), by simp; omega, by simp; omega⟩) [0, 1, 7, 8] rfl (fun j hj => by cases hj) rfl (fun w h => h.sub .slnil)
          · skip
            refine g_cond_f rfl (g_skip (g_then (g_seq (g_seq (g_ops ?_)))))
            refine g_val rfl rfl rfl (y_move rfl) ?_
            refine g_val rfl rfl rfl (y_move rfl) ?_
            refine g_val rfl rfl rfl (y_igt rfl rfl) ?_
            refine g_nil (g_then ?_)
            first | refine g_casep 46 rfl (fun h6 => ?_) (fun h6 => ?_) | refine g_caseb 46 rfl (fun h6 => ?_) (fun h6 => ?_)
            · skip
              refine g_cond_t rfl (g_seq (g_ops ?_))
              refine g_val rfl rfl rfl (y_move rfl) ?_
              refine g_val rfl rfl rfl (y_move rfl) ?_
              refine g_val rfl rfl rfl (y_assign rfl) ?_
              refine g_val rfl rfl rfl (y_assign rfl) ?_
              refine g_val rfl rfl rfl (y_assign rfl) ?_
              refine g_nil (g_then (g_ret (g_then_ret (g_jumps_ret ?_))))
              refine g_end3 Tryd.results10 rfl rfl rfl ?_
              exact fun w hS => ⟨ret_num (by first | assumption | (exfalso; omega) | exact num_none0 hR hd (by first | exact dig_end s j (by omega) | exact dig_no s j (by omega) (by omega) (by omega)) (by apply List.length_eq_zero_iff.1; omega) | exact num_some hR hi0 hi1 hd hn hj hk (by first | exact dig_end s j (by omega) | exact dig_no s j (by omega) (by omega) (by omega)) (by omega)), hS.below⟩
            · skip
              refine g_cond_f rfl (g_skip (g_then (g_seq (g_label (g_then (g_seq (g_ops ?_)))))))
              refine g_val rfl rfl rfl (y_move rfl) ?_
              refine g_val rfl rfl rfl (y_assign rfl) ?_
              refine g_val rfl rfl rfl (y_assign rfl) ?_
              refine g_val rfl rfl rfl (y_assign rfl) ?_
              refine g_nil (g_then (g_ret (g_jumps_ret ?_)))
              refine g_end3 Tryd.results10 rfl rfl rfl ?_
              exact fun w hS => ⟨ret_num (by first | assumption | (exfalso; omega) | exact num_none0 hR hd (by first | exact dig_end s j (by omega) | exact dig_no s j (by omega) (by omega) (by omega)) (by apply List.length_eq_zero_iff.1; omega) | exact num_some hR hi0 hi1 hd hn hj hk (by first | exact dig_end s j (by omega) | exact dig_no s j (by omega) (by omega) (by omega)) (by omega)), hS.below⟩
        · skip
          refine g_not rfl rfl rfl ?_
          refine g_not rfl rfl rfl ?_
          refine g_not rfl rfl rfl ?_
          refine g_not rfl rfl rfl ?_
          refine g_val rfl rfl rfl (y_pick_f rfl rfl) ?_
          refine g_nil (g_then (g_cond_f rfl (g_skip (g_then (g_seq (g_seq (g_ops ?_)))))))
          refine g_val rfl rfl rfl (y_move rfl) ?_
          refine g_val rfl rfl rfl (y_move rfl) ?_
          refine g_val rfl rfl rfl (y_igt rfl rfl) ?_
          refine g_nil (g_then ?_)
          first | refine g_casep 46 rfl (fun h7 => ?_) (fun h7 => ?_) | refine g_caseb 46 rfl (fun h7 => ?_) (fun h7 => ?_)
          · skip
            refine g_cond_t rfl (g_seq (g_ops ?_))
            refine g_val rfl rfl rfl (y_move rfl) ?_
            refine g_val rfl rfl rfl (y_move rfl) ?_
            refine g_val rfl rfl rfl (y_assign rfl) ?_
            refine g_val rfl rfl rfl (y_assign rfl) ?_
            refine g_val rfl rfl rfl (y_assign rfl) ?_
            refine g_nil (g_then (g_ret (g_then_ret (g_jumps_ret ?_))))
            refine g_end3 Tryd.results10 rfl rfl rfl ?_
            exact fun w hS => ⟨ret_num (by first | assumption | (exfalso; omega) | exact num_none0 hR hd (by first | exact dig_end s j (by omega) | exact dig_no s j (by omega) (by omega) (by omega)) (by apply List.length_eq_zero_iff.1; omega) | exact num_some hR hi0 hi1 hd hn hj hk (by first | exact dig_end s j (by omega) | exact dig_no s j (by omega) (by omega) (by omega)) (by omega)), hS.below⟩
          · skip
            refine g_cond_f rfl (g_skip (g_then (g_seq (g_label (g_then (g_seq (g_ops ?_)))))))
            refine g_val rfl rfl rfl (y_move rfl) ?_
            refine g_val rfl rfl rfl (y_assign rfl) ?_
            refine g_val rfl rfl rfl (y_assign rfl) ?_
            refine g_val rfl rfl rfl (y_assign rfl) ?_
            refine g_nil (g_then (g_ret (g_jumps_ret ?_)))
            refine g_end3 Tryd.results10 rfl rfl rfl ?_
            exact fun w hS => ⟨ret_num (by first | assumption | (exfalso; omega) | exact num_none0 hR hd (by first | exact dig_end s j (by omega) | exact dig_no s j (by omega) (by omega) (by omega)) (by apply List.length_eq_zero_iff.1; omega) | exact num_some hR hi0 hi1 hd hn hj hk (by first | exact dig_end s j (by omega) | exact dig_no s j (by omega) (by omega) (by omega)) (by omega)), hS.below⟩
      · skip
        refine g_not rfl rfl rfl ?_
        refine g_not rfl rfl rfl ?_
        refine g_not rfl rfl rfl ?_
        refine g_not rfl rfl rfl ?_
        refine g_val rfl rfl rfl (y_pick_f rfl rfl) ?_
        refine g_val rfl rfl rfl (y_move rfl) ?_
        refine g_not rfl rfl rfl ?_
        refine g_not rfl rfl rfl ?_
        refine g_not rfl rfl rfl ?_
        refine g_not rfl rfl rfl ?_
        refine g_val rfl rfl rfl (y_pick_f rfl rfl) ?_
        refine g_nil (g_then (g_cond_f rfl (g_skip (g_then (g_seq (g_seq (g_ops ?_)))))))
        refine g_val rfl rfl rfl (y_move rfl) ?_
        refine g_val rfl rfl rfl (y_move rfl) ?_
        refine g_val rfl rfl rfl (y_igt rfl rfl) ?_
        refine g_nil (g_then ?_)
        first | refine g_casep 46 rfl (fun h8 => ?_) (fun h8 => ?_) | refine g_caseb 46 rfl (fun h8 => ?_) (fun h8 => ?_)
        · skip
          refine g_cond_t rfl (g_seq (g_ops ?_))
          refine g_val rfl rfl rfl (y_move rfl) ?_
          refine g_val rfl rfl rfl (y_move rfl) ?_
          refine g_val rfl rfl rfl (y_assign rfl) ?_
          refine g_val rfl rfl rfl (y_assign rfl) ?_
          refine g_val rfl rfl rfl (y_assign rfl) ?_
          refine g_nil (g_then (g_ret (g_then_ret (g_jumps_ret ?_))))
          refine g_end3 Tryd.results10 rfl rfl rfl ?_
          exact fun w hS => ⟨ret_num (by first | assumption | (exfalso; omega) | exact num_none0 hR hd (by first | exact dig_end s j (by omega) | exact dig_no s j (by omega) (by omega) (by omega)) (by apply List.length_eq_zero_iff.1; omega) | exact num_some hR hi0 hi1 hd hn hj hk (by first | exact dig_end s j (by omega) | exact dig_no s j (by omega) (by omega) (by omega)) (by omega)), hS.below⟩
        · skip
          refine g_cond_f rfl (g_skip (g_then (g_seq (g_label (g_then (g_seq (g_ops ?_)))))))
          refine g_val rfl rfl rfl (y_move rfl) ?_
          refine g_val rfl rfl rfl (y_assign rfl) ?_
          refine g_val rfl rfl rfl (y_assign rfl) ?_
          refine g_val rfl rfl rfl (y_assign rfl) ?_
          refine g_nil (g_then (g_ret (g_jumps_ret ?_)))
          refine g_end3 Tryd.results10 rfl rfl rfl ?_
          exact fun w hS => ⟨ret_num (by first | assumption | (exfalso; omega) | exact num_none0 hR hd (by first | exact dig_end s j (by omega) | exact dig_no s j (by omega) (by omega) (by omega)) (by apply List.length_eq_zero_iff.1; omega) | exact num_some hR hi0 hi1 hd hn hj hk (by first | exact dig_end s j (by omega) | exact dig_no s j (by omega) (by omega) (by omega)) (by omega)), hS.below⟩
  · rintro (x | x)
    · refine ⟨_, rfl, ?_⟩
      dsimp only
      obtain ⟨_, hx⟩ := x
      refine g_seq (g_skip (g_then (g_seq (g_ops ?_))))
      refine g_val rfl rfl rfl (y_move rfl) ?_
      refine g_val rfl rfl rfl (y_assign rfl) ?_
      refine g_val rfl rfl rfl (y_assign rfl) ?_
      refine g_val rfl rfl rfl (y_assign rfl) ?_
      refine g_nil (g_then (g_ret (g_jumps_ret ?_)))
      refine g_end3 Tryd.results10 rfl rfl rfl ?_
      exact fun w hS => ⟨ret_num (by first | assumption | (exfalso; omega) | exact num_none0 hR hd (by first | exact dig_end s j (by omega) | exact dig_no s j (by omega) (by omega) (by omega)) (by apply List.length_eq_zero_iff.1; omega) | exact num_some hR hi0 hi1 hd hn hj hk (by first | exact dig_end s j (by omega) | exact dig_no s j (by omega) (by omega) (by omega)) (by omega)), hS.below⟩
    · refine ⟨_, rfl, ?_⟩
      dsimp only
      obtain ⟨⟨j, n, ds⟩, hx⟩ := x
      dsimp only at hx ⊢
      obtain ⟨hj0, hi0, hj1, hd, hn, hj, hk⟩ := hx
      have hi1 : i ≤ s.size := by omega
      have hnb := valL_9 ds (fun c hc => digL_all (from_ s i) c (by rw [hd]; simp [hc])) hk
      rw [← hn] at hnb
      refine g_seq (g_skip (g_then (g_seq (g_seq (g_ops ?_)))))
      refine g_val rfl rfl rfl (y_move rfl) ?_
      refine g_val rfl rfl rfl (y_move rfl) ?_
      refine g_val rfl rfl rfl (y_slen rfl Tryd.underlying9) ?_
      refine g_val rfl rfl rfl (y_ilt rfl rfl) ?_
      refine g_val rfl rfl rfl (y_move rfl) ?_
      first | refine g_casep 18 rfl (fun h9 => ?_) (fun h9 => ?_) | refine g_caseb 18 rfl (fun h9 => ?_) (fun h9 => ?_)
      · skip
        refine g_val rfl rfl rfl (y_move rfl) ?_
        refine g_val rfl rfl rfl (y_move rfl) ?_
        refine g_val rfl rfl rfl (y_sat rfl rfl Tryd.underlying9 (by omega) (by omega)) ?_
        refine g_val rfl rfl rfl (y_ige rfl rfl) ?_
        refine g_val rfl rfl rfl (y_pick_t rfl rfl) ?_
        refine g_val rfl rfl rfl (y_move rfl) ?_
        first | refine g_casep 24 rfl (fun h10 => ?_) (fun h10 => ?_) | refine g_caseb 24 rfl (fun h10 => ?_) (fun h10 => ?_)
        · skip
          refine g_val rfl rfl rfl (y_move rfl) ?_
          refine g_val rfl rfl rfl (y_move rfl) ?_
          refine g_val rfl rfl rfl (y_sat rfl rfl Tryd.underlying9 (by omega) (by omega)) ?_
          refine g_val rfl rfl rfl (y_ile rfl rfl) ?_
          refine g_val rfl rfl rfl (y_pick_t rfl rfl) ?_
          refine g_nil (g_then ?_)
          first | refine g_casep 29 rfl (fun h11 => ?_) (fun h11 => ?_) | refine g_caseb 29 rfl (fun h11 => ?_) (fun h11 => ?_)
          · skip
            refine g_cond_t rfl (g_seq (g_seq (g_ops ?_)))
            refine g_val rfl rfl rfl (y_move rfl) ?_
            refine g_val rfl rfl rfl (y_move rfl) ?_
            refine g_val rfl rfl rfl (by first | exact y_subi rfl rfl (by first | omega | (simp only [size_mk, ByteArray.size_append, ByteArray.size_extract]; omega)) | exact y_isub rfl rfl) ?_
            refine g_val rfl rfl rfl (y_ieq rfl rfl) ?_
            refine g_nil (g_then ?_)
            first | refine g_casep 33 rfl (fun h12 => ?_) (fun h12 => ?_) | refine g_caseb 33 rfl (fun h12 => ?_) (fun h12 => ?_)
            · skip
              refine g_cond_t rfl (g_goto (g_then_goto (g_then_goto ?_)))
              exact g_jump (.inl ⟨(), by first | exact num_none9 hR hd (by omega) (by omega) (by omega) (by omega) (by omega) | (rw [← hR, numR, if_neg (by rintro ⟨q1, q2, q3, q4⟩; first | omega | simp_all)])⟩) [1] rfl (fun j hj => by cases hj; dsimp only; omega) rfl (fun w h => h.sub .slnil)
            · skip
              refine g_cond_f rfl (g_skip (g_then (g_seq (g_ops ?_))))
              refine g_val rfl rfl rfl (y_move rfl) ?_
              refine g_val rfl rfl rfl (by first | exact y_muli rfl rfl (by first | omega | (simp only [size_mk, ByteArray.size_append, ByteArray.size_extract]; omega)) | exact y_imul rfl rfl) ?_
              refine g_val rfl rfl rfl (y_move rfl) ?_
              refine g_val rfl rfl rfl (y_move rfl) ?_
              refine g_val rfl rfl rfl (y_sat rfl rfl Tryd.underlying9 (by omega) (by omega)) ?_
              refine g_val rfl rfl rfl (by first | exact y_subu8 rfl rfl (by omega) | exact y_isub rfl rfl) ?_
              refine g_val rfl rfl rfl (by first | exact y_toI64 rfl Tryd.underlying5 Tryd.underlying3 (by omega) | exact y_toInt rfl Tryd.underlying5 Tryd.underlying3) ?_
              refine g_val rfl rfl rfl (by first | exact y_addi rfl rfl (by first | omega | (simp only [size_mk, ByteArray.size_append, ByteArray.size_extract]; omega)) | exact y_iadd rfl rfl) ?_
              refine g_val rfl rfl rfl (y_assign rfl) ?_
              refine g_nil (g_then (g_seq (g_ops ?_)))
              refine g_val rfl rfl rfl (y_move rfl) ?_
              refine g_val rfl rfl rfl (by first | exact y_addi rfl rfl (by first | omega | (simp only [size_mk, ByteArray.size_append, ByteArray.size_extract]; omega)) | exact y_iadd rfl rfl) ?_
              refine g_val rfl rfl rfl (y_assign rfl) ?_
              refine g_nil (g_then (g_goto (g_then_goto ?_)))
              exact g_jump (.inr ⟨(_, _, ds ++ [by8 s j]), by dsimp only; omega, by omega, by dsimp only; omega, by dsimp only; rw [hd, dig_at s j (by omega) (by omega) (by omega) (by omega)]; first | (simp; done) | (rw [hji]; simp), by dsimp only; rw [valL_snoc, ← hn]; first | rfl | (rw [hn0, hji]; rfl), by simp; omega, by simp; omega⟩) [0, 1, 7, 8] rfl (fun j hj => by cases hj; dsimp only; omega) rfl (fun w h => h.sub .slnil)
          · skip
            refine g_cond_f rfl (g_skip (g_then (g_seq (g_seq (g_ops ?_)))))
            refine g_val rfl rfl rfl (y_move rfl) ?_
            refine g_val rfl rfl rfl (y_move rfl) ?_
            refine g_val rfl rfl rfl (y_igt rfl rfl) ?_
            refine g_nil (g_then ?_)
            first | refine g_casep 46 rfl (fun h13 => ?_) (fun h13 => ?_) | refine g_caseb 46 rfl (fun h13 => ?_) (fun h13 => ?_)
            · skip
              refine g_cond_t rfl (g_seq (g_ops ?_))
              refine g_val rfl rfl rfl (y_move rfl) ?_
              refine g_val rfl rfl rfl (y_move rfl) ?_
              refine g_val rfl rfl rfl (y_assign rfl) ?_
              refine g_val rfl rfl rfl (y_assign rfl) ?_
              refine g_val rfl rfl rfl (y_assign rfl) ?_
              refine g_nil (g_then (g_ret (g_then_ret (g_jumps_ret ?_))))
              refine g_end3 Tryd.results10 rfl rfl rfl ?_
              exact fun w hS => ⟨ret_num (by first | assumption | (exfalso; omega) | exact num_none0 hR hd (by first | exact dig_end s j (by omega) | exact dig_no s j (by omega) (by omega) (by omega)) (by apply List.length_eq_zero_iff.1; omega) | exact num_some hR hi0 hi1 hd hn hj hk (by first | exact dig_end s j (by omega) | exact dig_no s j (by omega) (by omega) (by omega)) (by omega)), hS.below⟩
            · skip
              refine g_cond_f rfl (g_skip (g_then (g_seq (g_label (g_then (g_seq (g_ops ?_)))))))
              refine g_val rfl rfl rfl (y_move rfl) ?_
              refine g_val rfl rfl rfl (y_assign rfl) ?_
              refine g_val rfl rfl rfl (y_assign rfl) ?_
              refine g_val rfl rfl rfl (y_assign rfl) ?_
              refine g_nil (g_then (g_ret (g_jumps_ret ?_)))
              refine g_end3 Tryd.results10 rfl rfl rfl ?_
              exact fun w hS => ⟨ret_num (by first | assumption | (exfalso; omega) | exact num_none0 hR hd (by first | exact dig_end s j (by omega) | exact dig_no s j (by omega) (by omega) (by omega)) (by apply List.length_eq_zero_iff.1; omega) | exact num_some hR hi0 hi1 hd hn hj hk (by first | exact dig_end s j (by omega) | exact dig_no s j (by omega) (by omega) (by omega)) (by omega)), hS.below⟩
        · skip
          refine g_not rfl rfl rfl ?_
          refine g_not rfl rfl rfl ?_
          refine g_not rfl rfl rfl ?_
          refine g_not rfl rfl rfl ?_
          refine g_val rfl rfl rfl (y_pick_f rfl rfl) ?_
          refine g_nil (g_then (g_cond_f rfl (g_skip (g_then (g_seq (g_seq (g_ops ?_)))))))
          refine g_val rfl rfl rfl (y_move rfl) ?_
          refine g_val rfl rfl rfl (y_move rfl) ?_
          refine g_val rfl rfl rfl (y_igt rfl rfl) ?_
          refine g_nil (g_then ?_)
          first | refine g_casep 46 rfl (fun h14 => ?_) (fun h14 => ?_) | refine g_caseb 46 rfl (fun h14 => ?_) (fun h14 => ?_)
          · skip
            refine g_cond_t rfl (g_seq (g_ops ?_))
            refine g_val rfl rfl rfl (y_move rfl) ?_
            refine g_val rfl rfl rfl (y_move rfl) ?_
            refine g_val rfl rfl rfl (y_assign rfl) ?_
            refine g_val rfl rfl rfl (y_assign rfl) ?_
            refine g_val rfl rfl rfl (y_assign rfl) ?_
            refine g_nil (g_then (g_ret (g_then_ret (g_jumps_ret ?_))))
            refine g_end3 Tryd.results10 rfl rfl rfl ?_
            exact fun w hS => ⟨ret_num (by first | assumption | (exfalso; omega) | exact num_none0 hR hd (by first | exact dig_end s j (by omega) | exact dig_no s j (by omega) (by omega) (by omega)) (by apply List.length_eq_zero_iff.1; omega) | exact num_some hR hi0 hi1 hd hn hj hk (by first | exact dig_end s j (by omega) | exact dig_no s j (by omega) (by omega) (by omega)) (by omega)), hS.below⟩
          · skip
            refine g_cond_f rfl (g_skip (g_then (g_seq (g_label (g_then (g_seq (g_ops ?_)))))))
            refine g_val rfl rfl rfl (y_move rfl) ?_
            refine g_val rfl rfl rfl (y_assign rfl) ?_
            refine g_val rfl rfl rfl (y_assign rfl) ?_
            refine g_val rfl rfl rfl (y_assign rfl) ?_
            refine g_nil (g_then (g_ret (g_jumps_ret ?_)))
            refine g_end3 Tryd.results10 rfl rfl rfl ?_
            exact fun w hS => ⟨ret_num (by first | assumption | (exfalso; omega) | exact num_none0 hR hd (by first | exact dig_end s j (by omega) | exact dig_no s j (by omega) (by omega) (by omega)) (by apply List.length_eq_zero_iff.1; omega) | exact num_some hR hi0 hi1 hd hn hj hk (by first | exact dig_end s j (by omega) | exact dig_no s j (by omega) (by omega) (by omega)) (by omega)), hS.below⟩
      · skip
        refine g_not rfl rfl rfl ?_
        refine g_not rfl rfl rfl ?_
        refine g_not rfl rfl rfl ?_
        refine g_not rfl rfl rfl ?_
        refine g_val rfl rfl rfl (y_pick_f rfl rfl) ?_
        refine g_val rfl rfl rfl (y_move rfl) ?_
        refine g_not rfl rfl rfl ?_
        refine g_not rfl rfl rfl ?_
        refine g_not rfl rfl rfl ?_
        refine g_not rfl rfl rfl ?_
        refine g_val rfl rfl rfl (y_pick_f rfl rfl) ?_
        refine g_nil (g_then (g_cond_f rfl (g_skip (g_then (g_seq (g_seq (g_ops ?_)))))))
        refine g_val rfl rfl rfl (y_move rfl) ?_
        refine g_val rfl rfl rfl (y_move rfl) ?_
        refine g_val rfl rfl rfl (y_igt rfl rfl) ?_
        refine g_nil (g_then ?_)
        first | refine g_casep 46 rfl (fun h15 => ?_) (fun h15 => ?_) | refine g_caseb 46 rfl (fun h15 => ?_) (fun h15 => ?_)
        · skip
          refine g_cond_t rfl (g_seq (g_ops ?_))
          refine g_val rfl rfl rfl (y_move rfl) ?_
          refine g_val rfl rfl rfl (y_move rfl) ?_
          refine g_val rfl rfl rfl (y_assign rfl) ?_
          refine g_val rfl rfl rfl (y_assign rfl) ?_
          refine g_val rfl rfl rfl (y_assign rfl) ?_
          refine g_nil (g_then (g_ret (g_then_ret (g_jumps_ret ?_))))
          refine g_end3 Tryd.results10 rfl rfl rfl ?_
          exact fun w hS => ⟨ret_num (by first | assumption | (exfalso; omega) | exact num_none0 hR hd (by first | exact dig_end s j (by omega) | exact dig_no s j (by omega) (by omega) (by omega)) (by apply List.length_eq_zero_iff.1; omega) | exact num_some hR hi0 hi1 hd hn hj hk (by first | exact dig_end s j (by omega) | exact dig_no s j (by omega) (by omega) (by omega)) (by omega)), hS.below⟩
        · skip
          refine g_cond_f rfl (g_skip (g_then (g_seq (g_label (g_then (g_seq (g_ops ?_)))))))
          refine g_val rfl rfl rfl (y_move rfl) ?_
          refine g_val rfl rfl rfl (y_assign rfl) ?_
          refine g_val rfl rfl rfl (y_assign rfl) ?_
          refine g_val rfl rfl rfl (y_assign rfl) ?_
          refine g_nil (g_then (g_ret (g_jumps_ret ?_)))
          refine g_end3 Tryd.results10 rfl rfl rfl ?_
          exact fun w hS => ⟨ret_num (by first | assumption | (exfalso; omega) | exact num_none0 hR hd (by first | exact dig_end s j (by omega) | exact dig_no s j (by omega) (by omega) (by omega)) (by apply List.length_eq_zero_iff.1; omega) | exact num_some hR hi0 hi1 hd hn hj hk (by first | exact dig_end s j (by omega) | exact dig_no s j (by omega) (by omega) (by omega)) (by omega)), hS.below⟩

end Go.Proofs.YtjafkmaolpkbnaaDoor
