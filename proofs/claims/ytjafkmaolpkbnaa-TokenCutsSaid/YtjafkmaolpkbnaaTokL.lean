/- The laws of tokens: the walks. -/
import Derived.Test.YtjafkmaolpkbnaaTokN
namespace Go.Proofs.Ytjafkmaolpkbnaa
open Go Go.RowKit

theorem ba_ext {t : ByteArray} {l : List UInt8} (h : t.data.toList = l) : t = ⟨l.toArray⟩ := by
  subst h; cases t; simp
theorem mk_data (l : List UInt8) : (⟨l.toArray⟩ : ByteArray).data.toList = l := by simp
theorem app_data (a b : ByteArray) : (a ++ b).data.toList = a.data.toList ++ b.data.toList := by rw [ByteArray.data_append, Array.toList_append]
theorem from_zero (s : ByteArray) : from_ s 0 = s.data.toList := rfl
theorem from_app (a b : ByteArray) : from_ (a ++ b) a.size = b.data.toList := by
  unfold from_
  rw [app_data, List.drop_append_of_le_length (by rw [dlen]; omega), List.drop_eq_nil_iff.2 (by rw [dlen]; omega), List.nil_append]
def escL (d : UInt8) (l : List UInt8) : List UInt8 := l.flatMap fun c => if c = d ∨ c = 92 ∨ c = 10 then [92, c] else [c]
def wantL (l : List UInt8) : List UInt8 := l.flatMap fun c => if c = 92 ∨ c = 10 then [92, c] else [c]
theorem escL_nil (d : UInt8) : escL d [] = [] := rfl
theorem wantL_nil : wantL [] = [] := rfl
theorem escL_len (d : UInt8) (l : List UInt8) : (escL d l).length ≤ 2 * l.length := by
  unfold escL
  induction l with
  | nil => simp
  | cons c l ih => rw [List.flatMap_cons, List.length_append, List.length_cons]; split <;> simp only [List.length_cons, List.length_nil] <;> omega
theorem wantL_len (l : List UInt8) : (wantL l).length ≤ 2 * l.length := by
  unfold wantL
  induction l with
  | nil => simp
  | cons c l ih => rw [List.flatMap_cons, List.length_append, List.length_cons]; split <;> simp only [List.length_cons, List.length_nil] <;> omega
theorem cut_back (d : UInt8) (h1 : d ≠ 10) (h2 : d ≠ 92) (l r : List UInt8) : ∀ acc, cutM d true false (escL d l ++ d :: r) acc = some (acc ++ wantL l, r) := by
  induction l with
  | nil => intro acc; simp [escL, wantL, cutM]
  | cons c l ih =>
    intro acc
    have e1 : escL d (c :: l) = (if c = d ∨ c = 92 ∨ c = 10 then [92, c] else [c]) ++ escL d l := by simp [escL]
    have e2 : wantL (c :: l) = (if c = 92 ∨ c = 10 then [92, c] else [c]) ++ wantL l := by simp [wantL]
    rw [e1, e2]
    by_cases hc : c = d ∨ c = 92 ∨ c = 10
    · rw [if_pos hc]
      simp only [List.cons_append, List.nil_append]
      rw [cutM, if_neg (fun q => h2 q.symm), if_neg (by decide), if_pos rfl, cutM, if_neg (by simp)]
      by_cases hd : c = d
      · rw [if_pos hd, ih, if_neg (by rw [hd]; simp [h1, h2])]; simp
      · rw [if_neg hd, ih, if_pos (by simpa [hd] using hc)]; simp
    · rw [if_neg hc]
      simp only [not_or] at hc
      simp only [List.cons_append, List.nil_append]
      rw [cutM, if_neg hc.1, if_neg hc.2.2, if_neg hc.2.1, ih, if_neg (by simp [hc])]; simp
theorem cut_none (d : UInt8) (h2 : d ≠ 92) (l : List UInt8) : ∀ acc, cutM d true false (escL d l) acc = none := by
  induction l with
  | nil => intro acc; rfl
  | cons c l ih =>
    intro acc
    have e1 : escL d (c :: l) = (if c = d ∨ c = 92 ∨ c = 10 then [92, c] else [c]) ++ escL d l := by simp [escL]
    rw [e1]
    by_cases hc : c = d ∨ c = 92 ∨ c = 10
    · rw [if_pos hc]
      simp only [List.cons_append, List.nil_append]
      rw [cutM, if_neg (fun q => h2 q.symm), if_neg (by decide), if_pos rfl, cutM, if_neg (by simp)]
      exact ih _
    · rw [if_neg hc]
      simp only [not_or] at hc
      simp only [List.cons_append, List.nil_append]
      rw [cutM, if_neg hc.1, if_neg hc.2.2, if_neg hc.2.1]
      exact ih _
theorem back1 (d : UInt8) (h1 : d ≠ 10) (h2 : d ≠ 92) (l : List UInt8) (rest : ByteArray) : cutR ((⟨(escL d l).toArray⟩ : ByteArray) ++ (⟨[d].toArray⟩ : ByteArray) ++ rest) 0 d true = ((⟨(wantL l).toArray⟩ : ByteArray), ((escL d l).length : Int) + 1, (0 : Int)) := by
  rw [cutR, if_pos (by exact ⟨by omega, by omega, h1, h2⟩), from_zero, app_data, app_data, mk_data, mk_data, List.append_assoc, List.singleton_append, cut_back d h1 h2, finR, List.nil_append]
  have e : ((⟨(escL d l).toArray⟩ : ByteArray) ++ (⟨[d].toArray⟩ : ByteArray) ++ rest).size = (escL d l).length + 1 + rest.size := by rw [ByteArray.size_append, ByteArray.size_append, size_mk, size_mk]; rfl
  rw [e, dlen]
  first | (simp; done) | (simp; omega)
theorem back2 (d : UInt8) (h1 : d ≠ 10) (h2 : d ≠ 92) (l : List UInt8) : cutR (⟨(escL d l).toArray⟩ : ByteArray) 0 d true = ((⟨#[]⟩ : ByteArray), (0 : Int), (121 : Int)) := by
  rw [cutR, if_pos (by exact ⟨by omega, by omega, h1, h2⟩), from_zero, mk_data, cut_none d h2]; rfl
theorem esc_step (d : UInt8) (s : ByteArray) (i : Int) (h0 : 0 ≤ i) (h1 : i < s.size) (t : List UInt8) (r : List UInt8) (h : t ++ escL d (from_ s i) = r) : (t ++ (if by8 s i = d ∨ by8 s i = 92 ∨ by8 s i = 10 then [92] else [])) ++ [by8 s i] ++ escL d (from_ s (i + 1)) = r := by
  rw [← h, from_at s i h0 h1]
  simp only [escL, List.flatMap_cons]
  split <;> simp
theorem want_step (s : ByteArray) (i : Int) (h0 : 0 ≤ i) (h1 : i < s.size) (t : List UInt8) (r : List UInt8) (h : t ++ wantL (from_ s i) = r) : (t ++ (if by8 s i = 92 ∨ by8 s i = 10 then [92] else [])) ++ [by8 s i] ++ wantL (from_ s (i + 1)) = r := by
  rw [← h, from_at s i h0 h1]
  simp only [wantL, List.flatMap_cons]
  split <;> simp

theorem escaped_any (s : ByteArray) (d : UInt8) (hs : s.size ≤ 1073741824) (w : World) :
    Calls Try.prog 10 #[.string s, .int .u8 d.toNat] w fun e w' => e = .returned (.string ⟨(escL d s.data.toList).toArray⟩) ∧ Below w.heap.size w w' := by
  refine fn_intro Try.func10 rfl Try.ntmps10 rfl rfl ?_
  refine g_seq (g_ops ?_)
  refine g_val rfl rfl rfl (y_assign rfl) ?_
  refine g_nil (g_then (g_seq (g_ops ?_)))
  refine g_val rfl rfl rfl (y_assign rfl) ?_
  refine g_nil (g_then (g_seq (g_seq (g_ops ?_))))
  refine g_val rfl rfl rfl (y_assign rfl) ?_
  refine g_nil (g_then (g_block ?_))
  refine g_loop (α := {x : Int × ByteArray // 0 ≤ x.1 ∧ x.1 ≤ s.size ∧ x.2.size ≤ 2 * x.1.toNat ∧ x.2.data.toList ++ escL d (from_ s x.1) = escL d s.data.toList}) (fun x => [(0, .string s), (1, .int .u8 d.toNat), (5, .string x.1.2), (6, .int .i64 x.1.1)]) (fun x => St w [] []) (fun x => s.size - x.1.1.toNat) ⟨(0, ⟨#[]⟩), by omega, by omega, by rw [size_mk]; simp, by rw [from_zero]; rfl⟩ [0, 1, 5, 6] rfl (fun w h => h.sub .slnil) ?_
  rintro ⟨⟨i, t⟩, hx⟩
  dsimp only
  dsimp only at hx
  obtain ⟨hi0, hi1, hl, hc⟩ := hx
  refine g_seq (g_seq (g_ops ?_))
  refine g_val rfl rfl rfl (y_move rfl) ?_
  refine g_val rfl rfl rfl (y_move rfl) ?_
  refine g_val rfl rfl rfl (y_slen rfl Try.underlying9) ?_
  refine g_val rfl rfl rfl (y_ilt rfl rfl) ?_
  refine g_nil (g_then ?_)
  first | refine g_casep 10 rfl (fun h1 => ?_) (fun h1 => ?_) | refine g_caseb 10 rfl (fun h1 => ?_) (fun h1 => ?_)
  · skip
    refine g_cond_t rfl (g_skip (g_then (g_seq (g_block (g_seq (g_seq (g_ops ?_)))))))
    refine g_val rfl rfl rfl (y_move rfl) ?_
    refine g_val rfl rfl rfl (y_move rfl) ?_
    refine g_val rfl rfl rfl (y_sat rfl rfl Try.underlying9 (by omega) (by omega)) ?_
    refine g_val rfl rfl rfl (y_move rfl) ?_
    refine g_val rfl rfl rfl (y_ieq rfl rfl) ?_
    refine g_val rfl rfl rfl (y_move rfl) ?_
    first | refine g_casep 18 rfl (fun h2 => ?_) (fun h2 => ?_) | refine g_caseb 18 rfl (fun h2 => ?_) (fun h2 => ?_)
    · skip
      refine g_not rfl rfl rfl ?_
      refine g_not rfl rfl rfl ?_
      refine g_not rfl rfl rfl ?_
      refine g_not rfl rfl rfl ?_
      refine g_val rfl rfl rfl (y_pick_t rfl rfl) ?_
      refine g_val rfl rfl rfl (y_move rfl) ?_
      refine g_not rfl rfl rfl ?_
      refine g_not rfl rfl rfl ?_
      refine g_not rfl rfl rfl ?_
      refine g_not rfl rfl rfl ?_
      refine g_val rfl rfl rfl (y_pick_t rfl rfl) ?_
      refine g_nil (g_then (g_cond_t rfl (g_ops ?_)))
      refine g_val rfl rfl rfl (y_move rfl) ?_
      refine g_buildSlice (offs := [0]) rfl rfl Try.underlying30 rfl Try.zeroValue5 (by kernel_rfl) (fun b1 => ?_)
      refine g_val rfl rfl rfl (y_cellsStr (l := [92]) 0 rfl Try.underlying30 Try.underlying9 Try.underlying5 rfl rfl rfl) ?_
      refine g_val rfl rfl rfl (y_scat rfl rfl (by first | omega | (simp only [ByteArray.size_extract, ByteArray.size_append, size_mk, List.length_append, List.length_cons, List.length_nil] <;> omega))) ?_
      refine g_val rfl rfl rfl (y_assign rfl) ?_
      refine g_nil (g_then (g_ops ?_))
      refine g_val rfl rfl rfl (y_move rfl) ?_
      refine g_val rfl rfl rfl (y_move rfl) ?_
      refine g_val rfl rfl rfl (y_move rfl) ?_
      refine g_val rfl rfl rfl (y_move rfl) ?_
      refine g_val rfl rfl rfl (by first | exact y_addi rfl rfl (by first | omega | (simp only [size_mk, ByteArray.size_append, ByteArray.size_extract]; omega)) | exact y_iadd rfl rfl) ?_
      refine g_val rfl rfl rfl (y_ssl rfl rfl rfl Try.underlying9 (by omega) (by omega) (by first | omega | (simp only [size_mk, List.length_cons, List.length_nil]; omega))) ?_
      refine g_val rfl rfl rfl (y_scat rfl rfl (by first | omega | (simp only [ByteArray.size_extract, ByteArray.size_append, size_mk, List.length_append, List.length_cons, List.length_nil] <;> omega))) ?_
      refine g_val rfl rfl rfl (y_assign rfl) ?_
      refine g_nil (g_in_normal (g_then (g_ops ?_)))
      refine g_val rfl rfl rfl (y_move rfl) ?_
      refine g_val rfl rfl rfl (by first | exact y_addi rfl rfl (by first | omega | (simp only [size_mk, ByteArray.size_append, ByteArray.size_extract]; omega)) | exact y_iadd rfl rfl) ?_
      refine g_val rfl rfl rfl (y_assign rfl) ?_
      refine g_nil ?_
      exact g_again ⟨(_, _), by dsimp only; omega, by dsimp only; omega, by dsimp only; rw [cat_size _ s i (by omega) (by omega)]; first | omega | (simp only [ByteArray.size_append, size_mk, List.length_cons, List.length_nil]; omega), by dsimp only; rw [cat_ext _ s i (by omega) (by omega)]; first | (rw [cat_92]; have q := esc_step d s i (by omega) (by omega) _ _ hc; rw [if_pos (by rw [← bt_92, ← bt_10]; first | omega | (rw [← bt_eq]; omega))] at q; exact q) | (have q := esc_step d s i (by omega) (by omega) _ _ hc; rw [if_neg (by rw [← bt_92, ← bt_10]; first | omega | (rw [← bt_eq]; omega)), List.append_nil] at q; exact q)⟩ [0, 1, 5, 6] (by dsimp only; omega) rfl (fun w h => h.sub (.cons _ .slnil))
    · skip
      refine g_val rfl rfl rfl (y_move rfl) ?_
      refine g_val rfl rfl rfl (y_move rfl) ?_
      refine g_val rfl rfl rfl (y_sat rfl rfl Try.underlying9 (by omega) (by omega)) ?_
      refine g_val rfl rfl rfl (y_ieq rfl rfl) ?_
      refine g_val rfl rfl rfl (y_pick_f rfl rfl) ?_
      refine g_val rfl rfl rfl (y_move rfl) ?_
      first | refine g_casep 24 rfl (fun h3 => ?_) (fun h3 => ?_) | refine g_caseb 24 rfl (fun h3 => ?_) (fun h3 => ?_)
      · skip
        refine g_not rfl rfl rfl ?_
        refine g_not rfl rfl rfl ?_
        refine g_not rfl rfl rfl ?_
        refine g_not rfl rfl rfl ?_
        refine g_val rfl rfl rfl (y_pick_t rfl rfl) ?_
        refine g_nil (g_then (g_cond_t rfl (g_ops ?_)))
        refine g_val rfl rfl rfl (y_move rfl) ?_
        refine g_buildSlice (offs := [0]) rfl rfl Try.underlying30 rfl Try.zeroValue5 (by kernel_rfl) (fun b2 => ?_)
        refine g_val rfl rfl rfl (y_cellsStr (l := [92]) 0 rfl Try.underlying30 Try.underlying9 Try.underlying5 rfl rfl rfl) ?_
        refine g_val rfl rfl rfl (y_scat rfl rfl (by first | omega | (simp only [ByteArray.size_extract, ByteArray.size_append, size_mk, List.length_append, List.length_cons, List.length_nil] <;> omega))) ?_
        refine g_val rfl rfl rfl (y_assign rfl) ?_
        refine g_nil (g_then (g_ops ?_))
        refine g_val rfl rfl rfl (y_move rfl) ?_
        refine g_val rfl rfl rfl (y_move rfl) ?_
        refine g_val rfl rfl rfl (y_move rfl) ?_
        refine g_val rfl rfl rfl (y_move rfl) ?_
        refine g_val rfl rfl rfl (by first | exact y_addi rfl rfl (by first | omega | (simp only [size_mk, ByteArray.size_append, ByteArray.size_extract]; omega)) | exact y_iadd rfl rfl) ?_
        refine g_val rfl rfl rfl (y_ssl rfl rfl rfl Try.underlying9 (by omega) (by omega) (by first | omega | (simp only [size_mk, List.length_cons, List.length_nil]; omega))) ?_
        refine g_val rfl rfl rfl (y_scat rfl rfl (by first | omega | (simp only [ByteArray.size_extract, ByteArray.size_append, size_mk, List.length_append, List.length_cons, List.length_nil] <;> omega))) ?_
        refine g_val rfl rfl rfl (y_assign rfl) ?_
        refine g_nil (g_in_normal (g_then (g_ops ?_)))
        refine g_val rfl rfl rfl (y_move rfl) ?_
        refine g_val rfl rfl rfl (by first | exact y_addi rfl rfl (by first | omega | (simp only [size_mk, ByteArray.size_append, ByteArray.size_extract]; omega)) | exact y_iadd rfl rfl) ?_
        refine g_val rfl rfl rfl (y_assign rfl) ?_
        refine g_nil ?_
        exact g_again ⟨(_, _), by dsimp only; omega, by dsimp only; omega, by dsimp only; rw [cat_size _ s i (by omega) (by omega)]; first | omega | (simp only [ByteArray.size_append, size_mk, List.length_cons, List.length_nil]; omega), by dsimp only; rw [cat_ext _ s i (by omega) (by omega)]; first | (rw [cat_92]; have q := esc_step d s i (by omega) (by omega) _ _ hc; rw [if_pos (by rw [← bt_92, ← bt_10]; first | omega | (rw [← bt_eq]; omega))] at q; exact q) | (have q := esc_step d s i (by omega) (by omega) _ _ hc; rw [if_neg (by rw [← bt_92, ← bt_10]; first | omega | (rw [← bt_eq]; omega)), List.append_nil] at q; exact q)⟩ [0, 1, 5, 6] (by dsimp only; omega) rfl (fun w h => h.sub (.cons _ .slnil))
      · skip
        refine g_val rfl rfl rfl (y_move rfl) ?_
        refine g_val rfl rfl rfl (y_move rfl) ?_
        refine g_val rfl rfl rfl (y_sat rfl rfl Try.underlying9 (by omega) (by omega)) ?_
        refine g_val rfl rfl rfl (y_ieq rfl rfl) ?_
        refine g_val rfl rfl rfl (y_pick_f rfl rfl) ?_
        refine g_nil (g_then ?_)
        first | refine g_casep 29 rfl (fun h4 => ?_) (fun h4 => ?_) | refine g_caseb 29 rfl (fun h4 => ?_) (fun h4 => ?_)
        · skip
          refine g_cond_t rfl (g_ops ?_)
          refine g_val rfl rfl rfl (y_move rfl) ?_
          refine g_buildSlice (offs := [0]) rfl rfl Try.underlying30 rfl Try.zeroValue5 (by kernel_rfl) (fun b3 => ?_)
          refine g_val rfl rfl rfl (y_cellsStr (l := [92]) 0 rfl Try.underlying30 Try.underlying9 Try.underlying5 rfl rfl rfl) ?_
          refine g_val rfl rfl rfl (y_scat rfl rfl (by first | omega | (simp only [ByteArray.size_extract, ByteArray.size_append, size_mk, List.length_append, List.length_cons, List.length_nil] <;> omega))) ?_
          refine g_val rfl rfl rfl (y_assign rfl) ?_
          refine g_nil (g_then (g_ops ?_))
          refine g_val rfl rfl rfl (y_move rfl) ?_
          refine g_val rfl rfl rfl (y_move rfl) ?_
          refine g_val rfl rfl rfl (y_move rfl) ?_
          refine g_val rfl rfl rfl (y_move rfl) ?_
          refine g_val rfl rfl rfl (by first | exact y_addi rfl rfl (by first | omega | (simp only [size_mk, ByteArray.size_append, ByteArray.size_extract]; omega)) | exact y_iadd rfl rfl) ?_
          refine g_val rfl rfl rfl (y_ssl rfl rfl rfl Try.underlying9 (by omega) (by omega) (by first | omega | (simp only [size_mk, List.length_cons, List.length_nil]; omega))) ?_
          refine g_val rfl rfl rfl (y_scat rfl rfl (by first | omega | (simp only [ByteArray.size_extract, ByteArray.size_append, size_mk, List.length_append, List.length_cons, List.length_nil] <;> omega))) ?_
          refine g_val rfl rfl rfl (y_assign rfl) ?_
          refine g_nil (g_in_normal (g_then (g_ops ?_)))
          refine g_val rfl rfl rfl (y_move rfl) ?_
          refine g_val rfl rfl rfl (by first | exact y_addi rfl rfl (by first | omega | (simp only [size_mk, ByteArray.size_append, ByteArray.size_extract]; omega)) | exact y_iadd rfl rfl) ?_
          refine g_val rfl rfl rfl (y_assign rfl) ?_
          refine g_nil ?_
          exact g_again ⟨(_, _), by dsimp only; omega, by dsimp only; omega, by dsimp only; rw [cat_size _ s i (by omega) (by omega)]; first | omega | (simp only [ByteArray.size_append, size_mk, List.length_cons, List.length_nil]; omega), by dsimp only; rw [cat_ext _ s i (by omega) (by omega)]; first | (rw [cat_92]; have q := esc_step d s i (by omega) (by omega) _ _ hc; rw [if_pos (by rw [← bt_92, ← bt_10]; first | omega | (rw [← bt_eq]; omega))] at q; exact q) | (have q := esc_step d s i (by omega) (by omega) _ _ hc; rw [if_neg (by rw [← bt_92, ← bt_10]; first | omega | (rw [← bt_eq]; omega)), List.append_nil] at q; exact q)⟩ [0, 1, 5, 6] (by dsimp only; omega) rfl (fun w h => h.sub (.cons _ .slnil))
        · skip
          refine g_cond_f rfl (g_skip (g_then (g_ops ?_)))
          refine g_val rfl rfl rfl (y_move rfl) ?_
          refine g_val rfl rfl rfl (y_move rfl) ?_
          refine g_val rfl rfl rfl (y_move rfl) ?_
          refine g_val rfl rfl rfl (y_move rfl) ?_
          refine g_val rfl rfl rfl (by first | exact y_addi rfl rfl (by first | omega | (simp only [size_mk, ByteArray.size_append, ByteArray.size_extract]; omega)) | exact y_iadd rfl rfl) ?_
          refine g_val rfl rfl rfl (y_ssl rfl rfl rfl Try.underlying9 (by omega) (by omega) (by first | omega | (simp only [size_mk, List.length_cons, List.length_nil]; omega))) ?_
          refine g_val rfl rfl rfl (y_scat rfl rfl (by first | omega | (simp only [ByteArray.size_extract, ByteArray.size_append, size_mk, List.length_append, List.length_cons, List.length_nil] <;> omega))) ?_
          refine g_val rfl rfl rfl (y_assign rfl) ?_
          refine g_nil (g_in_normal (g_then (g_ops ?_)))
          refine g_val rfl rfl rfl (y_move rfl) ?_
          refine g_val rfl rfl rfl (by first | exact y_addi rfl rfl (by first | omega | (simp only [size_mk, ByteArray.size_append, ByteArray.size_extract]; omega)) | exact y_iadd rfl rfl) ?_
          refine g_val rfl rfl rfl (y_assign rfl) ?_
          refine g_nil ?_
          exact g_again ⟨(_, _), by dsimp only; omega, by dsimp only; omega, by dsimp only; rw [cat_size _ s i (by omega) (by omega)]; first | omega | (simp only [ByteArray.size_append, size_mk, List.length_cons, List.length_nil]; omega), by dsimp only; rw [cat_ext _ s i (by omega) (by omega)]; first | (rw [cat_92]; have q := esc_step d s i (by omega) (by omega) _ _ hc; rw [if_pos (by rw [← bt_92, ← bt_10]; first | omega | (rw [← bt_eq]; omega))] at q; exact q) | (have q := esc_step d s i (by omega) (by omega) _ _ hc; rw [if_neg (by rw [← bt_92, ← bt_10]; first | omega | (rw [← bt_eq]; omega)), List.append_nil] at q; exact q)⟩ [0, 1, 5, 6] (by dsimp only; omega) rfl (fun w h => h.sub .slnil)
  · skip
    refine g_cond_f rfl (g_exit (g_then_exit (g_then_exit (g_in_exit (g_then (g_seq (g_ops ?_)))))))
    refine g_val rfl rfl rfl (y_move rfl) ?_
    refine g_val rfl rfl rfl (y_assign rfl) ?_
    refine g_nil (g_then (g_ret ?_))
    refine g_end1 Try.results10 rfl ?_
    exact fun w hS => ⟨by rw [from_end s i (by omega), escL_nil, List.append_nil] at hc; rw [← ba_ext hc], hS.below⟩

theorem cuts_law (s : ByteArray) (i : Int) (d : UInt8) (lines : Bool) (w : World) :
    Calls Try.prog 3 #[.string s, .int .i64 i, .agg #[.int .u8 d.toNat, .bool lines]] w fun e w' => e = .returned (.bool true) ∧ Below w.heap.size w w' := by
  refine fn_intro Try.func3 rfl Try.ntmps3 rfl rfl ?_
  refine g_seq (g_ops ?_)
  refine g_box rfl rfl rfl rfl (fun b1 => ?_)
  refine g_val rfl rfl rfl (y_assign rfl) ?_
  refine g_nil (g_then (g_seq (g_seq (g_ops ?_))))
  refine g_val rfl rfl rfl (y_move rfl) ?_
  refine g_val rfl rfl rfl (y_slen rfl Try.underlying9) ?_
  refine g_val rfl rfl rfl (y_igt rfl rfl) ?_
  refine g_nil (g_then ?_)
  first | refine g_casep 15 rfl (fun h1 => ?_) (fun h1 => ?_) | refine g_caseb 15 rfl (fun h1 => ?_) (fun h1 => ?_)
  · skip
    refine g_cond_t rfl (g_seq (g_ops ?_))
    refine g_call1 rfl rfl rfl Try.call7 (fun w hS => alive_any w) ?_
    refine g_val rfl rfl rfl (y_assign rfl) ?_
    refine g_nil (g_then (g_ret (g_then_ret ?_)))
    refine g_end1 Try.results3 rfl ?_
    exact fun w hS => ⟨ret_bool (by simp_all), hS.below⟩
  · skip
    refine g_cond_f rfl (g_skip (g_then (g_seq (g_ops ?_))))
    refine g_val rfl rfl rfl (y_move rfl) ?_
    refine g_val rfl rfl rfl (y_move rfl) ?_
    refine g_val rfl rfl rfl (y_fieldAddr (k := 0) (m := 0) rfl (by kernel_rfl) rfl) ?_
    refine g_val rfl rfl rfl (y_ld 0 rfl Try.isAgg5 rfl rfl) ?_
    refine g_val rfl rfl rfl (y_fieldAddr (k := 1) (m := 1) rfl (by kernel_rfl) rfl) ?_
    refine g_val rfl rfl rfl (y_ld 0 rfl Try.isAgg4 rfl rfl) ?_
    refine g_call1 rfl rfl rfl Try.call8 (fun w hS => cut_any _ _ d _ _ (by omega) rfl w) ?_
    refine g_val rfl rfl rfl (y_move rfl) ?_
    refine g_val rfl rfl rfl (y_extract rfl rfl) ?_
    refine g_val rfl rfl rfl (y_extract rfl rfl) ?_
    refine g_val rfl rfl rfl (y_extract rfl rfl) ?_
    refine g_val rfl rfl rfl (y_assign rfl) ?_
    refine g_val rfl rfl rfl (y_assign rfl) ?_
    refine g_val rfl rfl rfl (y_assign rfl) ?_
    refine g_nil (g_then (g_seq (g_ops ?_)))
    refine g_val rfl rfl rfl (y_move rfl) ?_
    refine g_val rfl rfl rfl (y_move rfl) ?_
    refine g_val rfl rfl rfl (y_fieldAddr (k := 0) (m := 0) rfl (by kernel_rfl) rfl) ?_
    refine g_val rfl rfl rfl (y_ld 0 rfl Try.isAgg5 rfl rfl) ?_
    refine g_val rfl rfl rfl (y_fieldAddr (k := 1) (m := 1) rfl (by kernel_rfl) rfl) ?_
    refine g_val rfl rfl rfl (y_ld 0 rfl Try.isAgg4 rfl rfl) ?_
    refine g_call1 rfl rfl rfl Try.call9 (fun w hS => rcut_any _ _ d _ _ (by omega) rfl w) ?_
    refine g_val rfl rfl rfl (y_move rfl) ?_
    refine g_val rfl rfl rfl (y_extract rfl rfl) ?_
    refine g_val rfl rfl rfl (y_extract rfl rfl) ?_
    refine g_val rfl rfl rfl (y_extract rfl rfl) ?_
    refine g_val rfl rfl rfl (y_assign rfl) ?_
    refine g_val rfl rfl rfl (y_assign rfl) ?_
    refine g_val rfl rfl rfl (y_assign rfl) ?_
    refine g_nil (g_then (g_seq (g_ops ?_)))
    refine g_call1 rfl rfl rfl Try.call7 (fun w hS => alive_any w) ?_
    refine g_val rfl rfl rfl (y_move rfl) ?_
    first | refine g_casep 40 rfl (fun h2 => ?_) (fun h2 => ?_) | refine g_caseb 40 rfl (fun h2 => ?_) (fun h2 => ?_)
    · skip
      refine g_val rfl rfl rfl (y_move rfl) ?_
      refine g_val rfl rfl rfl (y_move rfl) ?_
      refine g_val rfl rfl rfl (y_seq rfl rfl) ?_
      refine g_val rfl rfl rfl (y_pick_t rfl rfl) ?_
      refine g_val rfl rfl rfl (y_move rfl) ?_
      first | refine g_casep 45 rfl (fun h3 => ?_) (fun h3 => ?_) | refine g_caseb 45 rfl (fun h3 => ?_) (fun h3 => ?_)
      · skip
        refine g_val rfl rfl rfl (y_move rfl) ?_
        refine g_val rfl rfl rfl (y_move rfl) ?_
        refine g_val rfl rfl rfl (y_ieq rfl rfl) ?_
        refine g_val rfl rfl rfl (y_pick_t rfl rfl) ?_
        refine g_val rfl rfl rfl (y_move rfl) ?_
        first | refine g_casep 50 rfl (fun h4 => ?_) (fun h4 => ?_) | refine g_caseb 50 rfl (fun h4 => ?_) (fun h4 => ?_)
        · skip
          refine g_val rfl rfl rfl (y_move rfl) ?_
          refine g_val rfl rfl rfl (y_move rfl) ?_
          refine g_val rfl rfl rfl (y_ieq rfl rfl) ?_
          refine g_val rfl rfl rfl (y_pick_t rfl rfl) ?_
          refine g_val rfl rfl rfl (y_assign rfl) ?_
          refine g_nil (g_then (g_ret ?_))
          refine g_end1 Try.results3 rfl ?_
          exact fun w hS => ⟨ret_bool (by simp_all), hS.below⟩
        · skip
          refine g_not rfl rfl rfl ?_
          refine g_not rfl rfl rfl ?_
          refine g_not rfl rfl rfl ?_
          refine g_val rfl rfl rfl (y_pick_f rfl rfl) ?_
          refine g_val rfl rfl rfl (y_assign rfl) ?_
          refine g_nil (g_then (g_ret ?_))
          refine g_end1 Try.results3 rfl ?_
          exfalso
          simp_all
      · skip
        refine g_not rfl rfl rfl ?_
        refine g_not rfl rfl rfl ?_
        refine g_not rfl rfl rfl ?_
        refine g_val rfl rfl rfl (y_pick_f rfl rfl) ?_
        refine g_val rfl rfl rfl (y_move rfl) ?_
        refine g_not rfl rfl rfl ?_
        refine g_not rfl rfl rfl ?_
        refine g_not rfl rfl rfl ?_
        refine g_val rfl rfl rfl (y_pick_f rfl rfl) ?_
        refine g_val rfl rfl rfl (y_assign rfl) ?_
        refine g_nil (g_then (g_ret ?_))
        refine g_end1 Try.results3 rfl ?_
        exfalso
        simp_all
    · skip
      refine g_not rfl rfl rfl ?_
      refine g_not rfl rfl rfl ?_
      refine g_not rfl rfl rfl ?_
      refine g_val rfl rfl rfl (y_pick_f rfl rfl) ?_
      refine g_val rfl rfl rfl (y_move rfl) ?_
      refine g_not rfl rfl rfl ?_
      refine g_not rfl rfl rfl ?_
      refine g_not rfl rfl rfl ?_
      refine g_val rfl rfl rfl (y_pick_f rfl rfl) ?_
      refine g_val rfl rfl rfl (y_move rfl) ?_
      refine g_not rfl rfl rfl ?_
      refine g_not rfl rfl rfl ?_
      refine g_not rfl rfl rfl ?_
      refine g_val rfl rfl rfl (y_pick_f rfl rfl) ?_
      refine g_val rfl rfl rfl (y_assign rfl) ?_
      refine g_nil (g_then (g_ret ?_))
      refine g_end1 Try.results3 rfl ?_
      exfalso
      simp_all

theorem back_law (s : ByteArray) (d : UInt8) (rest : ByteArray) (w : World) :
    Calls Try.prog 4 #[.string s, .int .u8 d.toNat, .string rest] w fun e w' => e = .returned (.bool true) ∧ Below w.heap.size w w' := by
  have hel : (escL d s.data.toList).length ≤ 2 * s.size := by have := escL_len d s.data.toList; rwa [dlen] at this
  refine fn_intro Try.func4 rfl Try.ntmps4 rfl rfl ?_
  refine g_seq (g_ops ?_)
  refine g_val rfl rfl rfl (y_assign rfl) ?_
  refine g_nil (g_then (g_seq (g_seq (g_ops ?_))))
  refine g_val rfl rfl rfl (y_move rfl) ?_
  refine g_val rfl rfl rfl (y_slen rfl Try.underlying9) ?_
  refine g_val rfl rfl rfl (y_igt rfl rfl) ?_
  refine g_val rfl rfl rfl (y_move rfl) ?_
  first | refine g_casep 20 rfl (fun h1 => ?_) (fun h1 => ?_) | refine g_caseb 20 rfl (fun h1 => ?_) (fun h1 => ?_)
  · skip
    refine g_not rfl rfl rfl ?_
    refine g_not rfl rfl rfl ?_
    refine g_not rfl rfl rfl ?_
    refine g_val rfl rfl rfl (y_pick_t rfl rfl) ?_
    refine g_val rfl rfl rfl (y_move rfl) ?_
    refine g_not rfl rfl rfl ?_
    refine g_not rfl rfl rfl ?_
    refine g_val rfl rfl rfl (y_pick_t rfl rfl) ?_
    refine g_val rfl rfl rfl (y_move rfl) ?_
    refine g_not rfl rfl rfl ?_
    refine g_not rfl rfl rfl ?_
    refine g_val rfl rfl rfl (y_pick_t rfl rfl) ?_
    refine g_nil (g_then (g_cond_t rfl (g_seq (g_ops ?_))))
    refine g_call1 rfl rfl rfl Try.call7 (fun w hS => alive_any w) ?_
    refine g_val rfl rfl rfl (y_assign rfl) ?_
    refine g_nil (g_then (g_ret (g_then_ret ?_)))
    refine g_end1 Try.results4 rfl ?_
    exact fun w hS => ⟨rfl, hS.below⟩
  · skip
    refine g_val rfl rfl rfl (y_move rfl) ?_
    refine g_val rfl rfl rfl (y_slen rfl Try.underlying9) ?_
    refine g_val rfl rfl rfl (y_igt rfl rfl) ?_
    refine g_val rfl rfl rfl (y_pick_f rfl rfl) ?_
    refine g_val rfl rfl rfl (y_move rfl) ?_
    first | refine g_casep 25 rfl (fun h2 => ?_) (fun h2 => ?_) | refine g_caseb 25 rfl (fun h2 => ?_) (fun h2 => ?_)
    · skip
      refine g_not rfl rfl rfl ?_
      refine g_not rfl rfl rfl ?_
      refine g_val rfl rfl rfl (y_pick_t rfl rfl) ?_
      refine g_val rfl rfl rfl (y_move rfl) ?_
      refine g_not rfl rfl rfl ?_
      refine g_not rfl rfl rfl ?_
      refine g_val rfl rfl rfl (y_pick_t rfl rfl) ?_
      refine g_nil (g_then (g_cond_t rfl (g_seq (g_ops ?_))))
      refine g_call1 rfl rfl rfl Try.call7 (fun w hS => alive_any w) ?_
      refine g_val rfl rfl rfl (y_assign rfl) ?_
      refine g_nil (g_then (g_ret (g_then_ret ?_)))
      refine g_end1 Try.results4 rfl ?_
      exact fun w hS => ⟨rfl, hS.below⟩
    · skip
      refine g_val rfl rfl rfl (y_move rfl) ?_
      refine g_val rfl rfl rfl (y_ieq rfl rfl) ?_
      refine g_val rfl rfl rfl (y_pick_f rfl rfl) ?_
      refine g_val rfl rfl rfl (y_move rfl) ?_
      first | refine g_casep 29 rfl (fun h3 => ?_) (fun h3 => ?_) | refine g_caseb 29 rfl (fun h3 => ?_) (fun h3 => ?_)
      · skip
        refine g_not rfl rfl rfl ?_
        refine g_not rfl rfl rfl ?_
        refine g_val rfl rfl rfl (y_pick_t rfl rfl) ?_
        refine g_nil (g_then (g_cond_t rfl (g_seq (g_ops ?_))))
        refine g_call1 rfl rfl rfl Try.call7 (fun w hS => alive_any w) ?_
        refine g_val rfl rfl rfl (y_assign rfl) ?_
        refine g_nil (g_then (g_ret (g_then_ret ?_)))
        refine g_end1 Try.results4 rfl ?_
        exact fun w hS => ⟨rfl, hS.below⟩
      · skip
        refine g_val rfl rfl rfl (y_move rfl) ?_
        refine g_val rfl rfl rfl (y_ieq rfl rfl) ?_
        refine g_val rfl rfl rfl (y_pick_f rfl rfl) ?_
        refine g_nil (g_then ?_)
        first | refine g_casep 32 rfl (fun h4 => ?_) (fun h4 => ?_) | refine g_caseb 32 rfl (fun h4 => ?_) (fun h4 => ?_)
        · skip
          refine g_cond_t rfl (g_seq (g_ops ?_))
          refine g_call1 rfl rfl rfl Try.call7 (fun w hS => alive_any w) ?_
          refine g_val rfl rfl rfl (y_assign rfl) ?_
          refine g_nil (g_then (g_ret (g_then_ret ?_)))
          refine g_end1 Try.results4 rfl ?_
          exact fun w hS => ⟨rfl, hS.below⟩
        · skip
          refine g_cond_f rfl (g_skip (g_then (g_seq (g_ops ?_))))
          refine g_val rfl rfl rfl (y_move rfl) ?_
          refine g_val rfl rfl rfl (y_move rfl) ?_
          refine g_call1 rfl rfl rfl Try.call10 (fun w hS => escaped_any s d (by omega) w) ?_
          refine g_val rfl rfl rfl (y_assign rfl) ?_
          refine g_nil (g_then (g_seq (g_ops ?_)))
          refine g_val rfl rfl rfl (y_assign rfl) ?_
          refine g_nil (g_then (g_seq (g_seq (g_ops ?_))))
          refine g_val rfl rfl rfl (y_assign rfl) ?_
          refine g_nil (g_then (g_block ?_))
          refine g_loop (α := {x : Int × ByteArray // 0 ≤ x.1 ∧ x.1 ≤ s.size ∧ x.2.size ≤ 2 * x.1.toNat ∧ x.2.data.toList ++ wantL (from_ s x.1) = wantL s.data.toList}) (fun x => [(0, .string s), (1, .int .u8 d.toNat), (2, .string rest), (7, .string ⟨(escL d s.data.toList).toArray⟩), (8, .string x.1.2), (9, .int .i64 x.1.1)]) (fun x => St w [] []) (fun x => s.size - x.1.1.toNat) ⟨(0, ⟨#[]⟩), by omega, by omega, by rw [size_mk]; simp, by rw [from_zero]; rfl⟩ [0, 1, 2, 7, 8, 9] rfl (fun w h => h.sub .slnil) ?_
          rintro ⟨⟨i, t⟩, hx⟩
          dsimp only
          dsimp only at hx
          obtain ⟨hi0, hi1, hl, hc⟩ := hx
          refine g_seq (g_seq (g_ops ?_))
          refine g_val rfl rfl rfl (y_move rfl) ?_
          refine g_val rfl rfl rfl (y_move rfl) ?_
          refine g_val rfl rfl rfl (y_slen rfl Try.underlying9) ?_
          refine g_val rfl rfl rfl (y_ilt rfl rfl) ?_
          refine g_nil (g_then ?_)
          first | refine g_casep 40 rfl (fun h5 => ?_) (fun h5 => ?_) | refine g_caseb 40 rfl (fun h5 => ?_) (fun h5 => ?_)
          · skip
            refine g_cond_t rfl (g_skip (g_then (g_seq (g_block (g_seq (g_seq (g_ops ?_)))))))
            refine g_val rfl rfl rfl (y_move rfl) ?_
            refine g_val rfl rfl rfl (y_move rfl) ?_
            refine g_val rfl rfl rfl (y_sat rfl rfl Try.underlying9 (by omega) (by omega)) ?_
            refine g_val rfl rfl rfl (y_ieq rfl rfl) ?_
            refine g_val rfl rfl rfl (y_move rfl) ?_
            first | refine g_casep 47 rfl (fun h6 => ?_) (fun h6 => ?_) | refine g_caseb 47 rfl (fun h6 => ?_) (fun h6 => ?_)
            · skip
              refine g_not rfl rfl rfl ?_
              refine g_not rfl rfl rfl ?_
              refine g_not rfl rfl rfl ?_
              refine g_not rfl rfl rfl ?_
              refine g_val rfl rfl rfl (y_pick_t rfl rfl) ?_
              refine g_nil (g_then (g_cond_t rfl (g_ops ?_)))
              refine g_val rfl rfl rfl (y_move rfl) ?_
              refine g_buildSlice (offs := [0]) rfl rfl Try.underlying30 rfl Try.zeroValue5 (by kernel_rfl) (fun b1 => ?_)
              refine g_val rfl rfl rfl (y_cellsStr (l := [92]) 0 rfl Try.underlying30 Try.underlying9 Try.underlying5 rfl rfl rfl) ?_
              refine g_val rfl rfl rfl (y_scat rfl rfl (by first | omega | (simp only [ByteArray.size_extract, ByteArray.size_append, size_mk, List.length_append, List.length_cons, List.length_nil] <;> omega))) ?_
              refine g_val rfl rfl rfl (y_assign rfl) ?_
              refine g_nil (g_then (g_ops ?_))
              refine g_val rfl rfl rfl (y_move rfl) ?_
              refine g_val rfl rfl rfl (y_move rfl) ?_
              refine g_val rfl rfl rfl (y_move rfl) ?_
              refine g_val rfl rfl rfl (y_move rfl) ?_
              refine g_val rfl rfl rfl (by first | exact y_addi rfl rfl (by first | omega | (simp only [size_mk, ByteArray.size_append, ByteArray.size_extract]; omega)) | exact y_iadd rfl rfl) ?_
              refine g_val rfl rfl rfl (y_ssl rfl rfl rfl Try.underlying9 (by omega) (by omega) (by first | omega | (simp only [size_mk, List.length_cons, List.length_nil]; omega))) ?_
              refine g_val rfl rfl rfl (y_scat rfl rfl (by first | omega | (simp only [ByteArray.size_extract, ByteArray.size_append, size_mk, List.length_append, List.length_cons, List.length_nil] <;> omega))) ?_
              refine g_val rfl rfl rfl (y_assign rfl) ?_
              refine g_nil (g_in_normal (g_then (g_ops ?_)))
              refine g_val rfl rfl rfl (y_move rfl) ?_
              refine g_val rfl rfl rfl (by first | exact y_addi rfl rfl (by first | omega | (simp only [size_mk, ByteArray.size_append, ByteArray.size_extract]; omega)) | exact y_iadd rfl rfl) ?_
              refine g_val rfl rfl rfl (y_assign rfl) ?_
              refine g_nil ?_
              exact g_again ⟨(_, _), by dsimp only; omega, by dsimp only; omega, by dsimp only; rw [cat_size _ s i (by omega) (by omega)]; first | omega | (simp only [ByteArray.size_append, size_mk, List.length_cons, List.length_nil]; omega), by dsimp only; rw [cat_ext _ s i (by omega) (by omega)]; first | (rw [cat_92]; have q := want_step s i (by omega) (by omega) _ _ hc; rw [if_pos (by rw [← bt_92, ← bt_10]; first | omega | (rw [← bt_eq]; omega))] at q; exact q) | (have q := want_step s i (by omega) (by omega) _ _ hc; rw [if_neg (by rw [← bt_92, ← bt_10]; first | omega | (rw [← bt_eq]; omega)), List.append_nil] at q; exact q)⟩ [0, 1, 2, 7, 8, 9] (by dsimp only; omega) rfl (fun w h => h.sub (.cons _ .slnil))
            · skip
              refine g_val rfl rfl rfl (y_move rfl) ?_
              refine g_val rfl rfl rfl (y_move rfl) ?_
              refine g_val rfl rfl rfl (y_sat rfl rfl Try.underlying9 (by omega) (by omega)) ?_
              refine g_val rfl rfl rfl (y_ieq rfl rfl) ?_
              refine g_val rfl rfl rfl (y_pick_f rfl rfl) ?_
              refine g_nil (g_then ?_)
              first | refine g_casep 52 rfl (fun h7 => ?_) (fun h7 => ?_) | refine g_caseb 52 rfl (fun h7 => ?_) (fun h7 => ?_)
              · skip
                refine g_cond_t rfl (g_ops ?_)
                refine g_val rfl rfl rfl (y_move rfl) ?_
                refine g_buildSlice (offs := [0]) rfl rfl Try.underlying30 rfl Try.zeroValue5 (by kernel_rfl) (fun b2 => ?_)
                refine g_val rfl rfl rfl (y_cellsStr (l := [92]) 0 rfl Try.underlying30 Try.underlying9 Try.underlying5 rfl rfl rfl) ?_
                refine g_val rfl rfl rfl (y_scat rfl rfl (by first | omega | (simp only [ByteArray.size_extract, ByteArray.size_append, size_mk, List.length_append, List.length_cons, List.length_nil] <;> omega))) ?_
                refine g_val rfl rfl rfl (y_assign rfl) ?_
                refine g_nil (g_then (g_ops ?_))
                refine g_val rfl rfl rfl (y_move rfl) ?_
                refine g_val rfl rfl rfl (y_move rfl) ?_
                refine g_val rfl rfl rfl (y_move rfl) ?_
                refine g_val rfl rfl rfl (y_move rfl) ?_
                refine g_val rfl rfl rfl (by first | exact y_addi rfl rfl (by first | omega | (simp only [size_mk, ByteArray.size_append, ByteArray.size_extract]; omega)) | exact y_iadd rfl rfl) ?_
                refine g_val rfl rfl rfl (y_ssl rfl rfl rfl Try.underlying9 (by omega) (by omega) (by first | omega | (simp only [size_mk, List.length_cons, List.length_nil]; omega))) ?_
                refine g_val rfl rfl rfl (y_scat rfl rfl (by first | omega | (simp only [ByteArray.size_extract, ByteArray.size_append, size_mk, List.length_append, List.length_cons, List.length_nil] <;> omega))) ?_
                refine g_val rfl rfl rfl (y_assign rfl) ?_
                refine g_nil (g_in_normal (g_then (g_ops ?_)))
                refine g_val rfl rfl rfl (y_move rfl) ?_
                refine g_val rfl rfl rfl (by first | exact y_addi rfl rfl (by first | omega | (simp only [size_mk, ByteArray.size_append, ByteArray.size_extract]; omega)) | exact y_iadd rfl rfl) ?_
                refine g_val rfl rfl rfl (y_assign rfl) ?_
                refine g_nil ?_
                exact g_again ⟨(_, _), by dsimp only; omega, by dsimp only; omega, by dsimp only; rw [cat_size _ s i (by omega) (by omega)]; first | omega | (simp only [ByteArray.size_append, size_mk, List.length_cons, List.length_nil]; omega), by dsimp only; rw [cat_ext _ s i (by omega) (by omega)]; first | (rw [cat_92]; have q := want_step s i (by omega) (by omega) _ _ hc; rw [if_pos (by rw [← bt_92, ← bt_10]; first | omega | (rw [← bt_eq]; omega))] at q; exact q) | (have q := want_step s i (by omega) (by omega) _ _ hc; rw [if_neg (by rw [← bt_92, ← bt_10]; first | omega | (rw [← bt_eq]; omega)), List.append_nil] at q; exact q)⟩ [0, 1, 2, 7, 8, 9] (by dsimp only; omega) rfl (fun w h => h.sub (.cons _ .slnil))
              · skip
                refine g_cond_f rfl (g_skip (g_then (g_ops ?_)))
                refine g_val rfl rfl rfl (y_move rfl) ?_
                refine g_val rfl rfl rfl (y_move rfl) ?_
                refine g_val rfl rfl rfl (y_move rfl) ?_
                refine g_val rfl rfl rfl (y_move rfl) ?_
                refine g_val rfl rfl rfl (by first | exact y_addi rfl rfl (by first | omega | (simp only [size_mk, ByteArray.size_append, ByteArray.size_extract]; omega)) | exact y_iadd rfl rfl) ?_
                refine g_val rfl rfl rfl (y_ssl rfl rfl rfl Try.underlying9 (by omega) (by omega) (by first | omega | (simp only [size_mk, List.length_cons, List.length_nil]; omega))) ?_
                refine g_val rfl rfl rfl (y_scat rfl rfl (by first | omega | (simp only [ByteArray.size_extract, ByteArray.size_append, size_mk, List.length_append, List.length_cons, List.length_nil] <;> omega))) ?_
                refine g_val rfl rfl rfl (y_assign rfl) ?_
                refine g_nil (g_in_normal (g_then (g_ops ?_)))
                refine g_val rfl rfl rfl (y_move rfl) ?_
                refine g_val rfl rfl rfl (by first | exact y_addi rfl rfl (by first | omega | (simp only [size_mk, ByteArray.size_append, ByteArray.size_extract]; omega)) | exact y_iadd rfl rfl) ?_
                refine g_val rfl rfl rfl (y_assign rfl) ?_
                refine g_nil ?_
                exact g_again ⟨(_, _), by dsimp only; omega, by dsimp only; omega, by dsimp only; rw [cat_size _ s i (by omega) (by omega)]; first | omega | (simp only [ByteArray.size_append, size_mk, List.length_cons, List.length_nil]; omega), by dsimp only; rw [cat_ext _ s i (by omega) (by omega)]; first | (rw [cat_92]; have q := want_step s i (by omega) (by omega) _ _ hc; rw [if_pos (by rw [← bt_92, ← bt_10]; first | omega | (rw [← bt_eq]; omega))] at q; exact q) | (have q := want_step s i (by omega) (by omega) _ _ hc; rw [if_neg (by rw [← bt_92, ← bt_10]; first | omega | (rw [← bt_eq]; omega)), List.append_nil] at q; exact q)⟩ [0, 1, 2, 7, 8, 9] (by dsimp only; omega) rfl (fun w h => h.sub .slnil)
          · skip
            refine g_cond_f rfl (g_exit (g_then_exit (g_then_exit (g_in_exit (g_then (g_seq (g_ops ?_)))))))
            refine g_val rfl rfl rfl (y_move rfl) ?_
            refine g_buildSlice (offs := [0]) rfl rfl Try.underlying30 rfl Try.zeroValue5 (by kernel_rfl) (fun b3 => ?_)
            refine g_val rfl rfl rfl (y_cellsStr (l := [d]) 0 rfl Try.underlying30 Try.underlying9 Try.underlying5 rfl rfl rfl) ?_
            refine g_val rfl rfl rfl (y_assign rfl) ?_
            refine g_nil (g_then (g_seq (g_ops ?_)))
            refine g_val rfl rfl rfl (y_move rfl) ?_
            refine g_val rfl rfl rfl (y_move rfl) ?_
            refine g_val rfl rfl rfl (y_scat rfl rfl (by first | omega | (simp only [ByteArray.size_extract, ByteArray.size_append, size_mk, List.length_append, List.length_cons, List.length_nil] <;> omega))) ?_
            refine g_val rfl rfl rfl (y_move rfl) ?_
            refine g_val rfl rfl rfl (y_scat rfl rfl (by first | omega | (simp only [ByteArray.size_extract, ByteArray.size_append, size_mk, List.length_append, List.length_cons, List.length_nil] <;> omega))) ?_
            refine g_val rfl rfl rfl (y_move rfl) ?_
            refine g_call1 rfl rfl rfl Try.call8 (fun w hS => cut_any _ 0 d true _ (by first | (simp only [ByteArray.size_append, size_mk, List.length_cons, List.length_nil]; omega) | (rw [size_mk]; omega)) (back1 d (by intro q; subst q; simp_all) (by intro q; subst q; simp_all) s.data.toList rest) w) ?_
            refine g_val rfl rfl rfl (y_move rfl) ?_
            refine g_val rfl rfl rfl (y_extract rfl rfl) ?_
            refine g_val rfl rfl rfl (y_extract rfl rfl) ?_
            refine g_val rfl rfl rfl (y_extract rfl rfl) ?_
            refine g_val rfl rfl rfl (y_assign rfl) ?_
            refine g_val rfl rfl rfl (y_assign rfl) ?_
            refine g_val rfl rfl rfl (y_assign rfl) ?_
            refine g_nil (g_then (g_seq (g_ops ?_)))
            refine g_val rfl rfl rfl (y_move rfl) ?_
            refine g_val rfl rfl rfl (y_move rfl) ?_
            refine g_call1 rfl rfl rfl Try.call8 (fun w hS => cut_any _ 0 d true _ (by first | (simp only [ByteArray.size_append, size_mk, List.length_cons, List.length_nil]; omega) | (rw [size_mk]; omega)) (back2 d (by intro q; subst q; simp_all) (by intro q; subst q; simp_all) s.data.toList) w) ?_
            refine g_val rfl rfl rfl (y_move rfl) ?_
            refine g_val rfl rfl rfl (y_extract rfl rfl) ?_
            refine g_val rfl rfl rfl (y_extract rfl rfl) ?_
            refine g_val rfl rfl rfl (y_extract rfl rfl) ?_
            refine g_val rfl rfl rfl (y_assign rfl) ?_
            refine g_val rfl rfl rfl (y_assign rfl) ?_
            refine g_val rfl rfl rfl (y_assign rfl) ?_
            refine g_nil (g_then (g_seq (g_ops ?_)))
            refine g_call1 rfl rfl rfl Try.call7 (fun w hS => alive_any w) ?_
            refine g_val rfl rfl rfl (y_move rfl) ?_
            first | refine g_casep 86 rfl (fun h8 => ?_) (fun h8 => ?_) | refine g_caseb 86 rfl (fun h8 => ?_) (fun h8 => ?_)
            · skip
              refine g_val rfl rfl rfl (y_move rfl) ?_
              refine g_val rfl rfl rfl (y_ieq rfl rfl) ?_
              refine g_val rfl rfl rfl (y_pick_t rfl rfl) ?_
              refine g_val rfl rfl rfl (y_move rfl) ?_
              first | refine g_casep 90 rfl (fun h9 => ?_) (fun h9 => ?_) | refine g_caseb 90 rfl (fun h9 => ?_) (fun h9 => ?_)
              · skip
                refine g_val rfl rfl rfl (y_move rfl) ?_
                refine g_val rfl rfl rfl (y_move rfl) ?_
                refine g_val rfl rfl rfl (y_seq rfl rfl) ?_
                refine g_val rfl rfl rfl (y_pick_t rfl rfl) ?_
                refine g_val rfl rfl rfl (y_move rfl) ?_
                first | refine g_casep 95 rfl (fun h10 => ?_) (fun h10 => ?_) | refine g_caseb 95 rfl (fun h10 => ?_) (fun h10 => ?_)
                · skip
                  refine g_val rfl rfl rfl (y_move rfl) ?_
                  refine g_val rfl rfl rfl (y_move rfl) ?_
                  refine g_val rfl rfl rfl (y_slen rfl Try.underlying9) ?_
                  refine g_val rfl rfl rfl (by first | exact y_addi rfl rfl (by first | omega | (simp only [size_mk, ByteArray.size_append, ByteArray.size_extract]; omega)) | exact y_iadd rfl rfl) ?_
                  refine g_val rfl rfl rfl (y_ieq rfl rfl) ?_
                  refine g_val rfl rfl rfl (y_pick_t rfl rfl) ?_
                  refine g_val rfl rfl rfl (y_move rfl) ?_
                  first | refine g_casep 102 rfl (fun h11 => ?_) (fun h11 => ?_) | refine g_caseb 102 rfl (fun h11 => ?_) (fun h11 => ?_)
                  · skip
                    refine g_val rfl rfl rfl (y_move rfl) ?_
                    refine g_val rfl rfl rfl (y_ieq rfl rfl) ?_
                    refine g_val rfl rfl rfl (y_pick_t rfl rfl) ?_
                    refine g_val rfl rfl rfl (y_assign rfl) ?_
                    refine g_nil (g_then (g_ret ?_))
                    refine g_end1 Try.results4 rfl ?_
                    have ht : t = (⟨(wantL s.data.toList).toArray⟩ : ByteArray) := by rw [from_end s i (by omega), wantL_nil, List.append_nil] at hc; exact ba_ext hc
                    subst ht
                    clear hc hl
                    exact fun w hS => ⟨ret_bool (by first | (simp_all [size_mk]; done) | (simp_all [size_mk]; omega)), hS.below⟩
                  · skip
                    refine g_not rfl rfl rfl ?_
                    refine g_not rfl rfl rfl ?_
                    refine g_val rfl rfl rfl (y_pick_f rfl rfl) ?_
                    refine g_val rfl rfl rfl (y_assign rfl) ?_
                    refine g_nil (g_then (g_ret ?_))
                    refine g_end1 Try.results4 rfl ?_
                    have ht : t = (⟨(wantL s.data.toList).toArray⟩ : ByteArray) := by rw [from_end s i (by omega), wantL_nil, List.append_nil] at hc; exact ba_ext hc
                    subst ht
                    clear hc hl
                    exfalso
                    simp_all [size_mk]
                · skip
                  refine g_not rfl rfl rfl ?_
                  refine g_not rfl rfl rfl ?_
                  refine g_not rfl rfl rfl ?_
                  refine g_not rfl rfl rfl ?_
                  refine g_not rfl rfl rfl ?_
                  refine g_val rfl rfl rfl (y_pick_f rfl rfl) ?_
                  refine g_val rfl rfl rfl (y_move rfl) ?_
                  refine g_not rfl rfl rfl ?_
                  refine g_not rfl rfl rfl ?_
                  refine g_val rfl rfl rfl (y_pick_f rfl rfl) ?_
                  refine g_val rfl rfl rfl (y_assign rfl) ?_
                  refine g_nil (g_then (g_ret ?_))
                  refine g_end1 Try.results4 rfl ?_
                  have ht : t = (⟨(wantL s.data.toList).toArray⟩ : ByteArray) := by rw [from_end s i (by omega), wantL_nil, List.append_nil] at hc; exact ba_ext hc
                  subst ht
                  clear hc hl
                  exfalso
                  simp_all [size_mk]
              · skip
                refine g_not rfl rfl rfl ?_
                refine g_not rfl rfl rfl ?_
                refine g_not rfl rfl rfl ?_
                refine g_val rfl rfl rfl (y_pick_f rfl rfl) ?_
                refine g_val rfl rfl rfl (y_move rfl) ?_
                refine g_not rfl rfl rfl ?_
                refine g_not rfl rfl rfl ?_
                refine g_not rfl rfl rfl ?_
                refine g_not rfl rfl rfl ?_
                refine g_not rfl rfl rfl ?_
                refine g_val rfl rfl rfl (y_pick_f rfl rfl) ?_
                refine g_val rfl rfl rfl (y_move rfl) ?_
                refine g_not rfl rfl rfl ?_
                refine g_not rfl rfl rfl ?_
                refine g_val rfl rfl rfl (y_pick_f rfl rfl) ?_
                refine g_val rfl rfl rfl (y_assign rfl) ?_
                refine g_nil (g_then (g_ret ?_))
                refine g_end1 Try.results4 rfl ?_
                have ht : t = (⟨(wantL s.data.toList).toArray⟩ : ByteArray) := by rw [from_end s i (by omega), wantL_nil, List.append_nil] at hc; exact ba_ext hc
                subst ht
                clear hc hl
                exfalso
                simp_all [size_mk]
            · skip
              refine g_not rfl rfl rfl ?_
              refine g_not rfl rfl rfl ?_
              refine g_val rfl rfl rfl (y_pick_f rfl rfl) ?_
              refine g_val rfl rfl rfl (y_move rfl) ?_
              refine g_not rfl rfl rfl ?_
              refine g_not rfl rfl rfl ?_
              refine g_not rfl rfl rfl ?_
              refine g_val rfl rfl rfl (y_pick_f rfl rfl) ?_
              refine g_val rfl rfl rfl (y_move rfl) ?_
              refine g_not rfl rfl rfl ?_
              refine g_not rfl rfl rfl ?_
              refine g_not rfl rfl rfl ?_
              refine g_not rfl rfl rfl ?_
              refine g_not rfl rfl rfl ?_
              refine g_val rfl rfl rfl (y_pick_f rfl rfl) ?_
              refine g_val rfl rfl rfl (y_move rfl) ?_
              refine g_not rfl rfl rfl ?_
              refine g_not rfl rfl rfl ?_
              refine g_val rfl rfl rfl (y_pick_f rfl rfl) ?_
              refine g_val rfl rfl rfl (y_assign rfl) ?_
              refine g_nil (g_then (g_ret ?_))
              refine g_end1 Try.results4 rfl ?_
              have ht : t = (⟨(wantL s.data.toList).toArray⟩ : ByteArray) := by rw [from_end s i (by omega), wantL_nil, List.append_nil] at hc; exact ba_ext hc
              subst ht
              clear hc hl
              exfalso
              simp_all [size_mk]

end Go.Proofs.Ytjafkmaolpkbnaa
