/- Texts of lines. -/
import Derived.Test.YtjafkmaolpkbnaaDoorTokL
namespace Go.Proofs.YtjafkmaolpkbnaaDoor
open Go Go.RowKit

def linM : Bool → List UInt8 → List UInt8 → Option (List UInt8 × List UInt8)
  | false, [], acc => some (acc ++ [10], [])
  | true, [], _ => none
  | false, c :: r, acc => if c = 10 then some (acc ++ [10], c :: r) else if c = 92 then linM true r acc else linM false r (acc ++ [c])
  | true, c :: r, acc => linM false r (acc ++ [c])
def linR (s : ByteArray) (i : Int) : ByteArray × Int × Int :=
  if 0 ≤ i ∧ i ≤ s.size then match from_ s (blkR s i) with
    | 92 :: 10 :: r => finR s (linM false r [])
    | _ => (⟨#[]⟩, 0, 121)
  else (⟨#[]⟩, 0, 121)
theorem blkL_le (l : List UInt8) : blkL l ≤ l.length := by
  induction l with
  | nil => simp [blkL]
  | cons c l ih => unfold blkL; split <;> simp; omega
theorem blk_bd (s : ByteArray) (i : Int) : 0 ≤ i ∧ i ≤ s.size → i ≤ blkR s i ∧ blkR s i ≤ s.size := by
  intro h
  have h1 := blkL_le (from_ s i)
  have h2 := from_len s i h.1 h.2
  unfold blkR
  rw [if_pos h]; omega
theorem ext_from (s : ByteArray) (i : Int) (h0 : 0 ≤ i) (h1 : i ≤ s.size) : (s.extract i.toNat s.size).data.toList = from_ s i := by
  rw [ByteArray.data_extract, Array.toList_extract, List.extract_eq_take_drop]
  unfold from_
  rw [List.take_of_length_le]
  rw [List.length_drop, dlen]; omega
theorem pre_start (s : ByteArray) (b : Int) (h0 : 0 ≤ b) (h1 : b ≤ s.size) (h : Lib.hasPrefix (s.extract b.toNat s.size).data.toList (⟨#[92, 10]⟩ : ByteArray).data.toList = true) : from_ s b = 92 :: 10 :: from_ s (b + 2) ∧ b + 2 ≤ s.size := by
  rw [ext_from s b h0 h1] at h
  have hl := from_len s b h0 h1
  match hq : from_ s b, h with
  | c :: e :: r, h =>
    rw [hq] at hl
    simp only [List.length_cons] at hl
    have q1 := from_at s b h0 (by omega)
    have q2 := from_at s (b + 1) (by omega) (by omega)
    rw [q2] at q1
    rw [hq] at q1
    have e3 : b + 1 + 1 = b + 2 := by omega
    rw [e3] at q1
    simp [Lib.hasPrefix] at h
    have h4 := h
    refine ⟨?_, by omega⟩
    simp only [List.cons.injEq] at q1
    rw [← q1.2.2, ← h4.1, ← h4.2]
  | [c], h => simp [Lib.hasPrefix] at h
  | [], h => simp [Lib.hasPrefix] at h
theorem pre_no (s : ByteArray) (b : Int) (h0 : 0 ≤ b) (h1 : b ≤ s.size) (h : Lib.hasPrefix (s.extract b.toNat s.size).data.toList (⟨#[92, 10]⟩ : ByteArray).data.toList = false) (r : List UInt8) : from_ s b ≠ 92 :: 10 :: r := by
  rw [ext_from s b h0 h1] at h
  intro q
  rw [q] at h
  simp [Lib.hasPrefix] at h
theorem lin_start (s : ByteArray) (i : Int) (h0 : 0 ≤ i) (h1 : i ≤ s.size) (h : Lib.hasPrefix (s.extract (blkR s i).toNat s.size).data.toList (⟨#[92, 10]⟩ : ByteArray).data.toList = true) : linR s i = finR s (linM false (from_ s (blkR s i + 2)) []) ∧ blkR s i + 2 ≤ s.size := by
  have hb := blk_bd s i ⟨h0, h1⟩
  obtain ⟨q1, q2⟩ := pre_start s (blkR s i) (by omega) (by omega) h
  refine ⟨?_, q2⟩
  unfold linR
  rw [if_pos ⟨h0, h1⟩, q1]
  rfl
theorem lin_no (s : ByteArray) (i : Int) (h0 : 0 ≤ i) (h1 : i ≤ s.size) (h : Lib.hasPrefix (s.extract (blkR s i).toNat s.size).data.toList (⟨#[92, 10]⟩ : ByteArray).data.toList = false) : linR s i = (⟨#[]⟩, 0, 121) := by
  have hb := blk_bd s i ⟨h0, h1⟩
  unfold linR
  rw [if_pos ⟨h0, h1⟩]
  split
  · rename_i r q; exact absurd q (pre_no s (blkR s i) (by omega) (by omega) h r)
  · rfl
theorem lin_out (s : ByteArray) (i : Int) (h : ¬ (0 ≤ i ∧ i ≤ s.size)) : linR s i = (⟨#[]⟩, 0, 121) := by unfold linR; rw [if_neg h]
section
variable (s : ByteArray) (i : Int) (acc : List UInt8) (h0 : 0 ≤ i)
include h0
omit h0 in
theorem lin_end (h1 : i = s.size) : finR s (linM false (from_ s i) acc) = (⟨(acc ++ [10]).toArray⟩, i, 0) := by
  rw [from_end s i h1, linM, finR]; simp; omega
theorem lin_10 (h1 : i < s.size) (h : bt s i = 10) : finR s (linM false (from_ s i) acc) = (⟨(acc ++ [10]).toArray⟩, i, 0) := by
  have q := from_len s i h0 (by omega)
  rw [from_at s i h0 h1, linM, if_pos ((bt_10 s i).1 h), ← from_at s i h0 h1, finR, q]
  congr 2; omega
theorem lin_c (h1 : i < s.size) (h : ¬ bt s i = 10) (h' : ¬ bt s i = 92) : finR s (linM false (from_ s i) acc) = finR s (linM false (from_ s (i + 1)) (acc ++ [by8 s i])) := by
  rw [from_at s i h0 h1, linM, if_neg (fun q => h ((bt_10 s i).2 q)), if_neg (fun q => h' ((bt_92 s i).2 q))]
theorem lin_92 (h1 : i < s.size) (h' : bt s i = 92) : finR s (linM false (from_ s i) acc) = finR s (linM true (from_ s (i + 1)) acc) := by
  rw [from_at s i h0 h1, linM, if_neg (fun q => by have := (bt_10 s i).2 q; omega), if_pos ((bt_92 s i).1 h')]
theorem lin_e (h1 : i < s.size) : finR s (linM true (from_ s i) acc) = finR s (linM false (from_ s (i + 1)) (acc ++ [by8 s i])) := by
  rw [from_at s i h0 h1, linM]
end
theorem lin_e0 (s : ByteArray) (i : Int) (acc : List UInt8) (h1 : i = s.size) : finR s (linM true (from_ s i) acc) = (⟨#[]⟩, 0, 121) := by
  rw [from_end s i h1]; rfl
theorem hp_any (s p : ByteArray) (w : World) : Calls Tryd.prog 25 #[.string s, .string p] w fun e w' => e = .returned (.bool (Lib.hasPrefix s.data.toList p.data.toList)) ∧ Below w.heap.size w w' :=
  (Tryd.strings_HasPrefix s p w).mono fun e w' ⟨he, hw⟩ => ⟨he, hw ▸ Below.refl _ _⟩

theorem lines_any (s : ByteArray) (i0 : Int) (R0 : ByteArray × Int × Int) (hs : s.size ≤ 1073741824) (hR : linR s i0 = R0) (w : World) :
    Calls Tryd.prog 15 #[.string s, .int .i64 i0] w fun e w' => e = .returned (cutV R0) ∧ Below w.heap.size w w' := by
  have hbb := blk_bd s i0
  refine fn_intro Tryd.func15 rfl Tryd.ntmps15 rfl rfl ?_
  refine g_seq (g_ops ?_)
  refine g_val rfl rfl rfl (y_assign rfl) ?_
  refine g_val rfl rfl rfl (y_assign rfl) ?_
  refine g_val rfl rfl rfl (y_assign rfl) ?_
  refine g_nil (g_then ?_)
  refine g_scope (α := ({x : Unit // R0 = (⟨#[]⟩, 0, 121)}) ⊕ ({x : Int × Value × List UInt8 // 0 ≤ x.1 ∧ x.1 ≤ s.size ∧ x.2.2.length ≤ x.1.toNat ∧ finR s (linM false (from_ s x.1) x.2.2) = R0})) (fun z => match z with | (.inl x) => [] | (.inr x) => [(0, .string s), (1, .int .i64 x.1.1), (7, x.1.2.1)]) (fun z => match z with | (.inl x) => St w [] [] | (.inr x) => St w [] [.bytes 5 x.1.2.1 x.1.2.2]) (fun z => match z with | (.inl x) => 0 | (.inr x) => 1) (fun z => match z with | (.inl x) => 0 | (.inr x) => s.size - x.1.1.toNat + 1) ?_ ?_
  · skip
    refine g_seq (g_ops ?_)
    refine g_nilBytes 5 ?_
    refine g_val rfl rfl rfl (y_assign rfl) ?_
    refine g_nil (g_then (g_seq (g_seq (g_ops ?_))))
    refine g_val rfl rfl rfl (y_move rfl) ?_
    refine g_val rfl rfl rfl (y_move rfl) ?_
    refine g_call1 rfl rfl rfl Tryd.call20 (fun w hS => place_any _ _ w) ?_
    refine g_val rfl rfl rfl ((by first | exact y_notp rfl | exact y_not rfl)) ?_
    refine g_nil (g_then ?_)
    first | refine g_casep 11 rfl (fun h1 => ?_) (fun h1 => ?_) | refine g_caseb 11 rfl (fun h1 => ?_) (fun h1 => ?_)
    · skip
      refine g_cond_t rfl (g_goto (g_then_goto ?_))
      exact g_jump (.inl ⟨(), by first | exact hc.symm.trans ((lin_92 s i _ (by omega) (by omega) (by omega)).trans (lin_e0 s (i + 1) _ (by omega))) | exact hR.symm.trans (lin_out s i0 (by omega)) | exact hR.symm.trans (lin_no s i0 (by omega) (by omega) (by simpa only [Bool.not_eq_true'] using h2))⟩) [] rfl (fun j hj => by cases hj) rfl (fun w h => h.sub (.cons _ .slnil))
    · skip
      refine g_cond_f rfl (g_skip (g_then (g_seq (g_ops ?_))))
      refine g_val rfl rfl rfl (y_move rfl) ?_
      refine g_val rfl rfl rfl (y_move rfl) ?_
      refine g_call1 rfl rfl rfl Tryd.call9 (fun w hS => blanks_any _ _ (blkR s i0) (by omega) rfl w) ?_
      refine g_val rfl rfl rfl (y_assign rfl) ?_
      refine g_nil (g_then (g_seq (g_seq (g_ops ?_))))
      refine g_val rfl rfl rfl (y_move rfl) ?_
      refine g_val rfl rfl rfl (y_move rfl) ?_
      refine g_val rfl rfl rfl (y_sfr rfl rfl Tryd.underlying9 (by omega) (by omega)) ?_
      refine g_call1 rfl rfl rfl Tryd.call25 (fun w hS => hp_any _ _ w) ?_
      refine g_val rfl rfl rfl ((by first | exact y_notp rfl | exact y_not rfl)) ?_
      refine g_nil (g_then ?_)
      first | refine g_casep 19 rfl (fun h2 => ?_) (fun h2 => ?_) | refine g_caseb 19 rfl (fun h2 => ?_) (fun h2 => ?_)
      · skip
        refine g_cond_t rfl (g_goto (g_then_goto ?_))
        exact g_jump (.inl ⟨(), by first | exact hc.symm.trans ((lin_92 s i _ (by omega) (by omega) (by omega)).trans (lin_e0 s (i + 1) _ (by omega))) | exact hR.symm.trans (lin_out s i0 (by omega)) | exact hR.symm.trans (lin_no s i0 (by omega) (by omega) (by simpa only [Bool.not_eq_true'] using h2))⟩) [] rfl (fun j hj => by cases hj) rfl (fun w h => h.sub (.cons _ .slnil))
      · skip
        refine g_cond_f rfl (g_skip (g_then (g_seq (g_ops ?_))))
        refine g_val rfl rfl rfl (y_move rfl) ?_
        refine g_val rfl rfl rfl (by first | exact y_addi rfl rfl (by first | omega | (simp only [size_mk, ByteArray.size_append, ByteArray.size_extract]; omega)) | exact y_iadd rfl rfl) ?_
        refine g_val rfl rfl rfl (y_assign rfl) ?_
        refine g_nil (g_then (g_seq (g_label ?_)))
        have hin : 0 ≤ i0 ∧ i0 ≤ s.size := by simp_all
        obtain ⟨hst, hle⟩ := lin_start s i0 hin.1 hin.2 (by simpa only [Bool.not_eq_false'] using h2)
        obtain ⟨i, hii⟩ : ∃ i, i = blkR s i0 + 2 := ⟨_, rfl⟩
        rw [← hii] at hst hle ⊢
        have hc : finR s (linM false (from_ s i) []) = R0 := hst.symm.trans hR
        have hl : ([] : List UInt8).length ≤ i.toNat := by simp
        have hi0 : 0 ≤ i := by omega
        have hi1 : i ≤ s.size := by omega
        refine g_then (g_seq (g_seq (g_ops ?_)))
        refine g_val rfl rfl rfl (y_move rfl) ?_
        refine g_val rfl rfl rfl (y_move rfl) ?_
        refine g_val rfl rfl rfl (y_slen rfl Tryd.underlying9) ?_
        refine g_val rfl rfl rfl (y_ieq rfl rfl) ?_
        refine g_val rfl rfl rfl (y_move rfl) ?_
        first | refine g_casep 26 rfl (fun h3 => ?_) (fun h3 => ?_) | refine g_caseb 26 rfl (fun h3 => ?_) (fun h3 => ?_)
        · skip
          refine g_not rfl rfl rfl ?_
          refine g_not rfl rfl rfl ?_
          refine g_not rfl rfl rfl ?_
          refine g_not rfl rfl rfl ?_
          refine g_val rfl rfl rfl (y_pick_t rfl rfl) ?_
          refine g_nil (g_then (g_cond_t rfl (g_seq (g_ops ?_))))
          refine g_val rfl rfl rfl (y_move rfl) ?_
          refine g_buildSlice (offs := [0]) rfl rfl Tryd.underlying23 rfl Tryd.zeroValue5 (by kernel_rfl) (fun b1 => ?_)
          refine g_appB (l' := [10]) 1 0 rfl rfl rfl rfl Tryd.underlying23 (by kernel_rfl) rfl rfl rfl rfl (by first | omega | (simp; omega)) (fun v2 => ?_)
          simp only [List.set_cons_zero, List.set_cons_succ]
          refine g_val rfl rfl rfl (y_bytesStr 1 rfl Tryd.underlying23 Tryd.underlying9 Tryd.underlying5 rfl) ?_
          refine g_val rfl rfl rfl (y_move rfl) ?_
          refine g_val rfl rfl rfl (y_assign rfl) ?_
          refine g_val rfl rfl rfl (y_assign rfl) ?_
          refine g_val rfl rfl rfl (y_assign rfl) ?_
          refine g_nil (g_then (g_ret (g_then_ret (g_jumps_ret ?_))))
          refine g_end3 Tryd.results15 rfl rfl rfl ?_
          exact fun w hS => ⟨ret_cut (by first | assumption | exact hc.symm.trans (lin_end s i _ (by omega)) | exact hc.symm.trans (lin_10 s i _ (by omega) (by omega) (by omega))), hS.below⟩
        · skip
          refine g_val rfl rfl rfl (y_move rfl) ?_
          refine g_val rfl rfl rfl (y_move rfl) ?_
          refine g_val rfl rfl rfl (y_sat rfl rfl Tryd.underlying9 (by omega) (by omega)) ?_
          refine g_val rfl rfl rfl (y_ieq rfl rfl) ?_
          refine g_val rfl rfl rfl (y_pick_f rfl rfl) ?_
          refine g_nil (g_then ?_)
          first | refine g_casep 31 rfl (fun h4 => ?_) (fun h4 => ?_) | refine g_caseb 31 rfl (fun h4 => ?_) (fun h4 => ?_)
          · skip
            refine g_cond_t rfl (g_seq (g_ops ?_))
            refine g_val rfl rfl rfl (y_move rfl) ?_
            refine g_buildSlice (offs := [0]) rfl rfl Tryd.underlying23 rfl Tryd.zeroValue5 (by kernel_rfl) (fun b3 => ?_)
            refine g_appB (l' := [10]) 1 0 rfl rfl rfl rfl Tryd.underlying23 (by kernel_rfl) rfl rfl rfl rfl (by first | omega | (simp; omega)) (fun v4 => ?_)
            simp only [List.set_cons_zero, List.set_cons_succ]
            refine g_val rfl rfl rfl (y_bytesStr 1 rfl Tryd.underlying23 Tryd.underlying9 Tryd.underlying5 rfl) ?_
            refine g_val rfl rfl rfl (y_move rfl) ?_
            refine g_val rfl rfl rfl (y_assign rfl) ?_
            refine g_val rfl rfl rfl (y_assign rfl) ?_
            refine g_val rfl rfl rfl (y_assign rfl) ?_
            refine g_nil (g_then (g_ret (g_then_ret (g_jumps_ret ?_))))
            refine g_end3 Tryd.results15 rfl rfl rfl ?_
            exact fun w hS => ⟨ret_cut (by first | assumption | exact hc.symm.trans (lin_end s i _ (by omega)) | exact hc.symm.trans (lin_10 s i _ (by omega) (by omega) (by omega))), hS.below⟩
          · skip
            refine g_cond_f rfl (g_skip (g_then (g_seq (g_seq (g_ops ?_)))))
            refine g_val rfl rfl rfl (y_move rfl) ?_
            refine g_val rfl rfl rfl (y_move rfl) ?_
            refine g_val rfl rfl rfl (y_sat rfl rfl Tryd.underlying9 (by omega) (by omega)) ?_
            refine g_val rfl rfl rfl (y_ieq rfl rfl) ?_
            refine g_nil (g_then ?_)
            first | refine g_casep 40 rfl (fun h5 => ?_) (fun h5 => ?_) | refine g_caseb 40 rfl (fun h5 => ?_) (fun h5 => ?_)
            · skip
              refine g_cond_t rfl (g_seq (g_ops ?_))
              refine g_val rfl rfl rfl (y_move rfl) ?_
              refine g_val rfl rfl rfl (by first | exact y_addi rfl rfl (by first | omega | (simp only [size_mk, ByteArray.size_append, ByteArray.size_extract]; omega)) | exact y_iadd rfl rfl) ?_
              refine g_val rfl rfl rfl (y_assign rfl) ?_
              refine g_nil (g_then (g_seq (g_ops ?_)))
              refine g_val rfl rfl rfl (y_move rfl) ?_
              refine g_val rfl rfl rfl (y_move rfl) ?_
              refine g_val rfl rfl rfl (y_slen rfl Tryd.underlying9) ?_
              refine g_val rfl rfl rfl (y_ieq rfl rfl) ?_
              refine g_nil (g_then ?_)
              first | refine g_casep 46 rfl (fun h6 => ?_) (fun h6 => ?_) | refine g_caseb 46 rfl (fun h6 => ?_) (fun h6 => ?_)
              · skip
                refine g_cond_t rfl (g_goto (g_then_goto ?_))
                exact g_jump (.inl ⟨(), by first | exact hc.symm.trans ((lin_92 s i _ (by omega) (by omega) (by omega)).trans (lin_e0 s (i + 1) _ (by omega))) | exact hR.symm.trans (lin_out s i0 (by omega)) | exact hR.symm.trans (lin_no s i0 (by omega) (by omega) (by simpa only [Bool.not_eq_true'] using h2))⟩) [] rfl (fun j hj => by cases hj) rfl (fun w h => h.sub (.cons _ .slnil))
              · skip
                refine g_cond_f rfl (g_skip (g_then (g_seq (g_ops ?_))))
                refine g_val rfl rfl rfl (y_move rfl) ?_
                refine g_val rfl rfl rfl (y_move rfl) ?_
                refine g_val rfl rfl rfl (y_move rfl) ?_
                refine g_val rfl rfl rfl (y_sat rfl rfl Tryd.underlying9 (by omega) (by omega)) ?_
                refine g_buildSlice (offs := [0]) rfl rfl Tryd.underlying23 rfl Tryd.zeroValue5 (by kernel_rfl) (fun b5 => ?_)
                refine g_appB (l' := [by8 s (i + 1)]) 1 0 rfl rfl rfl rfl Tryd.underlying23 (by kernel_rfl) rfl rfl rfl rfl (by first | omega | (simp; omega)) (fun v6 => ?_)
                simp only [List.set_cons_zero, List.set_cons_succ]
                refine g_val rfl rfl rfl (y_assign rfl) ?_
                refine g_nil (g_then (g_seq (g_ops ?_)))
                refine g_val rfl rfl rfl (y_move rfl) ?_
                refine g_val rfl rfl rfl (by first | exact y_addi rfl rfl (by first | omega | (simp only [size_mk, ByteArray.size_append, ByteArray.size_extract]; omega)) | exact y_iadd rfl rfl) ?_
                refine g_val rfl rfl rfl (y_assign rfl) ?_
                refine g_nil (g_then (g_seq (g_goto (g_then_goto ?_))))
                exact g_jump (.inr ⟨(_, _, _), by omega, by omega, by simp; omega, by first | exact (lin_c s i _ (by omega) (by omega) (by omega) (by omega)).symm.trans hc | exact (lin_e s (i + 1) _ (by omega) (by omega)).symm.trans ((lin_92 s i _ (by omega) (by omega) (by omega)).symm.trans hc)⟩) [0, 1, 7] rfl (fun j hj => by cases hj) rfl (fun w h => h.sub (.cons _ (.cons_cons _ .slnil)))
            · skip
              refine g_cond_f rfl (g_skip (g_then (g_seq (g_ops ?_))))
              refine g_val rfl rfl rfl (y_move rfl) ?_
              refine g_val rfl rfl rfl (y_move rfl) ?_
              refine g_val rfl rfl rfl (y_move rfl) ?_
              refine g_val rfl rfl rfl (y_sat rfl rfl Tryd.underlying9 (by omega) (by omega)) ?_
              refine g_buildSlice (offs := [0]) rfl rfl Tryd.underlying23 rfl Tryd.zeroValue5 (by kernel_rfl) (fun b7 => ?_)
              refine g_appB (l' := [by8 s i]) 1 0 rfl rfl rfl rfl Tryd.underlying23 (by kernel_rfl) rfl rfl rfl rfl (by first | omega | (simp; omega)) (fun v8 => ?_)
              simp only [List.set_cons_zero, List.set_cons_succ]
              refine g_val rfl rfl rfl (y_assign rfl) ?_
              refine g_nil (g_then (g_seq (g_ops ?_)))
              refine g_val rfl rfl rfl (y_move rfl) ?_
              refine g_val rfl rfl rfl (by first | exact y_addi rfl rfl (by first | omega | (simp only [size_mk, ByteArray.size_append, ByteArray.size_extract]; omega)) | exact y_iadd rfl rfl) ?_
              refine g_val rfl rfl rfl (y_assign rfl) ?_
              refine g_nil (g_then (g_seq (g_goto (g_then_goto ?_))))
              exact g_jump (.inr ⟨(_, _, _), by omega, by omega, by simp; omega, by first | exact (lin_c s i _ (by omega) (by omega) (by omega) (by omega)).symm.trans hc | exact (lin_e s (i + 1) _ (by omega) (by omega)).symm.trans ((lin_92 s i _ (by omega) (by omega) (by omega)).symm.trans hc)⟩) [0, 1, 7] rfl (fun j hj => by cases hj) rfl (fun w h => h.sub (.cons _ (.cons_cons _ .slnil)))
  · rintro (x | x)
    · refine ⟨_, rfl, ?_⟩
      dsimp only
      obtain ⟨_, hx⟩ := x
      refine g_seq (g_skip (g_then (g_seq (g_ops ?_))))
      refine g_val rfl rfl rfl (y_assign rfl) ?_
      refine g_val rfl rfl rfl (y_assign rfl) ?_
      refine g_val rfl rfl rfl (y_assign rfl) ?_
      refine g_nil (g_then (g_ret (g_jumps_ret ?_)))
      refine g_end3 Tryd.results15 rfl rfl rfl ?_
      exact fun w hS => ⟨ret_cut (by first | assumption | exact hc.symm.trans (lin_end s i _ (by omega)) | exact hc.symm.trans (lin_10 s i _ (by omega) (by omega) (by omega))), hS.below⟩
    · refine ⟨_, rfl, ?_⟩
      dsimp only
      obtain ⟨⟨i, v, acc⟩, hx⟩ := x
      dsimp only at hx ⊢
      obtain ⟨hi0, hi1, hl, hc⟩ := hx
      refine g_seq (g_skip (g_then (g_seq (g_seq (g_ops ?_)))))
      refine g_val rfl rfl rfl (y_move rfl) ?_
      refine g_val rfl rfl rfl (y_move rfl) ?_
      refine g_val rfl rfl rfl (y_slen rfl Tryd.underlying9) ?_
      refine g_val rfl rfl rfl (y_ieq rfl rfl) ?_
      refine g_val rfl rfl rfl (y_move rfl) ?_
      first | refine g_casep 26 rfl (fun h7 => ?_) (fun h7 => ?_) | refine g_caseb 26 rfl (fun h7 => ?_) (fun h7 => ?_)
      · skip
        refine g_not rfl rfl rfl ?_
        refine g_not rfl rfl rfl ?_
        refine g_not rfl rfl rfl ?_
        refine g_not rfl rfl rfl ?_
        refine g_val rfl rfl rfl (y_pick_t rfl rfl) ?_
        refine g_nil (g_then (g_cond_t rfl (g_seq (g_ops ?_))))
        refine g_val rfl rfl rfl (y_move rfl) ?_
        refine g_buildSlice (offs := [0]) rfl rfl Tryd.underlying23 rfl Tryd.zeroValue5 (by kernel_rfl) (fun b9 => ?_)
        refine g_appB (l' := [10]) 1 0 rfl rfl rfl rfl Tryd.underlying23 (by kernel_rfl) rfl rfl rfl rfl (by first | omega | (simp; omega)) (fun v10 => ?_)
        simp only [List.set_cons_zero, List.set_cons_succ]
        refine g_val rfl rfl rfl (y_bytesStr 1 rfl Tryd.underlying23 Tryd.underlying9 Tryd.underlying5 rfl) ?_
        refine g_val rfl rfl rfl (y_move rfl) ?_
        refine g_val rfl rfl rfl (y_assign rfl) ?_
        refine g_val rfl rfl rfl (y_assign rfl) ?_
        refine g_val rfl rfl rfl (y_assign rfl) ?_
        refine g_nil (g_then (g_ret (g_then_ret (g_jumps_ret ?_))))
        refine g_end3 Tryd.results15 rfl rfl rfl ?_
        exact fun w hS => ⟨ret_cut (by first | assumption | exact hc.symm.trans (lin_end s i _ (by omega)) | exact hc.symm.trans (lin_10 s i _ (by omega) (by omega) (by omega))), hS.below⟩
      · skip
        refine g_val rfl rfl rfl (y_move rfl) ?_
        refine g_val rfl rfl rfl (y_move rfl) ?_
        refine g_val rfl rfl rfl (y_sat rfl rfl Tryd.underlying9 (by omega) (by omega)) ?_
        refine g_val rfl rfl rfl (y_ieq rfl rfl) ?_
        refine g_val rfl rfl rfl (y_pick_f rfl rfl) ?_
        refine g_nil (g_then ?_)
        first | refine g_casep 31 rfl (fun h8 => ?_) (fun h8 => ?_) | refine g_caseb 31 rfl (fun h8 => ?_) (fun h8 => ?_)
        · skip
          refine g_cond_t rfl (g_seq (g_ops ?_))
          refine g_val rfl rfl rfl (y_move rfl) ?_
          refine g_buildSlice (offs := [0]) rfl rfl Tryd.underlying23 rfl Tryd.zeroValue5 (by kernel_rfl) (fun b11 => ?_)
          refine g_appB (l' := [10]) 1 0 rfl rfl rfl rfl Tryd.underlying23 (by kernel_rfl) rfl rfl rfl rfl (by first | omega | (simp; omega)) (fun v12 => ?_)
          simp only [List.set_cons_zero, List.set_cons_succ]
          refine g_val rfl rfl rfl (y_bytesStr 1 rfl Tryd.underlying23 Tryd.underlying9 Tryd.underlying5 rfl) ?_
          refine g_val rfl rfl rfl (y_move rfl) ?_
          refine g_val rfl rfl rfl (y_assign rfl) ?_
          refine g_val rfl rfl rfl (y_assign rfl) ?_
          refine g_val rfl rfl rfl (y_assign rfl) ?_
          refine g_nil (g_then (g_ret (g_then_ret (g_jumps_ret ?_))))
          refine g_end3 Tryd.results15 rfl rfl rfl ?_
          exact fun w hS => ⟨ret_cut (by first | assumption | exact hc.symm.trans (lin_end s i _ (by omega)) | exact hc.symm.trans (lin_10 s i _ (by omega) (by omega) (by omega))), hS.below⟩
        · skip
          refine g_cond_f rfl (g_skip (g_then (g_seq (g_seq (g_ops ?_)))))
          refine g_val rfl rfl rfl (y_move rfl) ?_
          refine g_val rfl rfl rfl (y_move rfl) ?_
          refine g_val rfl rfl rfl (y_sat rfl rfl Tryd.underlying9 (by omega) (by omega)) ?_
          refine g_val rfl rfl rfl (y_ieq rfl rfl) ?_
          refine g_nil (g_then ?_)
          first | refine g_casep 40 rfl (fun h9 => ?_) (fun h9 => ?_) | refine g_caseb 40 rfl (fun h9 => ?_) (fun h9 => ?_)
          · skip
            refine g_cond_t rfl (g_seq (g_ops ?_))
            refine g_val rfl rfl rfl (y_move rfl) ?_
            refine g_val rfl rfl rfl (by first | exact y_addi rfl rfl (by first | omega | (simp only [size_mk, ByteArray.size_append, ByteArray.size_extract]; omega)) | exact y_iadd rfl rfl) ?_
            refine g_val rfl rfl rfl (y_assign rfl) ?_
            refine g_nil (g_then (g_seq (g_ops ?_)))
            refine g_val rfl rfl rfl (y_move rfl) ?_
            refine g_val rfl rfl rfl (y_move rfl) ?_
            refine g_val rfl rfl rfl (y_slen rfl Tryd.underlying9) ?_
            refine g_val rfl rfl rfl (y_ieq rfl rfl) ?_
            refine g_nil (g_then ?_)
            first | refine g_casep 46 rfl (fun h10 => ?_) (fun h10 => ?_) | refine g_caseb 46 rfl (fun h10 => ?_) (fun h10 => ?_)
            · skip
              refine g_cond_t rfl (g_goto (g_then_goto ?_))
              exact g_jump (.inl ⟨(), by first | exact hc.symm.trans ((lin_92 s i _ (by omega) (by omega) (by omega)).trans (lin_e0 s (i + 1) _ (by omega))) | exact hR.symm.trans (lin_out s i0 (by omega)) | exact hR.symm.trans (lin_no s i0 (by omega) (by omega) (by simpa only [Bool.not_eq_true'] using h2))⟩) [] rfl (fun j hj => by cases hj; dsimp only; omega) rfl (fun w h => h.sub (.cons _ .slnil))
            · skip
              refine g_cond_f rfl (g_skip (g_then (g_seq (g_ops ?_))))
              refine g_val rfl rfl rfl (y_move rfl) ?_
              refine g_val rfl rfl rfl (y_move rfl) ?_
              refine g_val rfl rfl rfl (y_move rfl) ?_
              refine g_val rfl rfl rfl (y_sat rfl rfl Tryd.underlying9 (by omega) (by omega)) ?_
              refine g_buildSlice (offs := [0]) rfl rfl Tryd.underlying23 rfl Tryd.zeroValue5 (by kernel_rfl) (fun b13 => ?_)
              refine g_appB (l' := [by8 s (i + 1)]) 1 0 rfl rfl rfl rfl Tryd.underlying23 (by kernel_rfl) rfl rfl rfl rfl (by first | omega | (simp; omega)) (fun v14 => ?_)
              simp only [List.set_cons_zero, List.set_cons_succ]
              refine g_val rfl rfl rfl (y_assign rfl) ?_
              refine g_nil (g_then (g_seq (g_ops ?_)))
              refine g_val rfl rfl rfl (y_move rfl) ?_
              refine g_val rfl rfl rfl (by first | exact y_addi rfl rfl (by first | omega | (simp only [size_mk, ByteArray.size_append, ByteArray.size_extract]; omega)) | exact y_iadd rfl rfl) ?_
              refine g_val rfl rfl rfl (y_assign rfl) ?_
              refine g_nil (g_then (g_seq (g_goto (g_then_goto ?_))))
              exact g_jump (.inr ⟨(_, _, _), by omega, by omega, by simp; omega, by first | exact (lin_c s i _ (by omega) (by omega) (by omega) (by omega)).symm.trans hc | exact (lin_e s (i + 1) _ (by omega) (by omega)).symm.trans ((lin_92 s i _ (by omega) (by omega) (by omega)).symm.trans hc)⟩) [0, 1, 7] rfl (fun j hj => by cases hj; dsimp only; omega) rfl (fun w h => h.sub (.cons _ (.cons_cons _ .slnil)))
          · skip
            refine g_cond_f rfl (g_skip (g_then (g_seq (g_ops ?_))))
            refine g_val rfl rfl rfl (y_move rfl) ?_
            refine g_val rfl rfl rfl (y_move rfl) ?_
            refine g_val rfl rfl rfl (y_move rfl) ?_
            refine g_val rfl rfl rfl (y_sat rfl rfl Tryd.underlying9 (by omega) (by omega)) ?_
            refine g_buildSlice (offs := [0]) rfl rfl Tryd.underlying23 rfl Tryd.zeroValue5 (by kernel_rfl) (fun b15 => ?_)
            refine g_appB (l' := [by8 s i]) 1 0 rfl rfl rfl rfl Tryd.underlying23 (by kernel_rfl) rfl rfl rfl rfl (by first | omega | (simp; omega)) (fun v16 => ?_)
            simp only [List.set_cons_zero, List.set_cons_succ]
            refine g_val rfl rfl rfl (y_assign rfl) ?_
            refine g_nil (g_then (g_seq (g_ops ?_)))
            refine g_val rfl rfl rfl (y_move rfl) ?_
            refine g_val rfl rfl rfl (by first | exact y_addi rfl rfl (by first | omega | (simp only [size_mk, ByteArray.size_append, ByteArray.size_extract]; omega)) | exact y_iadd rfl rfl) ?_
            refine g_val rfl rfl rfl (y_assign rfl) ?_
            refine g_nil (g_then (g_seq (g_goto (g_then_goto ?_))))
            exact g_jump (.inr ⟨(_, _, _), by omega, by omega, by simp; omega, by first | exact (lin_c s i _ (by omega) (by omega) (by omega) (by omega)).symm.trans hc | exact (lin_e s (i + 1) _ (by omega) (by omega)).symm.trans ((lin_92 s i _ (by omega) (by omega) (by omega)).symm.trans hc)⟩) [0, 1, 7] rfl (fun j hj => by cases hj; dsimp only; omega) rfl (fun w h => h.sub (.cons _ (.cons_cons _ .slnil)))

theorem lin_esc (l r : List UInt8) (hr : r = [] ∨ ∃ r', r = 10 :: r') : ∀ acc, linM false (escL 92 l ++ r) acc = some (acc ++ l ++ [10], r) := by
  induction l with
  | nil =>
    intro acc
    rcases hr with rfl | ⟨r', rfl⟩ <;> simp [escL, linM]
  | cons c l ih =>
    intro acc
    have e1 : escL 92 (c :: l) = (if c = 92 ∨ c = 92 ∨ c = 10 then [92, c] else [c]) ++ escL 92 l := by simp [escL]
    rw [e1]
    by_cases hc : c = 92 ∨ c = 92 ∨ c = 10
    · rw [if_pos hc]
      simp only [List.cons_append, List.nil_append]
      rw [linM, if_neg (by decide), if_pos rfl, linM, ih]; simp
    · rw [if_neg hc]
      simp only [not_or] at hc
      simp only [List.cons_append, List.nil_append]
      rw [linM, if_neg hc.2.2, if_neg hc.1, ih]; simp
theorem blk_head (x : ByteArray) (l : List UInt8) (h : x.data.toList = 32 :: 92 :: 10 :: l) : linR x 0 = finR x (linM false l []) := by
  have hs : x.size = l.length + 3 := by rw [← dlen, h]; rfl
  have hb : blkR x 0 = 1 := by
    unfold blkR
    rw [if_pos ⟨by omega, by omega⟩, from_zero, h]
    simp [blkL]
  have hf : from_ x 1 = 92 :: 10 :: l := by unfold from_; rw [h]; rfl
  unfold linR
  rw [if_pos ⟨by omega, by omega⟩, hb, hf]
  rfl
theorem lines1 (l : List UInt8) : linR ((⟨#[32, 92, 10]⟩ : ByteArray) ++ (⟨(escL 92 l).toArray⟩ : ByteArray)) 0 = ((⟨(l ++ [10]).toArray⟩ : ByteArray), ((3 + (escL 92 l).length : Nat) : Int), (0 : Int)) := by
  have h := lin_esc l [] (.inl rfl) []
  rw [List.append_nil, List.nil_append] at h
  rw [blk_head _ (escL 92 l) (by rw [app_data, mk_data]; rfl), h, finR, ByteArray.size_append, size_mk]
  simp; rfl
theorem lines2 (l : List UInt8) (rest : ByteArray) : linR ((⟨#[32, 92, 10]⟩ : ByteArray) ++ (⟨(escL 92 l).toArray⟩ : ByteArray) ++ (⟨#[10]⟩ : ByteArray) ++ rest) 0 = ((⟨(l ++ [10]).toArray⟩ : ByteArray), ((3 + (escL 92 l).length : Nat) : Int), (0 : Int)) := by
  have h := lin_esc l (10 :: rest.data.toList) (.inr ⟨_, rfl⟩) []
  rw [List.nil_append] at h
  have e : ((⟨#[32, 92, 10]⟩ : ByteArray) ++ (⟨(escL 92 l).toArray⟩ : ByteArray) ++ (⟨#[10]⟩ : ByteArray) ++ rest).data.toList = 32 :: 92 :: 10 :: (escL 92 l ++ 10 :: rest.data.toList) := by
    rw [app_data, app_data, app_data, mk_data]; simp
  have e2 := congrArg List.length e
  rw [dlen] at e2
  rw [blk_head _ _ e, h, finR, e2]
  simp only [List.length_cons, List.length_append, dlen]
  congr 2; omega
theorem lines3 (s : ByteArray) (h : ¬ (1 < (s.size : Int) ∧ bt s 0 = 92 ∧ bt s 1 = 10)) (h' : ¬ (0 < (s.size : Int) ∧ (bt s 0 = 32 ∨ bt s 0 = 9))) : linR s 0 = ((⟨#[]⟩ : ByteArray), (0 : Int), (121 : Int)) := by
  have hb : blkR s 0 = 0 := by
    unfold blkR
    rw [if_pos ⟨by omega, by omega⟩]
    by_cases h0 : 0 < s.size
    · rw [from_at s 0 (by omega) (by omega), blkL, if_neg]
      · rfl
      · rw [← bt_32, ← bt_9]; omega
    · rw [from_end s 0 (by omega)]; rfl
  unfold linR
  rw [if_pos ⟨by omega, by omega⟩, hb]
  split
  · rename_i r q
    exfalso
    have hl := from_len s 0 (by omega) (by omega)
    rw [q] at hl
    simp only [List.length_cons] at hl
    rw [from_at s 0 (by omega) (by omega), from_at s (0 + 1) (by omega) (by omega)] at q
    simp only [List.cons.injEq] at q
    exact h ⟨by omega, (bt_92 s 0).2 q.1, (bt_10 s 1).2 q.2.1⟩
  · rfl

end Go.Proofs.YtjafkmaolpkbnaaDoor
