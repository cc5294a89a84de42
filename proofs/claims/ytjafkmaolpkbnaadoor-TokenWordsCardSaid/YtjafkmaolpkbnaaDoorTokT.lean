/- strings.Trim at blanks. -/
import Derived.Test.YtjafkmaolpkbnaaDoorTokL
namespace Go.Proofs.YtjafkmaolpkbnaaDoor
open Go Go.RowKit

def isBl (c : UInt8) : Bool := c == 32 || c == 9
theorem isBl_iff (c : UInt8) : isBl c = true ↔ c = 32 ∨ c = 9 := by simp [isBl]
def trL (x : List UInt8) : List UInt8 := x.dropWhile isBl
def trR : List UInt8 → List UInt8
  | [] => []
  | c :: x => if trR x = [] then (if isBl c then [] else [c]) else c :: trR x
theorem trR_snoc (x : List UInt8) (c : UInt8) : trR (x ++ [c]) = if isBl c then trR x else x ++ [c] := by
  induction x with
  | nil => simp [trR]
  | cons d x ih =>
    rw [List.cons_append, trR, ih]
    by_cases h : isBl c = true
    · rw [if_pos h, if_pos h, trR]
    · rw [if_neg h, if_neg h, if_neg (by simp)]
def tabL : List Value := (Lib.setCells [32, 9]).toList
theorem tabL_len : tabL.length = 256 := by unfold tabL; rw [Array.length_toList, Lib.setCells_size]
theorem tabL_arr : tabL.toArray = Lib.setCells [32, 9] := by unfold tabL; simp
theorem tabL_one : tabL.all (·.oneCell') = true := by
  have := Lib.setCells_one [32, 9]
  unfold tabL
  rw [Array.all_toList]; exact this
theorem tabL_at (c : UInt8) : (Lib.setCells [32, 9])[c.toNat]? = some (.bool (isBl c)) := by
  rw [Lib.setCells_at]
  have : ([32, 9] : List UInt8).contains c = isBl c := by
    unfold isBl; simp; rfl
  rw [this]
theorem zero44 (w : World) : (zeroValue 44).run Tryd.prog w = .ok (.agg (Array.replicate 256 (.bool false))) w :=
  by kernel_rfl
theorem cont_any (s : ByteArray) (i : Int) (b : Nat) (w : World) (h : w.heap[b]? = some (.cells tabL.toArray 44 (0, 0))) :
    Calls Tryd.prog 37 #[.pointer (some ⟨b, 0, none⟩), .int .u8 (bt s i)] w fun e w' => e = .returned (.bool (isBl (by8 s i))) ∧ Below w.heap.size w w' :=
  (Tryd.asciiSet_contains b (by8 s i) (isBl (by8 s i)) w (by rw [cell_of_row w b _ _ _ (0, 0) h, tabL_arr, tabL_at])).mono fun e w' ⟨he, hw⟩ => ⟨he, hw ▸ Below.refl _ _⟩
theorem mk_any (w : World) : Calls Tryd.prog 31 #[.string ⟨#[32, 9]⟩] w fun e w' => e = .returned (.tuple #[.agg tabL.toArray, .bool true]) ∧ Below w.heap.size w w' :=
  (Tryd.strings_makeASCIISet zero44 ⟨#[32, 9]⟩ w (by decide) (fun j b hb => by
    match j, hb with
    | 0, hb => simp at hb; rw [← hb]; decide
    | 1, hb => simp at hb; rw [← hb]; decide
    | j + 2, hb => simp at hb)).mono fun e w' ⟨he, hw⟩ => ⟨by rw [he, tabL_arr], by
      subst hw
      exact ⟨rfl, rfl, rfl, by simp, fun k hk => Below.heap_alloc _ _ _ hk⟩⟩
theorem ext_from0 (s : ByteArray) (i : Int) (h0 : 0 ≤ i) (h1 : i ≤ s.size) : (s.extract i.toNat s.size).data.toList = from_ s i := by
  rw [ByteArray.data_extract, Array.toList_extract, List.extract_eq_take_drop]
  unfold from_
  rw [List.take_of_length_le]
  rw [List.length_drop, dlen]; omega
theorem trL_cons (x : ByteArray) (h0 : 0 < (x.size : Int)) (h : isBl (by8 x 0) = true) : trL x.data.toList = trL (x.extract 1 x.size).data.toList := by
  have e := from_at x 0 (by omega) (by omega)
  rw [from_zero] at e
  have e2 := ext_from0 x 1 (by omega) (by omega)
  show _ = trL (x.extract (1 : Int).toNat x.size).data.toList
  rw [e2, e, trL, List.dropWhile_cons, if_pos h]; rfl
theorem trL_stop (x : ByteArray) (h : isBl (by8 x 0) = false) : trL x.data.toList = x.data.toList := by
  by_cases h0 : 0 < x.size
  · have e := from_at x 0 (by omega) (by omega)
    rw [from_zero] at e
    rw [e, trL, List.dropWhile_cons, if_neg (by simp [h])]
  · have : x.data.toList = [] := List.length_eq_zero_iff.1 (by rw [dlen]; omega)
    rw [this]; rfl
theorem trL_nil (x : ByteArray) (h0 : ¬ 0 < (x.size : Int)) : trL x.data.toList = x.data.toList := by
  have : x.data.toList = [] := List.length_eq_zero_iff.1 (by rw [dlen]; omega)
  rw [this]; rfl
theorem last_at (x : ByteArray) (h0 : 0 < (x.size : Int)) : x.data.toList = (x.extract 0 ((x.size : Int) - 1).toNat).data.toList ++ [by8 x ((x.size : Int) - 1)] := by
  have e := cat_ext (x.extract 0 ((x.size : Int) - 1).toNat) x ((x.size : Int) - 1) (by omega) (by omega)
  rw [← e, app_data]
  have h1 : ((x.size : Int) - 1 + 1).toNat = x.size := by omega
  have h2 : ((x.size : Int) - 1).toNat = x.size - 1 := by omega
  rw [h1, h2, ByteArray.data_extract, ByteArray.data_extract, Array.toList_extract, Array.toList_extract, List.extract_eq_take_drop, List.extract_eq_take_drop, List.drop_zero]
  have hl : x.data.toList.length = x.size := dlen x
  have h3 : List.take (x.size - (x.size - 1)) (List.drop (x.size - 1) x.data.toList) = List.drop (x.size - 1) x.data.toList := List.take_of_length_le (by rw [List.length_drop]; omega)
  rw [h3, Nat.sub_zero, List.take_append_drop]
theorem trR_cut (x : ByteArray) (h0 : 0 < (x.size : Int)) (h : isBl (by8 x ((x.size : Int) - 1)) = true) : trR x.data.toList = trR (x.extract 0 ((x.size : Int) - 1).toNat).data.toList := by
  conv => lhs; rw [last_at x h0]
  rw [trR_snoc, if_pos h]
theorem trR_stop (x : ByteArray) (h0 : 0 < (x.size : Int)) (h : isBl (by8 x ((x.size : Int) - 1)) = false) : trR x.data.toList = x.data.toList := by
  rw [last_at x h0, trR_snoc, if_neg (by simp [h])]
theorem trR_nil (x : ByteArray) (h0 : ¬ 0 < (x.size : Int)) : trR x.data.toList = x.data.toList := by
  have : x.data.toList = [] := List.length_eq_zero_iff.1 (by rw [dlen]; omega)
  rw [this]; rfl

theorem tl_any (s : ByteArray) (b : Nat) (hs : s.size ≤ 1073741824) (w : World) (hT : w.heap[b]? = some (.cells tabL.toArray 44 (0, 0))) :
    Calls Tryd.prog 32 #[.string s, .pointer (some ⟨b, 0, none⟩)] w fun e w' => e = .returned (.string ⟨(trL s.data.toList).toArray⟩) ∧ Below w.heap.size w w' := by
  have hb : b < w.heap.size := lt_of_some hT
  refine fn_intro Tryd.func32 rfl Tryd.ntmps32 rfl rfl ?_
  refine g_seq (g_ops ?_)
  refine g_val rfl rfl rfl (y_assign rfl) ?_
  refine g_nil (g_then (g_seq (g_block ?_)))
  refine g_loop (α := {t : ByteArray // t.size ≤ s.size ∧ trL t.data.toList = trL s.data.toList}) (fun x => [(0, .string x.1), (1, .pointer (some ⟨b, 0, none⟩))]) (fun x => St w [] []) (fun x => x.1.size) ⟨s, by omega, rfl⟩ [0, 1] rfl (fun w h => h.sub .slnil) ?_
  rintro ⟨t, ht0, ht⟩
  dsimp only
  refine g_seq (g_seq (g_ops ?_))
  refine g_val rfl rfl rfl (y_move rfl) ?_
  refine g_val rfl rfl rfl (y_slen rfl Tryd.underlying9) ?_
  refine g_val rfl rfl rfl (y_igt rfl rfl) ?_
  refine g_nil (g_then ?_)
  first | refine g_casep 7 rfl (fun h1 => ?_) (fun h1 => ?_) | refine g_caseb 7 rfl (fun h1 => ?_) (fun h1 => ?_)
  · skip
    refine g_cond_t rfl (g_skip (g_then (g_block (g_seq (g_seq (g_ops ?_))))))
    refine g_val rfl rfl rfl (y_move rfl) ?_
    refine g_val rfl rfl rfl (y_move rfl) ?_
    refine g_val rfl rfl rfl (y_sat rfl rfl Tryd.underlying9 (by omega) (by omega)) ?_
    refine g_call1 rfl rfl rfl Tryd.call37 (fun w hS => cont_any _ _ b w (by rw [hS.keep b hb (by simp)]; exact hT)) ?_
    refine g_val rfl rfl rfl ((by first | exact y_notp rfl | exact y_not rfl)) ?_
    refine g_nil (g_then ?_)
    first | refine g_casep 12 rfl (fun h2 => ?_) (fun h2 => ?_) | refine g_caseb 12 rfl (fun h2 => ?_) (fun h2 => ?_)
    · skip
      refine g_cond_t rfl (g_exit (g_then_exit (g_in_exit_ne rfl (g_then_exit (g_in_exit (g_then (g_seq (g_ops ?_))))))))
      refine g_val rfl rfl rfl (y_move rfl) ?_
      refine g_val rfl rfl rfl (y_assign rfl) ?_
      refine g_nil (g_then (g_ret ?_))
      refine g_end1 Tryd.results32 rfl ?_
      exact fun w hS => ⟨by rw [← ht]; first | rw [trL_nil t (by omega)] | rw [trL_stop t (by simp_all)], hS.below⟩
    · skip
      refine g_cond_f rfl (g_skip (g_then (g_ops ?_)))
      refine g_val rfl rfl rfl (y_move rfl) ?_
      refine g_val rfl rfl rfl (y_sfr rfl rfl Tryd.underlying9 (by omega) (by omega)) ?_
      refine g_val rfl rfl rfl (y_assign rfl) ?_
      refine g_nil (g_in_normal ?_)
      exact g_again ⟨t.extract (1 : Int).toNat t.size, by rw [ByteArray.size_extract]; omega, by first | exact (trL_cons t (by omega) (by simp_all)).symm.trans ht⟩ [0, 1] (by dsimp only; rw [ByteArray.size_extract]; omega) rfl (fun w h => h.sub .slnil)
  · skip
    refine g_cond_f rfl (g_exit (g_then_exit (g_then_exit (g_in_exit (g_then (g_seq (g_ops ?_)))))))
    refine g_val rfl rfl rfl (y_move rfl) ?_
    refine g_val rfl rfl rfl (y_assign rfl) ?_
    refine g_nil (g_then (g_ret ?_))
    refine g_end1 Tryd.results32 rfl ?_
    exact fun w hS => ⟨by rw [← ht]; first | rw [trL_nil t (by omega)] | rw [trL_stop t (by simp_all)], hS.below⟩

theorem tr_any (s : ByteArray) (b : Nat) (hs : s.size ≤ 1073741824) (w : World) (hT : w.heap[b]? = some (.cells tabL.toArray 44 (0, 0))) :
    Calls Tryd.prog 33 #[.string s, .pointer (some ⟨b, 0, none⟩)] w fun e w' => e = .returned (.string ⟨(trR s.data.toList).toArray⟩) ∧ Below w.heap.size w w' := by
  have hb : b < w.heap.size := lt_of_some hT
  refine fn_intro Tryd.func33 rfl Tryd.ntmps33 rfl rfl ?_
  refine g_seq (g_ops ?_)
  refine g_val rfl rfl rfl (y_assign rfl) ?_
  refine g_nil (g_then (g_seq (g_block ?_)))
  refine g_loop (α := {t : ByteArray // t.size ≤ s.size ∧ trR t.data.toList = trR s.data.toList}) (fun x => [(0, .string x.1), (1, .pointer (some ⟨b, 0, none⟩))]) (fun x => St w [] []) (fun x => x.1.size) ⟨s, by omega, rfl⟩ [0, 1] rfl (fun w h => h.sub .slnil) ?_
  rintro ⟨t, ht0, ht⟩
  dsimp only
  refine g_seq (g_seq (g_ops ?_))
  refine g_val rfl rfl rfl (y_move rfl) ?_
  refine g_val rfl rfl rfl (y_slen rfl Tryd.underlying9) ?_
  refine g_val rfl rfl rfl (y_igt rfl rfl) ?_
  refine g_nil (g_then ?_)
  first | refine g_casep 7 rfl (fun h1 => ?_) (fun h1 => ?_) | refine g_caseb 7 rfl (fun h1 => ?_) (fun h1 => ?_)
  · skip
    refine g_cond_t rfl (g_skip (g_then (g_block (g_seq (g_seq (g_ops ?_))))))
    refine g_val rfl rfl rfl (y_move rfl) ?_
    refine g_val rfl rfl rfl (y_move rfl) ?_
    refine g_val rfl rfl rfl (y_move rfl) ?_
    refine g_val rfl rfl rfl (y_slen rfl Tryd.underlying9) ?_
    refine g_val rfl rfl rfl (by first | exact y_subi rfl rfl (by first | omega | (simp only [size_mk, ByteArray.size_append, ByteArray.size_extract]; omega)) | exact y_isub rfl rfl) ?_
    refine g_val rfl rfl rfl (y_sat rfl rfl Tryd.underlying9 (by omega) (by omega)) ?_
    refine g_call1 rfl rfl rfl Tryd.call37 (fun w hS => cont_any _ _ b w (by rw [hS.keep b hb (by simp)]; exact hT)) ?_
    refine g_val rfl rfl rfl ((by first | exact y_notp rfl | exact y_not rfl)) ?_
    refine g_nil (g_then ?_)
    first | refine g_casep 15 rfl (fun h2 => ?_) (fun h2 => ?_) | refine g_caseb 15 rfl (fun h2 => ?_) (fun h2 => ?_)
    · skip
      refine g_cond_t rfl (g_exit (g_then_exit (g_in_exit_ne rfl (g_then_exit (g_in_exit (g_then (g_seq (g_ops ?_))))))))
      refine g_val rfl rfl rfl (y_move rfl) ?_
      refine g_val rfl rfl rfl (y_assign rfl) ?_
      refine g_nil (g_then (g_ret ?_))
      refine g_end1 Tryd.results33 rfl ?_
      exact fun w hS => ⟨by rw [← ht]; first | rw [trR_nil t (by omega)] | rw [trR_stop t (by omega) (by simp_all)], hS.below⟩
    · skip
      refine g_cond_f rfl (g_skip (g_then (g_ops ?_)))
      refine g_val rfl rfl rfl (y_move rfl) ?_
      refine g_val rfl rfl rfl (y_move rfl) ?_
      refine g_val rfl rfl rfl (y_slen rfl Tryd.underlying9) ?_
      refine g_val rfl rfl rfl (by first | exact y_subi rfl rfl (by first | omega | (simp only [size_mk, ByteArray.size_append, ByteArray.size_extract]; omega)) | exact y_isub rfl rfl) ?_
      refine g_val rfl rfl rfl (y_stoI rfl rfl Tryd.underlying9 (by omega) (by omega)) ?_
      refine g_val rfl rfl rfl (y_assign rfl) ?_
      refine g_nil (g_in_normal ?_)
      exact g_again ⟨t.extract 0 ((t.size : Int) - 1).toNat, by rw [ByteArray.size_extract]; omega, by exact (trR_cut t (by omega) (by simp_all)).symm.trans ht⟩ [0, 1] (by dsimp only; rw [ByteArray.size_extract]; omega) rfl (fun w h => h.sub .slnil)
  · skip
    refine g_cond_f rfl (g_exit (g_then_exit (g_then_exit (g_in_exit (g_then (g_seq (g_ops ?_)))))))
    refine g_val rfl rfl rfl (y_move rfl) ?_
    refine g_val rfl rfl rfl (y_assign rfl) ?_
    refine g_nil (g_then (g_ret ?_))
    refine g_end1 Tryd.results33 rfl ?_
    exact fun w hS => ⟨by rw [← ht]; first | rw [trR_nil t (by omega)] | rw [trR_stop t (by omega) (by simp_all)], hS.below⟩

theorem trR_len (x : List UInt8) : (trR x).length ≤ x.length := by
  induction x with
  | nil => simp [trR]
  | cons c x ih => unfold trR; split <;> (try split) <;> simp; omega

theorem trim_any (s : ByteArray) (hs : s.size ≤ 1073741824) (w : World) :
    Calls Tryd.prog 26 #[.string s, .string ⟨#[32, 9]⟩] w fun e w' => e = .returned (.string ⟨(trL (trR s.data.toList)).toArray⟩) ∧ Below w.heap.size w w' := by
  refine fn_intro Tryd.func26 rfl Tryd.ntmps26 rfl rfl ?_
  refine g_seq (g_ops ?_)
  refine g_val rfl rfl rfl (y_assign rfl) ?_
  refine g_nil (g_then (g_seq (g_seq (g_ops ?_))))
  refine g_val rfl rfl rfl (y_move rfl) ?_
  refine g_val rfl rfl rfl (y_seq rfl rfl) ?_
  refine g_val rfl rfl rfl (y_move rfl) ?_
  first | refine g_casep 9 rfl (fun h1 => ?_) (fun h1 => ?_) | refine g_caseb 9 rfl (fun h1 => ?_) (fun h1 => ?_)
  · skip
    refine g_not rfl rfl rfl ?_
    refine g_not rfl rfl rfl ?_
    refine g_val rfl rfl rfl (y_pick_t rfl rfl) ?_
    refine g_nil (g_then (g_cond_t rfl (g_seq (g_ops ?_))))
    refine g_val rfl rfl rfl (y_move rfl) ?_
    refine g_val rfl rfl rfl (y_assign rfl) ?_
    refine g_nil (g_then (g_ret (g_then_ret ?_)))
    refine g_end1 Tryd.results26 rfl ?_
    exact fun w hS => ⟨by first | rfl | (rw [‹s = _›]; rfl), hS.below⟩
  · skip
    refine g_val rfl rfl rfl (y_move rfl) ?_
    refine g_val rfl rfl rfl (y_seq rfl rfl) ?_
    refine g_val rfl rfl rfl (y_pick_f rfl rfl) ?_
    refine g_nil (g_then ?_)
    first | refine g_casep 12 rfl (fun h2 => ?_) (fun h2 => ?_) | refine g_caseb 12 rfl (fun h2 => ?_) (fun h2 => ?_)
    · skip
      exact absurd h2 (by decide)
    · skip
      refine g_cond_f rfl (g_skip (g_then (g_seq (g_seq (g_ops ?_)))))
      refine g_val rfl rfl rfl (y_move rfl) ?_
      refine g_val rfl rfl rfl (y_slen rfl Tryd.underlying9) ?_
      refine g_val rfl rfl rfl (y_ieq rfl rfl) ?_
      refine g_val rfl rfl rfl (y_move rfl) ?_
      first | refine g_casep 17 rfl (fun h3 => ?_) (fun h3 => ?_) | refine g_caseb 17 rfl (fun h3 => ?_) (fun h3 => ?_)
      · skip
        exact absurd h3 (by decide)
      · skip
        refine g_not rfl rfl rfl ?_
        refine g_not rfl rfl rfl ?_
        refine g_not rfl rfl rfl ?_
        refine g_val rfl rfl rfl (y_pick_f rfl rfl) ?_
        refine g_nil (g_then (g_cond_f rfl (g_skip (g_then (g_seq (g_seq (g_ops ?_)))))))
        refine g_val rfl rfl rfl (y_move rfl) ?_
        refine g_call1 rfl rfl rfl Tryd.call31 (fun w hS => mk_any w) ?_
        refine g_val rfl rfl rfl (y_move rfl) ?_
        refine g_val rfl rfl rfl (y_extract rfl rfl) ?_
        refine g_val rfl rfl rfl (y_extract rfl rfl) ?_
        refine g_alloc (cs := List.replicate 256 (.bool false)) rfl rfl zero44 (by show Array.replicate 256 _ = _; rw [List.toArray_replicate]) (fun b1 => ?_)
        refine g_stN 0 rfl rfl rfl (by kernel_rfl) tabL_one rfl List.length_replicate tabL_len ?_
        simp only [List.set_cons_zero]
        refine g_val rfl rfl rfl (y_assign rfl) ?_
        refine g_nil (g_then (g_seq (g_ops ?_)))
        refine g_val rfl rfl rfl (y_move rfl) ?_
        refine g_nil (g_then ?_)
        first | refine g_casep 34 rfl (fun h4 => ?_) (fun h4 => ?_) | refine g_caseb 34 rfl (fun h4 => ?_) (fun h4 => ?_)
        · skip
          refine g_cond_t rfl (g_seq (g_ops ?_))
          refine g_val rfl rfl rfl (y_move rfl) ?_
          refine g_call1 rfl rfl rfl Tryd.call33 (fun w hS => tr_any s b1 (by omega) w (hS.cells (i := 0) rfl)) ?_
          refine g_call1 rfl rfl rfl Tryd.call32 (fun w hS => tl_any _ b1 (by rw [size_mk]; have := trR_len s.data.toList; rw [dlen] at this; omega) w (hS.cells (i := 0) rfl)) ?_
          refine g_val rfl rfl rfl (y_assign rfl) ?_
          refine g_nil (g_then (g_ret (g_then_ret ?_)))
          refine g_end1 Tryd.results26 rfl ?_
          exact fun w hS => ⟨by first | rfl | (rw [‹s = _›]; rfl), hS.below⟩
        · skip
          cases h4

end Go.Proofs.YtjafkmaolpkbnaaDoor
