/- Compare, texts, alive; PlaceAt, PlaceMoves, PlaceOn. -/
import Derived.Test.YthikabfmgmbbcaaDoorPly
import Derived.Test.YthikabfmgmbbcaaDoorN
namespace Go.Proofs.YthikabfmgmbbcaaDoor
open Go Go.RowKit


theorem rd_two (w : World) (b : Nat) (p q : Int) (h : w.heap[b]? = some (.cells #[.int .i64 p, .int .i64 q] 3 (0, 0))) : RdSl w (some ⟨b, 0, none⟩) 2 1 (fun i _ => .int .i64 (if i = 0 then p else q)) := by
  refine ⟨fun _ => rfl, fun _ => lt_of_some h, fun i j hi hj => ?_⟩
  have hj0 : j = 0 := by omega
  subst hj0
  rcases (by omega : i = 0 ∨ i = 1) with rfl | rfl
  · exact cell_of_row w b _ _ _ (0, 0) h
  · exact cell_of_row w b _ _ _ (0, 0) h
theorem flt_2m : flt (fl 2) 4845873199050653696 = true := by decide +kernel
theorem flt_self (u : Nat) (h : feq u u = true) : flt u u = false ∧ fgt u u = false := by
  unfold feq at h; unfold flt fgt
  have := of_decide_eq_true (p := Ieee.double.order u u = some .eq) (by simpa using h)
  rw [this]; exact ⟨rfl, rfl⟩
theorem ord_self (u : Nat) : ordI u u = 0 := by
  unfold ordI
  cases h : feq u u
  · simp
  · have := flt_self u h; simp [this]
theorem cmp_self (u v : Nat) : cmpI u v u v = 0 := by unfold cmpI; rw [ord_self, ord_self]; simp
theorem itoa2_any (w : World) : Calls Tryd.prog 28 #[.int .i64 2] w fun e w' => e = .returned (.string ⟨#[50]⟩) ∧ Below w.heap.size w w' :=
  (Tryd.strconv_Itoa_small 2 (by decide) w).mono fun e w' ⟨he, hw⟩ => ⟨he.trans (by rw [show (Lib.decDigits 2).toArray = #[50] by kernel_rfl]), hw ▸ Below.refl _ _⟩
theorem at_step (s : ByteArray) (n : Int) (h0 : 0 ≤ n) (h1 : n < s.size) : 1 ≤ (atR s n).1 ∧ 1 ≤ (atR s n).2.1 ∧ (atR s n).2.2 = 0 ∧ (atR s (n + 1)).2.2 = 0 ∧ (bt s n = 10 → (atR s (n + 1)).1 = (atR s n).1 + 1 ∧ (atR s (n + 1)).2.1 = 1) ∧ (¬ bt s n = 10 → (atR s (n + 1)).1 = (atR s n).1 ∧ (atR s (n + 1)).2.1 = (atR s n).2.1 + 1) := by
  rw [at_in s n ⟨h0, by omega⟩, at_in s (n + 1) ⟨by omega, by omega⟩]
  have := lc_bd (pre s n)
  unfold plc
  refine ⟨by dsimp only; omega, by dsimp only; omega, rfl, rfl, fun h => ?_, fun h => ?_⟩
  · rw [lc_10 s n h0 h1 h]; exact ⟨rfl, rfl⟩
  · rw [lc_n s n h0 h1 h]; exact ⟨rfl, rfl⟩
theorem lc_app (x y : List UInt8) : lcL (x ++ y) = if (lcL y).1 = 0 then ((lcL x).1, (lcL x).2 + (lcL y).2) else ((lcL x).1 + (lcL y).1, (lcL y).2) := by
  suffices h : ∀ n, ∀ y : List UInt8, y.length = n → lcL (x ++ y) = if (lcL y).1 = 0 then ((lcL x).1, (lcL x).2 + (lcL y).2) else ((lcL x).1 + (lcL y).1, (lcL y).2) from h _ y rfl
  intro n
  induction n with
  | zero =>
    intro y hy
    have : y = [] := List.length_eq_zero_iff.1 hy
    subst this
    rw [List.append_nil, if_pos (by rfl)]
    refine Prod.ext rfl ?_
    show (lcL x).2 = (lcL x).2 + 0
    omega
  | succ n ih =>
    intro y hy
    have hne : y ≠ [] := by intro q; rw [q] at hy; simp at hy
    have e := List.dropLast_concat_getLast hne
    generalize y.getLast hne = c at e
    have hl : y.dropLast.length = n := by rw [List.length_dropLast]; omega
    generalize y.dropLast = z at e hl
    rw [← e, ← List.append_assoc, lc_snoc, lc_snoc, ih z hl]
    have hb := lc_bd z
    by_cases hc : c = 10
    · have hn : ¬ (((lcL z).1 + 1, (0 : Int)).1 = 0) := by show ¬ ((lcL z).1 + 1 = 0); omega
      rw [if_pos hc, if_pos hc, if_neg hn]
      refine Prod.ext ?_ rfl
      split <;> dsimp only <;> omega
    · rw [if_neg hc, if_neg hc]
      dsimp only
      split
      · refine Prod.ext rfl ?_; dsimp only; omega
      · rfl
theorem mv_app (x y : List UInt8) : mvP (plc x).1 (plc x).2 y = plc (x ++ y) := by
  unfold plc mvP
  rw [lc_app]
  split <;> (refine Prod.ext ?_ ?_ <;> dsimp only <;> omega)
theorem plc_bd (x : List UInt8) (h : x.length ≤ 1073741824) : 0 ≤ (plc x).1 ∧ (plc x).1 ≤ 1073741825 ∧ 0 ≤ (plc x).2 ∧ (plc x).2 ≤ 1073741825 := by
  have := lc_bd x
  unfold plc; dsimp only; omega
theorem app_data (a b : ByteArray) : (a ++ b).data.toList = a.data.toList ++ b.data.toList := by rw [ByteArray.data_append, Array.toList_append]
theorem at_all (s : ByteArray) (n : Int) (h : n = s.size) : atR s n = ((plc s.data.toList).1, (plc s.data.toList).2, 0) := by rw [at_in s n ⟨by omega, by omega⟩, pre_all s n h]

theorem or_any (b : Nat) (p q : Int) (w : World) (hT : w.heap[b]? = some (.cells #[.int .i64 p, .int .i64 q] 3 (0, 0))) :
    Calls Tryd.prog 22 #[.slice (some ⟨b, 0, none⟩) 2 2] w fun e w' => e = .returned (.int .i64 (if p ≠ 0 then p else q)) ∧ Below w.heap.size w w' := by
  refine fn_intro Tryd.func22 rfl Tryd.ntmps22 rfl rfl ?_
  refine g_seq (g_ops ?_)
  refine g_val rfl rfl rfl (y_assign rfl) ?_
  refine g_nil (g_then (g_seq (g_ops ?_)))
  refine g_val rfl rfl rfl (y_assign rfl) ?_
  refine g_nil (g_then (g_seq (g_seq (g_ops ?_))))
  refine g_val rfl rfl rfl (y_move rfl) ?_
  refine g_val rfl rfl rfl (y_llen rfl Tryd.underlying48) ?_
  refine g_val rfl rfl rfl (y_move rfl) ?_
  refine g_nil (g_then (g_block ?_))
  refine g_loop (α := {x : Int // 0 ≤ x ∧ x ≤ 2 ∧ (1 ≤ x → p = 0) ∧ (2 ≤ x → q = 0)}) (fun x => [(6, .slice (some ⟨b, 0, none⟩) 2 2), (3, .int .i64 0), (7, .int .i64 2), (8, .int .i64 x.1)]) (fun x => St w [] []) (fun x => 2 - x.1.toNat) ⟨0, by omega, by omega, fun h => by omega, fun h => by omega⟩ [6, 3, 7, 8] rfl (fun w h => h.sub .slnil) ?_
  rintro ⟨i, hx⟩
  dsimp only
  obtain ⟨hi0, hi1, hp, hq⟩ := hx
  refine g_seq (g_ops ?_)
  refine g_val rfl rfl rfl (y_ilt rfl rfl) ?_
  refine g_nil (g_then (g_seq ?_))
  first | refine g_casep 9 rfl (fun h1 => ?_) (fun h1 => ?_) | refine g_caseb 9 rfl (fun h1 => ?_) (fun h1 => ?_)
  · skip
    refine g_cond_t rfl (g_skip (g_then (g_seq (g_block (g_seq (g_ops ?_))))))
    refine g_val rfl rfl rfl (y_rdAddr (rd_two _ b p q hT) rfl rfl Tryd.underlying48 Tryd.sizeOf3 (by omega) (by omega)) ?_
    refine g_val rfl rfl rfl (y_rdLd (rd_two _ b p q hT) rfl Tryd.isAgg3 (by omega) (by omega) (by decide)) ?_
    refine g_val rfl rfl rfl (y_assign rfl) ?_
    refine g_nil (g_then (g_seq (g_ops ?_)))
    refine g_val rfl rfl rfl (y_move rfl) ?_
    refine g_val rfl rfl rfl (y_move rfl) ?_
    refine g_val rfl rfl rfl (y_ine rfl rfl) ?_
    refine g_nil (g_then ?_)
    first | refine g_casep 14 rfl (fun h2 => ?_) (fun h2 => ?_) | refine g_caseb 14 rfl (fun h2 => ?_) (fun h2 => ?_)
    · skip
      refine g_cond_t rfl (g_seq (g_ops ?_))
      refine g_val rfl rfl rfl (y_move rfl) ?_
      refine g_val rfl rfl rfl (y_assign rfl) ?_
      refine g_nil (g_then (g_ret (g_in_ret (g_then_ret (g_then_ret (g_in_ret (g_then_ret ?_)))))))
      refine g_end1 Tryd.results22 rfl ?_
      exact fun w hS => ⟨ret_int (by by_cases q0 : i.toNat = 0 <;> by_cases q1 : p = 0 <;> simp_all <;> omega), hS.below⟩
    · skip
      refine g_cond_f rfl (g_skip (g_in_normal (g_then (g_ops ?_))))
      refine g_val rfl rfl rfl (by first | exact y_addi rfl rfl (by first | omega | (simp only [size_mk, ByteArray.size_append, ByteArray.size_extract]; omega)) | exact y_iadd rfl rfl) ?_
      refine g_val rfl rfl rfl (y_move rfl) ?_
      refine g_nil ?_
      exact g_again ⟨i + 1, by omega, by omega, fun h => if q0 : i.toNat = 0 then by simp_all else hp (by omega), fun h => by have q0 : ¬ i.toNat = 0 := (by omega); simp_all⟩ [6, 3, 7, 8] (by dsimp only; omega) rfl (fun w h => h.sub .slnil)
  · skip
    refine g_cond_f rfl (g_exit (g_then_exit (g_then_exit (g_in_exit (g_then (g_seq (g_ops ?_)))))))
    refine g_val rfl rfl rfl (y_move rfl) ?_
    refine g_val rfl rfl rfl (y_assign rfl) ?_
    refine g_nil (g_then (g_ret ?_))
    refine g_end1 Tryd.results22 rfl ?_
    exact fun w hS => ⟨ret_int (by by_cases q0 : i.toNat = 0 <;> by_cases q1 : p = 0 <;> simp_all <;> omega), hS.below⟩

theorem compare_any (u v u' v' : Nat) (w : World) :
    Calls Tryd.prog 17 #[.complex .f64 u v, .complex .f64 u' v'] w fun e w' => e = .returned (.int .i64 (cmpI u v u' v')) ∧ Below w.heap.size w w' := by
  refine fn_intro Tryd.func17 rfl Tryd.ntmps17 rfl rfl ?_
  refine g_seq (g_ops ?_)
  refine g_val rfl rfl rfl (y_assign rfl) ?_
  refine g_nil (g_then (g_seq (g_ops ?_)))
  refine g_val rfl rfl rfl (y_move rfl) ?_
  refine g_val rfl rfl rfl (y_real rfl) ?_
  refine g_val rfl rfl rfl (y_move rfl) ?_
  refine g_val rfl rfl rfl (y_real rfl) ?_
  refine g_call1 rfl rfl rfl Tryd.call23 (fun w hS => cmpf_any _ _ w) ?_
  refine g_val rfl rfl rfl (y_move rfl) ?_
  refine g_val rfl rfl rfl (y_imag rfl) ?_
  refine g_val rfl rfl rfl (y_move rfl) ?_
  refine g_val rfl rfl rfl (y_imag rfl) ?_
  refine g_call1 rfl rfl rfl Tryd.call23 (fun w hS => cmpf_any _ _ w) ?_
  refine g_buildSlice (offs := [0, 1]) rfl rfl Tryd.underlying48 rfl Tryd.zeroValue3 (by kernel_rfl) (fun b1 => ?_)
  refine g_call1 rfl rfl rfl Tryd.call22 (fun w hS => or_any b1 (ordI u u') (ordI v v') w (hS.cells (i := 0) rfl)) ?_
  refine g_val rfl rfl rfl (y_assign rfl) ?_
  refine g_nil (g_then (g_ret ?_))
  refine g_end1 Tryd.results17 rfl ?_
  exact fun w hS => ⟨rfl, hS.below⟩

theorem fig2_any  (w : World) :
    Calls Tryd.prog 25 #[.float .f64 (fl 2)] w fun e w' => e = .returned (.string ⟨#[50]⟩) ∧ Below w.heap.size w w' := by
  refine fn_intro Tryd.func25 rfl Tryd.ntmps25 rfl rfl ?_
  refine g_seq (g_ops ?_)
  refine g_val rfl rfl rfl (y_assign rfl) ?_
  refine g_nil (g_then (g_seq (g_seq (g_ops ?_))))
  refine g_val rfl rfl rfl (y_move rfl) ?_
  refine g_val rfl rfl rfl ((by first | exact y_fgeI rfl (fl_c fl_0) (by omega) (by omega) | exact y_fge rfl rfl)) ?_
  refine g_val rfl rfl rfl (y_move rfl) ?_
  first | refine g_casep 5 rfl (fun h1 => ?_) (fun h1 => ?_) | refine g_caseb 5 rfl (fun h1 => ?_) (fun h1 => ?_)
  · skip
    refine g_val rfl rfl rfl (y_move rfl) ?_
    refine g_val rfl rfl rfl ((by first | exact y_fleI rfl (fl_c fl_m) (by omega) (by omega) | exact y_fle rfl rfl)) ?_
    refine g_val rfl rfl rfl (y_pick_t rfl rfl) ?_
    refine g_val rfl rfl rfl ((by first | exact y_notp rfl | exact y_not rfl)) ?_
    refine g_val rfl rfl rfl (y_move rfl) ?_
    first | refine g_casep 10 rfl (fun h2 => ?_) (fun h2 => ?_) | refine g_caseb 10 rfl (fun h2 => ?_) (fun h2 => ?_)
    · skip
      refine g_not rfl rfl rfl ?_
      refine g_not rfl rfl rfl ?_
      refine g_not rfl rfl rfl ?_
      refine g_not rfl rfl rfl ?_
      refine g_not rfl rfl rfl ?_
      refine g_val rfl rfl rfl (y_pick_t rfl rfl) ?_
      refine g_nil (g_then (g_cond_t rfl (g_seq (g_ops ?_))))
      refine g_val rfl rfl rfl (y_assign rfl) ?_
      refine g_nil (g_then (g_ret (g_then_ret ?_)))
      refine g_end1 Tryd.results25 rfl ?_
      first | exact fun w hS => ⟨rfl, hS.below⟩ | (exfalso; omega) | exact absurd h2 (by rw [flt_2m]; simp)
    · skip
      refine g_val rfl rfl rfl (y_move rfl) ?_
      refine g_val rfl rfl rfl (y_fromF rfl Tryd.underlying29 Tryd.underlying3 (by omega) (by omega)) ?_
      refine g_val rfl rfl rfl (y_toF rfl Tryd.underlying3 Tryd.underlying29) ?_
      refine g_val rfl rfl rfl (y_move rfl) ?_
      refine g_val rfl rfl rfl ((by first | exact y_fneI rfl rfl (by omega) (by omega) | exact y_fne rfl rfl)) ?_
      refine g_val rfl rfl rfl (y_pick_f rfl rfl) ?_
      refine g_nil (g_then ?_)
      first | refine g_casep 16 rfl (fun h3 => ?_) (fun h3 => ?_) | refine g_caseb 16 rfl (fun h3 => ?_) (fun h3 => ?_)
      · skip
        refine g_cond_t rfl (g_seq (g_ops ?_))
        refine g_val rfl rfl rfl (y_assign rfl) ?_
        refine g_nil (g_then (g_ret (g_then_ret ?_)))
        refine g_end1 Tryd.results25 rfl ?_
        first | exact fun w hS => ⟨rfl, hS.below⟩ | (exfalso; omega) | exact absurd h2 (by rw [flt_2m]; simp)
      · skip
        refine g_cond_f rfl (g_skip (g_then (g_seq (g_ops ?_))))
        refine g_val rfl rfl rfl (y_move rfl) ?_
        refine g_val rfl rfl rfl (y_fromF rfl Tryd.underlying29 Tryd.underlying3 (by omega) (by omega)) ?_
        refine g_call1 rfl rfl rfl Tryd.call28 (fun w hS => itoa2_any w) ?_
        refine g_val rfl rfl rfl (y_assign rfl) ?_
        refine g_nil (g_then (g_ret ?_))
        refine g_end1 Tryd.results25 rfl ?_
        first | exact fun w hS => ⟨rfl, hS.below⟩ | (exfalso; omega) | exact absurd h2 (by rw [flt_2m]; simp)
  · skip
    refine g_not rfl rfl rfl ?_
    refine g_not rfl rfl rfl ?_
    refine g_val rfl rfl rfl (y_pick_f rfl rfl) ?_
    refine g_val rfl rfl rfl ((by first | exact y_notp rfl | exact y_not rfl)) ?_
    refine g_val rfl rfl rfl (y_move rfl) ?_
    first | refine g_casep 10 rfl (fun h4 => ?_) (fun h4 => ?_) | refine g_caseb 10 rfl (fun h4 => ?_) (fun h4 => ?_)
    · skip
      refine g_not rfl rfl rfl ?_
      refine g_not rfl rfl rfl ?_
      refine g_not rfl rfl rfl ?_
      refine g_not rfl rfl rfl ?_
      refine g_not rfl rfl rfl ?_
      refine g_val rfl rfl rfl (y_pick_t rfl rfl) ?_
      refine g_nil (g_then (g_cond_t rfl (g_seq (g_ops ?_))))
      refine g_val rfl rfl rfl (y_assign rfl) ?_
      refine g_nil (g_then (g_ret (g_then_ret ?_)))
      refine g_end1 Tryd.results25 rfl ?_
      first | exact fun w hS => ⟨rfl, hS.below⟩ | (exfalso; omega) | exact absurd h2 (by rw [flt_2m]; simp)
    · skip
      refine g_val rfl rfl rfl (y_move rfl) ?_
      refine g_val rfl rfl rfl (y_fromF rfl Tryd.underlying29 Tryd.underlying3 (by omega) (by omega)) ?_
      refine g_val rfl rfl rfl (y_toF rfl Tryd.underlying3 Tryd.underlying29) ?_
      refine g_val rfl rfl rfl (y_move rfl) ?_
      refine g_val rfl rfl rfl ((by first | exact y_fneI rfl rfl (by omega) (by omega) | exact y_fne rfl rfl)) ?_
      refine g_val rfl rfl rfl (y_pick_f rfl rfl) ?_
      refine g_nil (g_then ?_)
      first | refine g_casep 16 rfl (fun h5 => ?_) (fun h5 => ?_) | refine g_caseb 16 rfl (fun h5 => ?_) (fun h5 => ?_)
      · skip
        refine g_cond_t rfl (g_seq (g_ops ?_))
        refine g_val rfl rfl rfl (y_assign rfl) ?_
        refine g_nil (g_then (g_ret (g_then_ret ?_)))
        refine g_end1 Tryd.results25 rfl ?_
        first | exact fun w hS => ⟨rfl, hS.below⟩ | (exfalso; omega) | exact absurd h2 (by rw [flt_2m]; simp)
      · skip
        refine g_cond_f rfl (g_skip (g_then (g_seq (g_ops ?_))))
        refine g_val rfl rfl rfl (y_move rfl) ?_
        refine g_val rfl rfl rfl (y_fromF rfl Tryd.underlying29 Tryd.underlying3 (by omega) (by omega)) ?_
        refine g_call1 rfl rfl rfl Tryd.call28 (fun w hS => itoa2_any w) ?_
        refine g_val rfl rfl rfl (y_assign rfl) ?_
        refine g_nil (g_then (g_ret ?_))
        refine g_end1 Tryd.results25 rfl ?_
        first | exact fun w hS => ⟨rfl, hS.below⟩ | (exfalso; omega) | exact absurd h2 (by rw [flt_2m]; simp)

theorem text2_any  (w : World) :
    Calls Tryd.prog 19 #[.complex .f64 (fl 2) (fl 2)] w fun e w' => e = .returned (.string ⟨#[50, 58, 50]⟩) ∧ Below w.heap.size w w' := by
  refine fn_intro Tryd.func19 rfl Tryd.ntmps19 rfl rfl ?_
  refine g_seq (g_ops ?_)
  refine g_val rfl rfl rfl (y_assign rfl) ?_
  refine g_nil (g_then (g_seq (g_ops ?_)))
  refine g_val rfl rfl rfl (y_move rfl) ?_
  refine g_val rfl rfl rfl (y_real rfl) ?_
  refine g_call1 rfl rfl rfl Tryd.call25 (fun w hS => fig2_any w) ?_
  refine g_val rfl rfl rfl (y_scat rfl rfl (by first | omega | decide | (simp only [ByteArray.size_extract, ByteArray.size_append, size_mk, List.length_append, List.length_cons, List.length_nil] <;> omega))) ?_
  refine g_val rfl rfl rfl (y_move rfl) ?_
  refine g_val rfl rfl rfl (y_imag rfl) ?_
  refine g_call1 rfl rfl rfl Tryd.call25 (fun w hS => fig2_any w) ?_
  refine g_val rfl rfl rfl (y_scat rfl rfl (by first | omega | decide | (simp only [ByteArray.size_extract, ByteArray.size_append, size_mk, List.length_append, List.length_cons, List.length_nil] <;> omega))) ?_
  refine g_val rfl rfl rfl (y_assign rfl) ?_
  refine g_nil (g_then (g_ret ?_))
  refine g_end1 Tryd.results19 rfl ?_
  exact fun w hS => ⟨rfl, hS.below⟩

theorem alive_any  (w : World) :
    Calls Tryd.prog 9 #[] w fun e w' => e = .returned (.bool true) ∧ Below w.heap.size w w' := by
  refine fn_intro Tryd.func9 rfl Tryd.ntmps9 rfl rfl ?_
  refine g_seq (g_ops ?_)
  refine g_val rfl rfl rfl (y_assign rfl) ?_
  refine g_nil (g_then (g_seq (g_ops ?_)))
  refine g_call1 (v := .tuple #[.complex .f64 (fl 2) (fl 2), .int .i64 0]) rfl rfl rfl Tryd.call10 (fun w hS => at_any ⟨#[97, 98, 10, 99, 100]⟩ 4 (2, 2, 0) (by decide) (by rfl) w) ?_
  refine g_val rfl rfl rfl (y_move rfl) ?_
  refine g_val rfl rfl rfl (y_extract rfl rfl) ?_
  refine g_val rfl rfl rfl (y_extract rfl rfl) ?_
  refine g_val rfl rfl rfl (y_assign rfl) ?_
  refine g_val rfl rfl rfl (y_assign rfl) ?_
  refine g_nil (g_then (g_seq (g_ops ?_)))
  refine g_val rfl rfl rfl (y_move rfl) ?_
  refine g_val rfl rfl rfl (y_ieq rfl rfl) ?_
  refine g_val rfl rfl rfl (y_move rfl) ?_
  first | refine g_casep 9 rfl (fun h1 => ?_) (fun h1 => ?_) | refine g_caseb 9 rfl (fun h1 => ?_) (fun h1 => ?_)
  · skip
    refine g_val rfl rfl rfl (y_move rfl) ?_
    refine g_val rfl rfl rfl (y_real rfl) ?_
    refine g_val rfl rfl rfl ((by first | exact y_feqI rfl (fl_c fl_2) (by omega) (by omega) | exact y_feq rfl rfl)) ?_
    refine g_val rfl rfl rfl (y_pick_t rfl rfl) ?_
    refine g_val rfl rfl rfl (y_move rfl) ?_
    first | refine g_casep 14 rfl (fun h2 => ?_) (fun h2 => ?_) | refine g_caseb 14 rfl (fun h2 => ?_) (fun h2 => ?_)
    · skip
      refine g_val rfl rfl rfl (y_move rfl) ?_
      refine g_val rfl rfl rfl (y_imag rfl) ?_
      refine g_val rfl rfl rfl ((by first | exact y_feqI rfl (fl_c fl_2) (by omega) (by omega) | exact y_feq rfl rfl)) ?_
      refine g_val rfl rfl rfl (y_pick_t rfl rfl) ?_
      refine g_val rfl rfl rfl (y_move rfl) ?_
      first | refine g_casep 19 rfl (fun h3 => ?_) (fun h3 => ?_) | refine g_caseb 19 rfl (fun h3 => ?_) (fun h3 => ?_)
      · skip
        refine g_val rfl rfl rfl (y_move rfl) ?_
        refine g_call1 rfl rfl rfl Tryd.call19 (fun w hS => text2_any w) ?_
        refine g_val rfl rfl rfl (y_seq rfl rfl) ?_
        refine g_val rfl rfl rfl (y_pick_t rfl rfl) ?_
        refine g_val rfl rfl rfl (y_assign rfl) ?_
        refine g_nil (g_then (g_ret ?_))
        refine g_end1 Tryd.results9 rfl ?_
        exact fun w hS => ⟨ret_bool (by first | rfl | (exfalso; simp_all; done) | (exfalso; omega)), hS.below⟩
      · skip
        refine g_not rfl rfl rfl ?_
        refine g_not rfl rfl rfl ?_
        refine g_not rfl rfl rfl ?_
        refine g_val rfl rfl rfl (y_pick_f rfl rfl) ?_
        refine g_val rfl rfl rfl (y_assign rfl) ?_
        refine g_nil (g_then (g_ret ?_))
        refine g_end1 Tryd.results9 rfl ?_
        exact fun w hS => ⟨ret_bool (by first | rfl | (exfalso; simp_all; done) | (exfalso; omega)), hS.below⟩
    · skip
      refine g_not rfl rfl rfl ?_
      refine g_not rfl rfl rfl ?_
      refine g_not rfl rfl rfl ?_
      refine g_val rfl rfl rfl (y_pick_f rfl rfl) ?_
      refine g_val rfl rfl rfl (y_move rfl) ?_
      refine g_not rfl rfl rfl ?_
      refine g_not rfl rfl rfl ?_
      refine g_not rfl rfl rfl ?_
      refine g_val rfl rfl rfl (y_pick_f rfl rfl) ?_
      refine g_val rfl rfl rfl (y_assign rfl) ?_
      refine g_nil (g_then (g_ret ?_))
      refine g_end1 Tryd.results9 rfl ?_
      exact fun w hS => ⟨ret_bool (by first | rfl | (exfalso; simp_all; done) | (exfalso; omega)), hS.below⟩
  · skip
    refine g_not rfl rfl rfl ?_
    refine g_not rfl rfl rfl ?_
    refine g_not rfl rfl rfl ?_
    refine g_val rfl rfl rfl (y_pick_f rfl rfl) ?_
    refine g_val rfl rfl rfl (y_move rfl) ?_
    refine g_not rfl rfl rfl ?_
    refine g_not rfl rfl rfl ?_
    refine g_not rfl rfl rfl ?_
    refine g_val rfl rfl rfl (y_pick_f rfl rfl) ?_
    refine g_val rfl rfl rfl (y_move rfl) ?_
    refine g_not rfl rfl rfl ?_
    refine g_not rfl rfl rfl ?_
    refine g_not rfl rfl rfl ?_
    refine g_val rfl rfl rfl (y_pick_f rfl rfl) ?_
    refine g_val rfl rfl rfl (y_assign rfl) ?_
    refine g_nil (g_then (g_ret ?_))
    refine g_end1 Tryd.results9 rfl ?_
    exact fun w hS => ⟨ret_bool (by first | rfl | (exfalso; simp_all; done) | (exfalso; omega)), hS.below⟩

end Go.Proofs.YthikabfmgmbbcaaDoor
