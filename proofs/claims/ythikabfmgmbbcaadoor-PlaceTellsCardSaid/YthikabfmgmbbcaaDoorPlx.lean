/- Places of indexes, indexes of places, orders. -/
import Derived.Test.YthikabfmgmbbcaaDoorPlc
namespace Go.Proofs.YthikabfmgmbbcaaDoor
open Go Go.RowKit


theorem at_in (s : ByteArray) (n : Int) (h : 0 ≤ n ∧ n ≤ s.size) : atR s n = ((plc (pre s n)).1, (plc (pre s n)).2, 0) := by unfold atR; rw [if_pos h]
theorem at_out (s : ByteArray) (n : Int) (h : ¬ (0 ≤ n ∧ n ≤ s.size)) : atR s n = (0, 0, 11) := by unfold atR; rw [if_neg h]
theorem pl_one : some (Value.complex .f64 4607182418800017408 4607182418800017408) = some (Value.complex .f64 (fl 1) (fl 1)) := by rw [← fl_1]
/-- Does index n's place have these parts? -/
def hit (s : ByteArray) (u v : Nat) (n : Int) : Bool := feq (fl (atR s n).1) u && feq (fl (atR s n).2.1) v
open Classical in
noncomputable def idxR (s : ByteArray) (u v : Nat) : Int × Int :=
  if h : ∃ n : Int, 0 ≤ n ∧ n ≤ s.size ∧ hit s u v n = true ∧ ∀ k : Int, 0 ≤ k → k < n → hit s u v k = false then (h.choose, 0) else (0, 11)
theorem idx_hit (s : ByteArray) (u v : Nat) (n : Int) (h0 : 0 ≤ n) (h1 : n ≤ s.size) (h2 : hit s u v n = true) (h3 : ∀ k : Int, 0 ≤ k → k < n → hit s u v k = false) : idxR s u v = (n, 0) := by
  have h : ∃ n : Int, 0 ≤ n ∧ n ≤ s.size ∧ hit s u v n = true ∧ ∀ k : Int, 0 ≤ k → k < n → hit s u v k = false := ⟨n, h0, h1, h2, h3⟩
  unfold idxR
  rw [dif_pos h]
  have hs := h.choose_spec
  have : h.choose = n := by
    rcases Int.lt_trichotomy h.choose n with q | q | q
    · have := h3 _ hs.1 q; rw [hs.2.2.1] at this; cases this
    · exact q
    · have := hs.2.2.2 n h0 q; rw [h2] at this; cases this
  rw [this]
theorem idx_none (s : ByteArray) (u v : Nat) (h3 : ∀ k : Int, 0 ≤ k → k ≤ s.size → hit s u v k = false) : idxR s u v = (0, 11) := by
  unfold idxR
  rw [dif_neg]
  rintro ⟨n, h0, h1, h2, _⟩
  rw [h3 n h0 h1] at h2; cases h2
abbrev ixV (r : Int × Int) : Value := .tuple #[.int .i64 r.1, .int .i64 r.2]
theorem ret_ix {a b : Int} {r : Int × Int} (h : r = (a, b)) : Ending.returned (.tuple #[.int .i64 a, .int .i64 b]) = .returned (ixV r) := by rw [h]
theorem mv_step (s : ByteArray) (n : Int) (h0 : 0 ≤ n) (h1 : n < s.size) : mvP (atR s n).1 (atR s n).2.1 (s.extract n.toNat (n + 1).toNat).data.toList = ((atR s (n + 1)).1, (atR s (n + 1)).2.1) := by
  have e1 : (s.extract n.toNat (n + 1).toNat).data.toList = [by8 s n] := by
    have h3 := pre_snoc s n h0 h1
    rw [ByteArray.data_extract, Array.toList_extract, List.extract_eq_take_drop]
    have e : (n + 1).toNat - n.toNat = 1 := by omega
    have hlt : n.toNat < s.data.toList.length := by rw [dlen]; omega
    rw [e, List.drop_eq_getElem_cons hlt]
    unfold by8
    have h2 : s[n.toNat]? = some (s[n.toNat]'(by omega)) := by simp
    rw [h2]; rfl
  rw [at_in s n ⟨h0, by omega⟩, at_in s (n + 1) ⟨by omega, by omega⟩, e1, pre_snoc s n h0 h1]
  unfold plc mvP
  rw [lc_snoc]
  by_cases hc : by8 s n = 10
  · rw [if_pos hc]; simp [lcL, hc]
  · rw [if_neg hc]; simp [lcL, hc]
def ordI (u v : Nat) : Int := if feq u u = false ∧ feq v v = false then 0 else if feq u u = false then -1 else if feq v v = false then 1 else if flt u v = true then -1 else if fgt u v = true then 1 else 0
def cmpI (u v u' v' : Nat) : Int := if ordI u u' ≠ 0 then ordI u u' else ordI v v'

theorem count_any (s : ByteArray) (R0 : Int × Int) (hs : s.size ≤ 1073741824) (hR : lcL s.data.toList = R0) (w : World) :
    Calls Tryd.prog 21 #[.string s] w fun e w' => e = .returned (ixV R0) ∧ Below w.heap.size w w' := by
  refine fn_intro Tryd.func21 rfl Tryd.ntmps21 rfl rfl ?_
  refine g_seq (g_ops ?_)
  refine g_val rfl rfl rfl (y_assign rfl) ?_
  refine g_val rfl rfl rfl (y_assign rfl) ?_
  refine g_nil (g_then (g_seq (g_ops ?_)))
  refine g_val rfl rfl rfl (y_assign rfl) ?_
  refine g_nil (g_then (g_seq (g_ops ?_)))
  refine g_val rfl rfl rfl (y_assign rfl) ?_
  refine g_nil (g_then (g_seq (g_seq (g_ops ?_))))
  refine g_val rfl rfl rfl (y_assign rfl) ?_
  refine g_nil (g_then (g_block ?_))
  refine g_loop (α := {x : Int // 0 ≤ x ∧ x ≤ s.size}) (fun x => [(0, .string s), (4, .int .i64 (lcL (pre s x.1)).1), (5, .int .i64 (lcL (pre s x.1)).2), (6, .int .i64 x.1)]) (fun x => St w [] []) (fun x => s.size - x.1.toNat) ⟨0, by omega, by omega⟩ [0, 4, 5, 6] (by rw [pre_0]; rfl) (fun w h => h.sub .slnil) ?_
  rintro ⟨i, hx⟩
  dsimp only
  have hbd := lc_bd (pre s i)
  have hpl : (pre s i).length ≤ s.size := by unfold pre; rw [List.length_take, dlen]; omega
  refine g_seq (g_seq (g_ops ?_))
  refine g_val rfl rfl rfl (y_move rfl) ?_
  refine g_val rfl rfl rfl (y_move rfl) ?_
  refine g_val rfl rfl rfl (y_slen rfl Tryd.underlying9) ?_
  refine g_val rfl rfl rfl (y_ilt rfl rfl) ?_
  refine g_nil (g_then ?_)
  first | refine g_casep 10 rfl (fun h1 => ?_) (fun h1 => ?_) | refine g_caseb 10 rfl (fun h1 => ?_) (fun h1 => ?_)
  · skip
    refine g_cond_t rfl (g_skip (g_then (g_seq (g_block (g_seq (g_ops ?_))))))
    refine g_val rfl rfl rfl (y_move rfl) ?_
    refine g_val rfl rfl rfl (by first | exact y_addi rfl rfl (by first | omega | (simp only [size_mk, ByteArray.size_append, ByteArray.size_extract]; omega)) | exact y_iadd rfl rfl) ?_
    refine g_val rfl rfl rfl (y_assign rfl) ?_
    refine g_nil (g_then (g_seq (g_ops ?_)))
    refine g_val rfl rfl rfl (y_move rfl) ?_
    refine g_val rfl rfl rfl (y_move rfl) ?_
    refine g_val rfl rfl rfl (y_sat rfl rfl Tryd.underlying9 (by omega) (by omega)) ?_
    refine g_val rfl rfl rfl (y_ieq rfl rfl) ?_
    refine g_nil (g_then ?_)
    first | refine g_casep 18 rfl (fun h2 => ?_) (fun h2 => ?_) | refine g_caseb 18 rfl (fun h2 => ?_) (fun h2 => ?_)
    · skip
      refine g_cond_t rfl (g_seq (g_ops ?_))
      refine g_val rfl rfl rfl (y_move rfl) ?_
      refine g_val rfl rfl rfl (by first | exact y_addi rfl rfl (by first | omega | (simp only [size_mk, ByteArray.size_append, ByteArray.size_extract]; omega)) | exact y_iadd rfl rfl) ?_
      refine g_val rfl rfl rfl (y_assign rfl) ?_
      refine g_nil (g_then (g_ops ?_))
      refine g_val rfl rfl rfl (y_assign rfl) ?_
      refine g_nil (g_in_normal (g_then (g_ops ?_)))
      refine g_val rfl rfl rfl (y_move rfl) ?_
      refine g_val rfl rfl rfl (by first | exact y_addi rfl rfl (by first | omega | (simp only [size_mk, ByteArray.size_append, ByteArray.size_extract]; omega)) | exact y_iadd rfl rfl) ?_
      refine g_val rfl rfl rfl (y_assign rfl) ?_
      refine g_nil ?_
      exact g_again ⟨i + 1, by omega, by omega⟩ [0, 4, 5, 6] (by dsimp only; omega) (by first | (rw [lc_10 s i (by omega) (by omega) (by omega)]; rfl) | (rw [lc_n s i (by omega) (by omega) (by omega)]; rfl)) (fun w h => h.sub .slnil)
    · skip
      refine g_cond_f rfl (g_skip (g_in_normal (g_then (g_ops ?_))))
      refine g_val rfl rfl rfl (y_move rfl) ?_
      refine g_val rfl rfl rfl (by first | exact y_addi rfl rfl (by first | omega | (simp only [size_mk, ByteArray.size_append, ByteArray.size_extract]; omega)) | exact y_iadd rfl rfl) ?_
      refine g_val rfl rfl rfl (y_assign rfl) ?_
      refine g_nil ?_
      exact g_again ⟨i + 1, by omega, by omega⟩ [0, 4, 5, 6] (by dsimp only; omega) (by first | (rw [lc_10 s i (by omega) (by omega) (by omega)]; rfl) | (rw [lc_n s i (by omega) (by omega) (by omega)]; rfl)) (fun w h => h.sub .slnil)
  · skip
    refine g_cond_f rfl (g_exit (g_then_exit (g_then_exit (g_in_exit (g_then (g_seq (g_ops ?_)))))))
    refine g_val rfl rfl rfl (y_move rfl) ?_
    refine g_val rfl rfl rfl (y_move rfl) ?_
    refine g_val rfl rfl rfl (y_assign rfl) ?_
    refine g_val rfl rfl rfl (y_assign rfl) ?_
    refine g_nil (g_then (g_ret ?_))
    refine g_end2 Tryd.results21 rfl rfl ?_
    exact fun w hS => ⟨ret_ix (by rw [← hR, ← pre_all s i (by omega)]), hS.below⟩

theorem at_any (s : ByteArray) (n : Int) (R0 : Int × Int × Int) (hs : s.size ≤ 1073741824) (hR : atR s n = R0) (w : World) :
    Calls Tryd.prog 10 #[.string s, .int .i64 n] w fun e w' => e = .returned (atV R0) ∧ Below w.heap.size w w' := by
  refine fn_intro Tryd.func10 rfl Tryd.ntmps10 rfl rfl ?_
  refine g_seq (g_ops ?_)
  refine g_val rfl rfl rfl (y_assign rfl) ?_
  refine g_val rfl rfl rfl (y_assign rfl) ?_
  refine g_nil (g_then (g_seq (g_seq (g_ops ?_))))
  refine g_val rfl rfl rfl (y_move rfl) ?_
  refine g_val rfl rfl rfl (y_ilt rfl rfl) ?_
  refine g_val rfl rfl rfl (y_move rfl) ?_
  first | refine g_casep 8 rfl (fun h1 => ?_) (fun h1 => ?_) | refine g_caseb 8 rfl (fun h1 => ?_) (fun h1 => ?_)
  · skip
    refine g_not rfl rfl rfl ?_
    refine g_not rfl rfl rfl ?_
    refine g_not rfl rfl rfl ?_
    refine g_not rfl rfl rfl ?_
    refine g_val rfl rfl rfl (y_pick_t rfl rfl) ?_
    refine g_nil (g_then (g_cond_t rfl (g_seq (g_ops ?_))))
    refine g_val rfl rfl rfl (y_assign rfl) ?_
    refine g_val rfl rfl rfl (y_assign rfl) ?_
    refine g_nil (g_then (g_ret (g_then_ret ?_)))
    refine g_end2 Tryd.results10 rfl rfl ?_
    exact fun w hS => ⟨by first | exact ret_at0 (hR.symm.trans (at_out s n (by omega))) | exact ret_at (hR.symm.trans (at_in s n (by omega))), hS.below⟩
  · skip
    refine g_val rfl rfl rfl (y_move rfl) ?_
    refine g_val rfl rfl rfl (y_move rfl) ?_
    refine g_val rfl rfl rfl (y_slen rfl Tryd.underlying9) ?_
    refine g_val rfl rfl rfl (y_igt rfl rfl) ?_
    refine g_val rfl rfl rfl (y_pick_f rfl rfl) ?_
    refine g_nil (g_then ?_)
    first | refine g_casep 13 rfl (fun h2 => ?_) (fun h2 => ?_) | refine g_caseb 13 rfl (fun h2 => ?_) (fun h2 => ?_)
    · skip
      refine g_cond_t rfl (g_seq (g_ops ?_))
      refine g_val rfl rfl rfl (y_assign rfl) ?_
      refine g_val rfl rfl rfl (y_assign rfl) ?_
      refine g_nil (g_then (g_ret (g_then_ret ?_)))
      refine g_end2 Tryd.results10 rfl rfl ?_
      exact fun w hS => ⟨by first | exact ret_at0 (hR.symm.trans (at_out s n (by omega))) | exact ret_at (hR.symm.trans (at_in s n (by omega))), hS.below⟩
    · skip
      refine g_cond_f rfl (g_skip (g_then (g_seq (g_ops ?_))))
      refine g_val rfl rfl rfl (y_move rfl) ?_
      refine g_val rfl rfl rfl (y_move rfl) ?_
      refine g_val rfl rfl rfl (y_stoI rfl rfl Tryd.underlying9 (by omega) (by omega)) ?_
      have hin : 0 ≤ n ∧ n ≤ s.size := by omega
      have hez : (s.extract 0 n.toNat).size ≤ s.size := by rw [ByteArray.size_extract]; omega
      refine g_call1 (v := plV (plc (pre s n))) rfl rfl rfl Tryd.call11 (fun w hS => (by have q := moved_any 1 1 (s.extract 0 n.toNat) (plc (pre s n)) (by omega) (by omega) (by omega) (by rw [ext_pre s n hin.1 hin.2, mv_1]) w; rwa [← fl_1] at q)) ?_
      refine g_val rfl rfl rfl (y_assign rfl) ?_
      refine g_val rfl rfl rfl (y_assign rfl) ?_
      refine g_nil (g_then (g_ret ?_))
      refine g_end2 Tryd.results10 rfl rfl ?_
      exact fun w hS => ⟨by first | exact ret_at0 (hR.symm.trans (at_out s n (by omega))) | exact ret_at (hR.symm.trans (at_in s n (by omega))), hS.below⟩

theorem rat_any (s : ByteArray) (n : Int) (R0 : Int × Int × Int) (hs : s.size ≤ 1073741824) (hR : atR s n = R0) (w : World) :
    Calls Tryd.prog 12 #[.string s, .int .i64 n] w fun e w' => e = .returned (atV R0) ∧ Below w.heap.size w w' := by
  refine fn_intro Tryd.func12 rfl Tryd.ntmps12 rfl rfl ?_
  refine g_seq (g_ops ?_)
  refine g_val rfl rfl rfl (y_assign rfl) ?_
  refine g_val rfl rfl rfl (y_assign rfl) ?_
  refine g_nil (g_then (g_seq (g_seq (g_ops ?_))))
  refine g_val rfl rfl rfl (y_move rfl) ?_
  refine g_val rfl rfl rfl (y_ilt rfl rfl) ?_
  refine g_val rfl rfl rfl (y_move rfl) ?_
  first | refine g_casep 10 rfl (fun h1 => ?_) (fun h1 => ?_) | refine g_caseb 10 rfl (fun h1 => ?_) (fun h1 => ?_)
  · skip
    refine g_not rfl rfl rfl ?_
    refine g_not rfl rfl rfl ?_
    refine g_not rfl rfl rfl ?_
    refine g_not rfl rfl rfl ?_
    refine g_val rfl rfl rfl (y_pick_t rfl rfl) ?_
    refine g_nil (g_then (g_cond_t rfl (g_seq (g_ops ?_))))
    refine g_val rfl rfl rfl (y_assign rfl) ?_
    refine g_val rfl rfl rfl (y_assign rfl) ?_
    refine g_nil (g_then (g_ret (g_then_ret ?_)))
    refine g_end2 Tryd.results12 rfl rfl ?_
    exact fun w hS => ⟨by first | exact ret_at0 (hR.symm.trans (at_out s n (by omega))) | exact ret_at (hR.symm.trans (at_in s n (by omega))), hS.below⟩
  · skip
    refine g_val rfl rfl rfl (y_move rfl) ?_
    refine g_val rfl rfl rfl (y_move rfl) ?_
    refine g_val rfl rfl rfl (y_slen rfl Tryd.underlying9) ?_
    refine g_val rfl rfl rfl (y_igt rfl rfl) ?_
    refine g_val rfl rfl rfl (y_pick_f rfl rfl) ?_
    refine g_nil (g_then ?_)
    first | refine g_casep 15 rfl (fun h2 => ?_) (fun h2 => ?_) | refine g_caseb 15 rfl (fun h2 => ?_) (fun h2 => ?_)
    · skip
      refine g_cond_t rfl (g_seq (g_ops ?_))
      refine g_val rfl rfl rfl (y_assign rfl) ?_
      refine g_val rfl rfl rfl (y_assign rfl) ?_
      refine g_nil (g_then (g_ret (g_then_ret ?_)))
      refine g_end2 Tryd.results12 rfl rfl ?_
      exact fun w hS => ⟨by first | exact ret_at0 (hR.symm.trans (at_out s n (by omega))) | exact ret_at (hR.symm.trans (at_in s n (by omega))), hS.below⟩
    · skip
      refine g_cond_f rfl (g_skip (g_then (g_seq (g_ops ?_))))
      refine g_val rfl rfl rfl (y_move rfl) ?_
      refine g_val rfl rfl rfl (y_move rfl) ?_
      refine g_val rfl rfl rfl (y_stoI rfl rfl Tryd.underlying9 (by omega) (by omega)) ?_
      have hin : 0 ≤ n ∧ n ≤ s.size := by omega
      have hez : (s.extract 0 n.toNat).size ≤ s.size := by rw [ByteArray.size_extract]; omega
      have hbd := lc_bd (pre s n)
      have hpl : (pre s n).length ≤ s.size := by unfold pre; rw [List.length_take, dlen]; omega
      refine g_call1 (v := ixV (lcL (pre s n))) rfl rfl rfl Tryd.call21 (fun w hS => count_any (s.extract 0 n.toNat) _ (by omega) (by rw [ext_pre s n hin.1 hin.2]) w) ?_
      refine g_val rfl rfl rfl (y_move rfl) ?_
      refine g_val rfl rfl rfl (y_extract rfl rfl) ?_
      refine g_val rfl rfl rfl (y_extract rfl rfl) ?_
      refine g_val rfl rfl rfl (y_assign rfl) ?_
      refine g_val rfl rfl rfl (y_assign rfl) ?_
      refine g_nil (g_then (g_seq (g_ops ?_)))
      refine g_val rfl rfl rfl (y_move rfl) ?_
      refine g_val rfl rfl rfl (by first | exact y_addi rfl rfl (by first | omega | (simp only [size_mk, ByteArray.size_append, ByteArray.size_extract]; omega)) | exact y_iadd rfl rfl) ?_
      refine g_val rfl rfl rfl (y_toF rfl Tryd.underlying3 Tryd.underlying29) ?_
      refine g_val rfl rfl rfl (y_move rfl) ?_
      refine g_val rfl rfl rfl (by first | exact y_addi rfl rfl (by first | omega | (simp only [size_mk, ByteArray.size_append, ByteArray.size_extract]; omega)) | exact y_iadd rfl rfl) ?_
      refine g_val rfl rfl rfl (y_toF rfl Tryd.underlying3 Tryd.underlying29) ?_
      refine g_val rfl rfl rfl (y_cplx rfl rfl) ?_
      refine g_val rfl rfl rfl (y_assign rfl) ?_
      refine g_val rfl rfl rfl (y_assign rfl) ?_
      refine g_nil (g_then (g_ret ?_))
      refine g_end2 Tryd.results12 rfl rfl ?_
      exact fun w hS => ⟨by first | exact ret_at0 (hR.symm.trans (at_out s n (by omega))) | exact ret_at (hR.symm.trans (at_in s n (by omega))), hS.below⟩

theorem index_any (s : ByteArray) (u v : Nat) (R0 : Int × Int) (hs : s.size ≤ 1073741824) (hR : idxR s u v = R0) (w : World) :
    Calls Tryd.prog 13 #[.string s, .complex .f64 u v] w fun e w' => e = .returned (ixV R0) ∧ Below w.heap.size w w' := by
  refine fn_intro Tryd.func13 rfl Tryd.ntmps13 rfl rfl ?_
  refine g_seq (g_ops ?_)
  refine g_val rfl rfl rfl (y_assign rfl) ?_
  refine g_val rfl rfl rfl (y_assign rfl) ?_
  refine g_nil (g_then ?_)
  refine g_scope (α := {x : Int // 0 ≤ x ∧ x ≤ s.size ∧ ∀ k : Int, 0 ≤ k → k < x → hit s u v k = false}) (fun z => match z with | x => [(0, .string s), (1, .complex .f64 u v), (6, .complex .f64 (fl (atR s x.1).1) (fl (atR s x.1).2.1)), (7, .int .i64 x.1)]) (fun z => match z with | x => St w [] []) (fun z => match z with | x => 0) (fun z => match z with | x => s.size - x.1.toNat) ?_ ?_
  · skip
    refine g_seq (g_ops ?_)
    refine g_val rfl rfl rfl (y_assign rfl) ?_
    refine g_nil (g_then (g_seq (g_ops ?_)))
    refine g_val rfl rfl rfl (y_assign rfl) ?_
    refine g_nil (g_then (g_seq (g_label ?_)))
    obtain ⟨n, hn⟩ : ∃ n : Int, n = 0 := ⟨_, rfl⟩
    have hn0 : 0 ≤ n := by omega
    have hn1 : n ≤ s.size := by omega
    have hh : ∀ k : Int, 0 ≤ k → k < n → hit s u v k = false := fun k h0 h1 => by omega
    have hab := at_bd s n (by omega)
    have h11 : some (Value.complex .f64 4607182418800017408 4607182418800017408) = some (Value.complex .f64 (fl (atR s n).1) (fl (atR s n).2.1)) := by rw [at_in s n ⟨hn0, hn1⟩, hn, pre_0]; exact pl_one
    refine g_set 6 h11 ?_
    refine g_set 7 (v := .int .i64 n) (by rw [hn]; rfl) ?_
    refine g_then (g_seq (g_seq (g_ops ?_)))
    refine g_val rfl rfl rfl (y_move rfl) ?_
    refine g_val rfl rfl rfl (y_move rfl) ?_
    refine g_val rfl rfl rfl ((by first | exact y_ceqI rfl rfl (by omega) (by omega) (by omega) (by omega) | exact y_ceq rfl rfl)) ?_
    refine g_nil (g_then ?_)
    first | refine g_casep 10 rfl (fun h1 => ?_) (fun h1 => ?_) | refine g_caseb 10 rfl (fun h1 => ?_) (fun h1 => ?_)
    · skip
      refine g_cond_t rfl (g_seq (g_ops ?_))
      refine g_val rfl rfl rfl (y_move rfl) ?_
      refine g_val rfl rfl rfl (y_assign rfl) ?_
      refine g_val rfl rfl rfl (y_assign rfl) ?_
      refine g_nil (g_then (g_ret (g_then_ret (g_jumps_ret ?_))))
      refine g_end2 Tryd.results13 rfl rfl ?_
      exact fun w hS => ⟨ret_ix (hR.symm.trans (by first | exact idx_hit s u v n (by omega) (by omega) (by unfold hit; assumption) hh | exact idx_none s u v (fun k h0 h1 => if q : k = n then by rw [q]; unfold hit; simp_all else hh k h0 (by omega)))), hS.below⟩
    · skip
      refine g_cond_f rfl (g_skip (g_then (g_seq (g_seq (g_ops ?_)))))
      refine g_val rfl rfl rfl (y_move rfl) ?_
      refine g_val rfl rfl rfl (y_move rfl) ?_
      refine g_val rfl rfl rfl (y_slen rfl Tryd.underlying9) ?_
      refine g_val rfl rfl rfl (y_ilt rfl rfl) ?_
      refine g_nil (g_then ?_)
      first | refine g_casep 15 rfl (fun h2 => ?_) (fun h2 => ?_) | refine g_caseb 15 rfl (fun h2 => ?_) (fun h2 => ?_)
      · skip
        refine g_cond_t rfl (g_seq (g_ops ?_))
        refine g_val rfl rfl rfl (y_move rfl) ?_
        refine g_val rfl rfl rfl (y_move rfl) ?_
        refine g_val rfl rfl rfl (y_move rfl) ?_
        refine g_val rfl rfl rfl (y_move rfl) ?_
        refine g_val rfl rfl rfl (by first | exact y_addi rfl rfl (by first | omega | (simp only [size_mk, ByteArray.size_append, ByteArray.size_extract]; omega)) | exact y_iadd rfl rfl) ?_
        refine g_val rfl rfl rfl (y_ssl rfl rfl rfl Tryd.underlying9 (by omega) (by omega) (by first | omega | (simp only [size_mk, List.length_cons, List.length_nil]; omega))) ?_
        refine g_call1 (v := plV ((atR s (n + 1)).1, (atR s (n + 1)).2.1)) rfl rfl rfl Tryd.call11 (fun w hS => moved_any (atR s n).1 (atR s n).2.1 _ ((atR s (n + 1)).1, (atR s (n + 1)).2.1) (by rw [ByteArray.size_extract]; omega) (by omega) (by omega) (mv_step s n (by omega) (by omega)) w) ?_
        refine g_val rfl rfl rfl (y_assign rfl) ?_
        refine g_nil (g_then (g_seq (g_ops ?_)))
        refine g_val rfl rfl rfl (y_move rfl) ?_
        refine g_val rfl rfl rfl (by first | exact y_addi rfl rfl (by first | omega | (simp only [size_mk, ByteArray.size_append, ByteArray.size_extract]; omega)) | exact y_iadd rfl rfl) ?_
        refine g_val rfl rfl rfl (y_assign rfl) ?_
        refine g_nil (g_then (g_goto (g_then_goto ?_)))
        exact g_jump ⟨n + 1, by omega, by omega, fun k h0 h1 => if q : k = n then by rw [q]; unfold hit; simp_all else hh k h0 (by omega)⟩ [0, 1, 6, 7] rfl (fun j hj => by cases hj) rfl (fun w h => h.sub .slnil)
      · skip
        refine g_cond_f rfl (g_skip (g_then (g_seq (g_ops ?_))))
        refine g_val rfl rfl rfl (y_assign rfl) ?_
        refine g_val rfl rfl rfl (y_assign rfl) ?_
        refine g_nil (g_then (g_ret (g_jumps_ret ?_)))
        refine g_end2 Tryd.results13 rfl rfl ?_
        exact fun w hS => ⟨ret_ix (hR.symm.trans (by first | exact idx_hit s u v n (by omega) (by omega) (by unfold hit; assumption) hh | exact idx_none s u v (fun k h0 h1 => if q : k = n then by rw [q]; unfold hit; simp_all else hh k h0 (by omega)))), hS.below⟩
  · rintro (x)
    · refine ⟨_, rfl, ?_⟩
      dsimp only
      obtain ⟨n, hx⟩ := x
      dsimp only at hx ⊢
      obtain ⟨hn0, hn1, hh⟩ := hx
      have hab := at_bd s n (by omega)
      refine g_seq (g_skip (g_then (g_seq (g_seq (g_ops ?_)))))
      refine g_val rfl rfl rfl (y_move rfl) ?_
      refine g_val rfl rfl rfl (y_move rfl) ?_
      refine g_val rfl rfl rfl ((by first | exact y_ceqI rfl rfl (by omega) (by omega) (by omega) (by omega) | exact y_ceq rfl rfl)) ?_
      refine g_nil (g_then ?_)
      first | refine g_casep 10 rfl (fun h3 => ?_) (fun h3 => ?_) | refine g_caseb 10 rfl (fun h3 => ?_) (fun h3 => ?_)
      · skip
        refine g_cond_t rfl (g_seq (g_ops ?_))
        refine g_val rfl rfl rfl (y_move rfl) ?_
        refine g_val rfl rfl rfl (y_assign rfl) ?_
        refine g_val rfl rfl rfl (y_assign rfl) ?_
        refine g_nil (g_then (g_ret (g_then_ret (g_jumps_ret ?_))))
        refine g_end2 Tryd.results13 rfl rfl ?_
        exact fun w hS => ⟨ret_ix (hR.symm.trans (by first | exact idx_hit s u v n (by omega) (by omega) (by unfold hit; assumption) hh | exact idx_none s u v (fun k h0 h1 => if q : k = n then by rw [q]; unfold hit; simp_all else hh k h0 (by omega)))), hS.below⟩
      · skip
        refine g_cond_f rfl (g_skip (g_then (g_seq (g_seq (g_ops ?_)))))
        refine g_val rfl rfl rfl (y_move rfl) ?_
        refine g_val rfl rfl rfl (y_move rfl) ?_
        refine g_val rfl rfl rfl (y_slen rfl Tryd.underlying9) ?_
        refine g_val rfl rfl rfl (y_ilt rfl rfl) ?_
        refine g_nil (g_then ?_)
        first | refine g_casep 15 rfl (fun h4 => ?_) (fun h4 => ?_) | refine g_caseb 15 rfl (fun h4 => ?_) (fun h4 => ?_)
        · skip
          refine g_cond_t rfl (g_seq (g_ops ?_))
          refine g_val rfl rfl rfl (y_move rfl) ?_
          refine g_val rfl rfl rfl (y_move rfl) ?_
          refine g_val rfl rfl rfl (y_move rfl) ?_
          refine g_val rfl rfl rfl (y_move rfl) ?_
          refine g_val rfl rfl rfl (by first | exact y_addi rfl rfl (by first | omega | (simp only [size_mk, ByteArray.size_append, ByteArray.size_extract]; omega)) | exact y_iadd rfl rfl) ?_
          refine g_val rfl rfl rfl (y_ssl rfl rfl rfl Tryd.underlying9 (by omega) (by omega) (by first | omega | (simp only [size_mk, List.length_cons, List.length_nil]; omega))) ?_
          refine g_call1 (v := plV ((atR s (n + 1)).1, (atR s (n + 1)).2.1)) rfl rfl rfl Tryd.call11 (fun w hS => moved_any (atR s n).1 (atR s n).2.1 _ ((atR s (n + 1)).1, (atR s (n + 1)).2.1) (by rw [ByteArray.size_extract]; omega) (by omega) (by omega) (mv_step s n (by omega) (by omega)) w) ?_
          refine g_val rfl rfl rfl (y_assign rfl) ?_
          refine g_nil (g_then (g_seq (g_ops ?_)))
          refine g_val rfl rfl rfl (y_move rfl) ?_
          refine g_val rfl rfl rfl (by first | exact y_addi rfl rfl (by first | omega | (simp only [size_mk, ByteArray.size_append, ByteArray.size_extract]; omega)) | exact y_iadd rfl rfl) ?_
          refine g_val rfl rfl rfl (y_assign rfl) ?_
          refine g_nil (g_then (g_goto (g_then_goto ?_)))
          exact g_jump ⟨n + 1, by omega, by omega, fun k h0 h1 => if q : k = n then by rw [q]; unfold hit; simp_all else hh k h0 (by omega)⟩ [0, 1, 6, 7] rfl (fun j hj => by cases hj; dsimp only; omega) rfl (fun w h => h.sub .slnil)
        · skip
          refine g_cond_f rfl (g_skip (g_then (g_seq (g_ops ?_))))
          refine g_val rfl rfl rfl (y_assign rfl) ?_
          refine g_val rfl rfl rfl (y_assign rfl) ?_
          refine g_nil (g_then (g_ret (g_jumps_ret ?_)))
          refine g_end2 Tryd.results13 rfl rfl ?_
          exact fun w hS => ⟨ret_ix (hR.symm.trans (by first | exact idx_hit s u v n (by omega) (by omega) (by unfold hit; assumption) hh | exact idx_none s u v (fun k h0 h1 => if q : k = n then by rw [q]; unfold hit; simp_all else hh k h0 (by omega)))), hS.below⟩

end Go.Proofs.YthikabfmgmbbcaaDoor
