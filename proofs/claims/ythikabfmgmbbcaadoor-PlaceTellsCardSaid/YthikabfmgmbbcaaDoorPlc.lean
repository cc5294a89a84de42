/- What the functions of places compute. -/
import Derived.Test.YthikabfmgmbbcaaDoorRows
import Derived.Test.YthikabfmgmbbcaaDoorF
import Derived.Test.YthikabfmgmbbcaaDoorShelf
namespace Go.Proofs.YthikabfmgmbbcaaDoor
open Go Go.RowKit


theorem bt_eq (s : ByteArray) (i : Int) (c : UInt8) : bt s i = (c.toNat : Int) ↔ by8 s i = c := by
  unfold bt
  constructor
  · intro h; exact UInt8.toNat_inj.1 (by omega)
  · intro h; rw [h]
theorem bt_10 (s : ByteArray) (i : Int) : bt s i = 10 ↔ by8 s i = 10 := bt_eq s i 10
theorem dlen (s : ByteArray) : s.data.toList.length = s.size := by rw [Array.length_toList]; rfl
/-- The first i bytes. -/
def pre (s : ByteArray) (i : Int) : List UInt8 := s.data.toList.take i.toNat
theorem pre_snoc (s : ByteArray) (i : Int) (h0 : 0 ≤ i) (h1 : i < s.size) : pre s (i + 1) = pre s i ++ [by8 s i] := by
  unfold pre by8
  have hlt : i.toNat < s.data.toList.length := by rw [dlen]; omega
  have e : (i + 1).toNat = i.toNat + 1 := by omega
  rw [e, List.take_succ_eq_append_getElem hlt]
  congr 2
  have : i.toNat < s.size := by omega
  simp [this]
  rfl
theorem pre_0 (s : ByteArray) : pre s 0 = [] := by unfold pre; simp
theorem pre_all (s : ByteArray) (i : Int) (h : i = s.size) : pre s i = s.data.toList := by
  unfold pre; rw [List.take_of_length_le]; rw [dlen]; omega
/-- Lines, and the bytes behind the last one. -/
def lcL (x : List UInt8) : Int × Int := x.foldl (fun p c => if c = 10 then (p.1 + 1, 0) else (p.1, p.2 + 1)) (0, 0)
theorem lc_snoc (x : List UInt8) (c : UInt8) : lcL (x ++ [c]) = if c = 10 then ((lcL x).1 + 1, 0) else ((lcL x).1, (lcL x).2 + 1) := by
  unfold lcL; rw [List.foldl_append]; rfl
theorem lc_bd (x : List UInt8) : 0 ≤ (lcL x).1 ∧ 0 ≤ (lcL x).2 ∧ (lcL x).1 + (lcL x).2 ≤ x.length := by
  suffices h : ∀ (x : List UInt8) (p : Int × Int), 0 ≤ p.1 → 0 ≤ p.2 → 0 ≤ (x.foldl (fun p c => if c = 10 then (p.1 + 1, (0 : Int)) else (p.1, p.2 + 1)) p).1 ∧ 0 ≤ (x.foldl (fun p c => if c = 10 then (p.1 + 1, (0 : Int)) else (p.1, p.2 + 1)) p).2 ∧ (x.foldl (fun p c => if c = 10 then (p.1 + 1, (0 : Int)) else (p.1, p.2 + 1)) p).1 + (x.foldl (fun p c => if c = 10 then (p.1 + 1, (0 : Int)) else (p.1, p.2 + 1)) p).2 ≤ p.1 + p.2 + x.length by
    have := h x (0, 0) (by simp) (by simp)
    unfold lcL
    simpa using this
  intro x
  induction x with
  | nil => intro p h1 h2; simp; omega
  | cons c x ih =>
    intro p h1 h2
    rw [List.foldl_cons, List.length_cons]
    by_cases hc : c = 10
    · rw [if_pos hc]
      have := ih (p.1 + 1, 0) (by simp; omega) (by simp)
      simp only at this
      omega
    · rw [if_neg hc]
      have := ih (p.1, p.2 + 1) (by simp; omega) (by simp; omega)
      simp only at this
      omega
theorem lc_10 (s : ByteArray) (i : Int) (h0 : 0 ≤ i) (h1 : i < s.size) (h : bt s i = 10) : lcL (pre s (i + 1)) = ((lcL (pre s i)).1 + 1, 0) := by
  rw [pre_snoc s i h0 h1, lc_snoc, if_pos ((bt_10 s i).1 h)]
theorem lc_n (s : ByteArray) (i : Int) (h0 : 0 ≤ i) (h1 : i < s.size) (h : ¬ bt s i = 10) : lcL (pre s (i + 1)) = ((lcL (pre s i)).1, (lcL (pre s i)).2 + 1) := by
  rw [pre_snoc s i h0 h1, lc_snoc, if_neg (fun q => h ((bt_10 s i).2 q))]
/-- A place, moved by a text. -/
def mvP (a b : Int) (x : List UInt8) : Int × Int := if (lcL x).1 = 0 then (a, b + (lcL x).2) else (a + (lcL x).1, (lcL x).2 + 1)
abbrev plV (r : Int × Int) : Value := .complex .f64 (fl r.1) (fl r.2)
theorem ret_pl {a b : Int} {r : Int × Int} (h : r = (a, b)) : Ending.returned (.complex .f64 (fl a) (fl b)) = .returned (plV r) := by rw [h]
/-- An index's place. -/
def plc (x : List UInt8) : Int × Int := ((lcL x).1 + 1, (lcL x).2 + 1)
theorem mv_1 (x : List UInt8) : mvP 1 1 x = plc x := by
  unfold mvP plc
  split
  · rename_i h; rw [h]; refine Prod.ext ?_ ?_ <;> simp; omega
  · refine Prod.ext ?_ ?_ <;> simp; omega
def atR (s : ByteArray) (n : Int) : Int × Int × Int := if 0 ≤ n ∧ n ≤ s.size then ((plc (pre s n)).1, (plc (pre s n)).2, 0) else (0, 0, 11)
abbrev atV (r : Int × Int × Int) : Value := .tuple #[.complex .f64 (fl r.1) (fl r.2.1), .int .i64 r.2.2]
theorem ret_at {a b c : Int} {r : Int × Int × Int} (h : r = (a, b, c)) : Ending.returned (.tuple #[.complex .f64 (fl a) (fl b), .int .i64 c]) = .returned (atV r) := by rw [h]
theorem ret_at0 {c : Int} {r : Int × Int × Int} (h : r = (0, 0, c)) : Ending.returned (.tuple #[.complex .f64 0 0, .int .i64 c]) = .returned (atV r) := by rw [h]; unfold atV; rw [← fl_0]
theorem at_bd (s : ByteArray) (n : Int) (hs : s.size ≤ 1073741824) : 0 ≤ (atR s n).1 ∧ (atR s n).1 ≤ 1073741825 ∧ 0 ≤ (atR s n).2.1 ∧ (atR s n).2.1 ≤ 1073741825 := by
  unfold atR
  split
  · have := lc_bd (pre s n)
    have h2 : (pre s n).length ≤ s.size := by unfold pre; rw [List.length_take, dlen]; omega
    unfold plc; simp only; omega
  · simp
theorem mv_bd (a b : Int) (x : List UInt8) (ha : 0 ≤ a) (hb : 0 ≤ b) : 0 ≤ (mvP a b x).1 ∧ (mvP a b x).1 ≤ a + x.length ∧ 0 ≤ (mvP a b x).2 ∧ (mvP a b x).2 ≤ b + x.length + 1 := by
  have := lc_bd x
  unfold mvP
  split <;> simp only <;> omega
theorem ext_pre (s : ByteArray) (n : Int) (h0 : 0 ≤ n) (h1 : n ≤ s.size) : (s.extract 0 n.toNat).data.toList = pre s n := by
  rw [ByteArray.data_extract, Array.toList_extract, List.extract_eq_take_drop]
  unfold pre
  simp

theorem moved_any (a b : Int) (s : ByteArray) (R0 : Int × Int) (hs : s.size ≤ 1073741824) (ha : 0 ≤ a ∧ a ≤ 4294967296) (hb : 0 ≤ b ∧ b ≤ 4294967296) (hR : mvP a b s.data.toList = R0) (w : World) :
    Calls Tryd.prog 11 #[.complex .f64 (fl a) (fl b), .string s] w fun e w' => e = .returned (plV R0) ∧ Below w.heap.size w w' := by
  refine fn_intro Tryd.func11 rfl Tryd.ntmps11 rfl rfl ?_
  refine g_seq (g_ops ?_)
  refine g_val rfl rfl rfl (y_assign rfl) ?_
  refine g_nil (g_then ?_)
  refine g_scope (α := {x : Int × Int × Int // 0 ≤ x.1 ∧ x.1 ≤ s.size ∧ -1 ≤ x.2.2 ∧ x.2.2 < x.1 ∧ (x.2.1 = 0 → x.2.2 = -1) ∧ 0 ≤ x.2.1 ∧ lcL (pre s x.1) = (x.2.1, x.1 - 1 - x.2.2)}) (fun z => match z with | x => [(0, .complex .f64 (fl a) (fl b)), (1, .string s), (5, .int .i64 x.1.2.1), (6, .int .i64 x.1.2.2), (7, .int .i64 x.1.1)]) (fun z => match z with | x => St w [] []) (fun z => match z with | x => 0) (fun z => match z with | x => s.size - x.1.1.toNat) ?_ ?_
  · skip
    refine g_seq (g_ops ?_)
    refine g_val rfl rfl rfl (y_assign rfl) ?_
    refine g_val rfl rfl rfl (y_assign rfl) ?_
    refine g_nil (g_then (g_seq (g_ops ?_)))
    refine g_val rfl rfl rfl (y_assign rfl) ?_
    refine g_nil (g_then (g_seq (g_label ?_)))
    have hc0 : lcL (pre s 0) = (0, 0 - 1 - (-1)) := by rw [pre_0]; rfl
    refine g_then (g_seq (g_seq (g_ops ?_)))
    refine g_val rfl rfl rfl (y_move rfl) ?_
    refine g_val rfl rfl rfl (y_move rfl) ?_
    refine g_val rfl rfl rfl (y_slen rfl Tryd.underlying9) ?_
    refine g_val rfl rfl rfl (y_ilt rfl rfl) ?_
    refine g_nil (g_then ?_)
    first | refine g_casep 11 rfl (fun h1 => ?_) (fun h1 => ?_) | refine g_caseb 11 rfl (fun h1 => ?_) (fun h1 => ?_)
    · skip
      refine g_cond_t rfl (g_seq (g_seq (g_ops ?_)))
      refine g_val rfl rfl rfl (y_move rfl) ?_
      refine g_val rfl rfl rfl (y_move rfl) ?_
      refine g_val rfl rfl rfl (y_sat rfl rfl Tryd.underlying9 (by omega) (by omega)) ?_
      refine g_val rfl rfl rfl (y_ieq rfl rfl) ?_
      refine g_nil (g_then ?_)
      first | refine g_casep 15 rfl (fun h2 => ?_) (fun h2 => ?_) | refine g_caseb 15 rfl (fun h2 => ?_) (fun h2 => ?_)
      · skip
        refine g_cond_t rfl (g_ops ?_)
        refine g_val rfl rfl rfl (y_move rfl) ?_
        refine g_val rfl rfl rfl (by first | exact y_addi rfl rfl (by first | omega | (simp only [size_mk, ByteArray.size_append, ByteArray.size_extract]; omega)) | exact y_iadd rfl rfl) ?_
        refine g_val rfl rfl rfl (y_move rfl) ?_
        refine g_val rfl rfl rfl (y_assign rfl) ?_
        refine g_val rfl rfl rfl (y_assign rfl) ?_
        refine g_nil (g_then (g_seq (g_ops ?_)))
        refine g_val rfl rfl rfl (y_move rfl) ?_
        refine g_val rfl rfl rfl (by first | exact y_addi rfl rfl (by first | omega | (simp only [size_mk, ByteArray.size_append, ByteArray.size_extract]; omega)) | exact y_iadd rfl rfl) ?_
        refine g_val rfl rfl rfl (y_assign rfl) ?_
        refine g_nil (g_then (g_goto (g_then_goto ?_)))
        exact g_jump ⟨(0 + 1, _, _), by dsimp only; omega, by dsimp only; omega, by dsimp only; omega, by dsimp only; omega, by dsimp only; omega, by dsimp only; omega, by dsimp only; first | (rw [lc_10 s 0 (by omega) (by omega) (by omega), hc0]; refine Prod.ext rfl ?_; show (0 : Int) = _; omega) | (rw [lc_n s 0 (by omega) (by omega) (by omega), hc0]; refine Prod.ext rfl ?_; show 0 - 1 - (-1) + 1 = _; omega)⟩ [0, 1, 5, 6, 7] rfl (fun j hj => by cases hj) rfl (fun w h => h.sub .slnil)
      · skip
        refine g_cond_f rfl (g_skip (g_then (g_seq (g_ops ?_))))
        refine g_val rfl rfl rfl (y_move rfl) ?_
        refine g_val rfl rfl rfl (by first | exact y_addi rfl rfl (by first | omega | (simp only [size_mk, ByteArray.size_append, ByteArray.size_extract]; omega)) | exact y_iadd rfl rfl) ?_
        refine g_val rfl rfl rfl (y_assign rfl) ?_
        refine g_nil (g_then (g_goto (g_then_goto ?_)))
        exact g_jump ⟨(0 + 1, _, _), by dsimp only; omega, by dsimp only; omega, by dsimp only; omega, by dsimp only; omega, by dsimp only; omega, by dsimp only; omega, by dsimp only; first | (rw [lc_10 s 0 (by omega) (by omega) (by omega), hc0]; refine Prod.ext rfl ?_; show (0 : Int) = _; omega) | (rw [lc_n s 0 (by omega) (by omega) (by omega), hc0]; refine Prod.ext rfl ?_; show 0 - 1 - (-1) + 1 = _; omega)⟩ [0, 1, 5, 6, 7] rfl (fun j hj => by cases hj) rfl (fun w h => h.sub .slnil)
    · skip
      refine g_cond_f rfl (g_skip (g_then (g_seq (g_seq (g_ops ?_)))))
      refine g_val rfl rfl rfl (y_move rfl) ?_
      refine g_val rfl rfl rfl (y_lit true (y_ieq rfl rfl) (by decide)) ?_
      refine g_nil (g_then (g_cond_t rfl (g_seq (g_ops ?_))))
      refine g_val rfl rfl rfl (y_move rfl) ?_
      refine g_val rfl rfl rfl (y_real rfl) ?_
      refine g_val rfl rfl rfl (y_move rfl) ?_
      refine g_val rfl rfl rfl (y_imag rfl) ?_
      refine g_val rfl rfl rfl (y_move rfl) ?_
      refine g_val rfl rfl rfl (y_slen rfl Tryd.underlying9) ?_
      refine g_val rfl rfl rfl (y_toF rfl Tryd.underlying3 Tryd.underlying29) ?_
      refine g_val rfl rfl rfl (y_fadd rfl rfl (fl_add (by omega) (by omega) (by omega))) ?_
      refine g_val rfl rfl rfl (y_cplx rfl rfl) ?_
      refine g_val rfl rfl rfl (y_assign rfl) ?_
      refine g_nil (g_then (g_ret (g_then_ret (g_jumps_ret ?_))))
      refine g_end1 Tryd.results11 rfl ?_
      exact fun w hS => ⟨ret_pl (by rw [← hR, ← pre_all s 0 (by omega), mvP, hc0]; dsimp only; first | (rw [if_pos (by omega)]; refine Prod.ext rfl ?_; show b + _ = b + _; omega) | (rw [if_neg (by omega)]; refine Prod.ext rfl ?_; show 0 - 1 - (-1) + 1 = _; omega)), hS.below⟩
  · rintro (x)
    · refine ⟨_, rfl, ?_⟩
      dsimp only
      obtain ⟨⟨i, n, k⟩, hx⟩ := x
      dsimp only at hx ⊢
      obtain ⟨hi0, hi1, hk0, hk1, hkn, hn0, hc⟩ := hx
      have hbd := lc_bd (pre s i)
      rw [hc] at hbd
      dsimp only at hbd
      have hpl : (pre s i).length ≤ s.size := by unfold pre; rw [List.length_take, dlen]; omega
      refine g_seq (g_skip (g_then (g_seq (g_seq (g_ops ?_)))))
      refine g_val rfl rfl rfl (y_move rfl) ?_
      refine g_val rfl rfl rfl (y_move rfl) ?_
      refine g_val rfl rfl rfl (y_slen rfl Tryd.underlying9) ?_
      refine g_val rfl rfl rfl (y_ilt rfl rfl) ?_
      refine g_nil (g_then ?_)
      first | refine g_casep 11 rfl (fun h3 => ?_) (fun h3 => ?_) | refine g_caseb 11 rfl (fun h3 => ?_) (fun h3 => ?_)
      · skip
        refine g_cond_t rfl (g_seq (g_seq (g_ops ?_)))
        refine g_val rfl rfl rfl (y_move rfl) ?_
        refine g_val rfl rfl rfl (y_move rfl) ?_
        refine g_val rfl rfl rfl (y_sat rfl rfl Tryd.underlying9 (by omega) (by omega)) ?_
        refine g_val rfl rfl rfl (y_ieq rfl rfl) ?_
        refine g_nil (g_then ?_)
        first | refine g_casep 15 rfl (fun h4 => ?_) (fun h4 => ?_) | refine g_caseb 15 rfl (fun h4 => ?_) (fun h4 => ?_)
        · skip
          refine g_cond_t rfl (g_ops ?_)
          refine g_val rfl rfl rfl (y_move rfl) ?_
          refine g_val rfl rfl rfl (by first | exact y_addi rfl rfl (by first | omega | (simp only [size_mk, ByteArray.size_append, ByteArray.size_extract]; omega)) | exact y_iadd rfl rfl) ?_
          refine g_val rfl rfl rfl (y_move rfl) ?_
          refine g_val rfl rfl rfl (y_assign rfl) ?_
          refine g_val rfl rfl rfl (y_assign rfl) ?_
          refine g_nil (g_then (g_seq (g_ops ?_)))
          refine g_val rfl rfl rfl (y_move rfl) ?_
          refine g_val rfl rfl rfl (by first | exact y_addi rfl rfl (by first | omega | (simp only [size_mk, ByteArray.size_append, ByteArray.size_extract]; omega)) | exact y_iadd rfl rfl) ?_
          refine g_val rfl rfl rfl (y_assign rfl) ?_
          refine g_nil (g_then (g_goto (g_then_goto ?_)))
          exact g_jump ⟨(i + 1, _, _), by dsimp only; omega, by dsimp only; omega, by dsimp only; omega, by dsimp only; omega, by dsimp only; omega, by dsimp only; omega, by dsimp only; first | (rw [lc_10 s i (by omega) (by omega) (by omega), hc]; refine Prod.ext rfl ?_; show (0 : Int) = _; omega) | (rw [lc_n s i (by omega) (by omega) (by omega), hc]; refine Prod.ext rfl ?_; show i - 1 - k + 1 = _; omega)⟩ [0, 1, 5, 6, 7] rfl (fun j hj => by cases hj; dsimp only; omega) rfl (fun w h => h.sub .slnil)
        · skip
          refine g_cond_f rfl (g_skip (g_then (g_seq (g_ops ?_))))
          refine g_val rfl rfl rfl (y_move rfl) ?_
          refine g_val rfl rfl rfl (by first | exact y_addi rfl rfl (by first | omega | (simp only [size_mk, ByteArray.size_append, ByteArray.size_extract]; omega)) | exact y_iadd rfl rfl) ?_
          refine g_val rfl rfl rfl (y_assign rfl) ?_
          refine g_nil (g_then (g_goto (g_then_goto ?_)))
          exact g_jump ⟨(i + 1, _, _), by dsimp only; omega, by dsimp only; omega, by dsimp only; omega, by dsimp only; omega, by dsimp only; omega, by dsimp only; omega, by dsimp only; first | (rw [lc_10 s i (by omega) (by omega) (by omega), hc]; refine Prod.ext rfl ?_; show (0 : Int) = _; omega) | (rw [lc_n s i (by omega) (by omega) (by omega), hc]; refine Prod.ext rfl ?_; show i - 1 - k + 1 = _; omega)⟩ [0, 1, 5, 6, 7] rfl (fun j hj => by cases hj; dsimp only; omega) rfl (fun w h => h.sub .slnil)
      · skip
        refine g_cond_f rfl (g_skip (g_then (g_seq (g_seq (g_ops ?_)))))
        refine g_val rfl rfl rfl (y_move rfl) ?_
        refine g_val rfl rfl rfl (y_ieq rfl rfl) ?_
        refine g_nil (g_then ?_)
        first | refine g_casep 22 rfl (fun h5 => ?_) (fun h5 => ?_) | refine g_caseb 22 rfl (fun h5 => ?_) (fun h5 => ?_)
        · skip
          refine g_cond_t rfl (g_seq (g_ops ?_))
          refine g_val rfl rfl rfl (y_move rfl) ?_
          refine g_val rfl rfl rfl (y_real rfl) ?_
          refine g_val rfl rfl rfl (y_move rfl) ?_
          refine g_val rfl rfl rfl (y_imag rfl) ?_
          refine g_val rfl rfl rfl (y_move rfl) ?_
          refine g_val rfl rfl rfl (y_slen rfl Tryd.underlying9) ?_
          refine g_val rfl rfl rfl (y_toF rfl Tryd.underlying3 Tryd.underlying29) ?_
          refine g_val rfl rfl rfl (y_fadd rfl rfl (fl_add (by omega) (by omega) (by omega))) ?_
          refine g_val rfl rfl rfl (y_cplx rfl rfl) ?_
          refine g_val rfl rfl rfl (y_assign rfl) ?_
          refine g_nil (g_then (g_ret (g_then_ret (g_jumps_ret ?_))))
          refine g_end1 Tryd.results11 rfl ?_
          exact fun w hS => ⟨ret_pl (by rw [← hR, ← pre_all s i (by omega), mvP, hc]; dsimp only; first | (rw [if_pos (by omega)]; refine Prod.ext rfl ?_; show b + _ = b + _; omega) | (rw [if_neg (by omega)]; refine Prod.ext rfl ?_; show i - 1 - k + 1 = _; omega)), hS.below⟩
        · skip
          refine g_cond_f rfl (g_skip (g_then (g_seq (g_ops ?_))))
          refine g_val rfl rfl rfl (y_move rfl) ?_
          refine g_val rfl rfl rfl (y_real rfl) ?_
          refine g_val rfl rfl rfl (y_move rfl) ?_
          refine g_val rfl rfl rfl (y_toF rfl Tryd.underlying3 Tryd.underlying29) ?_
          refine g_val rfl rfl rfl (y_fadd rfl rfl (fl_add (by omega) (by omega) (by omega))) ?_
          refine g_val rfl rfl rfl (y_move rfl) ?_
          refine g_val rfl rfl rfl (y_slen rfl Tryd.underlying9) ?_
          refine g_val rfl rfl rfl (y_move rfl) ?_
          refine g_val rfl rfl rfl (by first | exact y_subi rfl rfl (by first | omega | (simp only [size_mk, ByteArray.size_append, ByteArray.size_extract]; omega)) | exact y_isub rfl rfl) ?_
          refine g_val rfl rfl rfl (y_toF rfl Tryd.underlying3 Tryd.underlying29) ?_
          refine g_val rfl rfl rfl (y_cplx rfl rfl) ?_
          refine g_val rfl rfl rfl (y_assign rfl) ?_
          refine g_nil (g_then (g_ret (g_jumps_ret ?_)))
          refine g_end1 Tryd.results11 rfl ?_
          exact fun w hS => ⟨ret_pl (by rw [← hR, ← pre_all s i (by omega), mvP, hc]; dsimp only; first | (rw [if_pos (by omega)]; refine Prod.ext rfl ?_; show b + _ = b + _; omega) | (rw [if_neg (by omega)]; refine Prod.ext rfl ?_; show i - 1 - k + 1 = _; omega)), hS.below⟩

end Go.Proofs.YthikabfmgmbbcaaDoor
