/- The document's answer: closed, opens, label, Deep. -/
import Derived.Test.YtpacnggomjepdaaPrk
namespace Go.Proofs.Ytpacnggomjepdaa
open Go Go.RowKit

def clF (cs : Nat → Cm) : Nat → Nat → Int → Int
  | 0, _, _ => -1
  | f + 1, k, o => if (cs k).nm = 123 then clF cs f (k + 1) (o + 1) else if (cs k).nm = 125 then (if o = 0 then (k : Int) else clF cs f (k + 1) (o - 1)) else clF cs f (k + 1) o
theorem clF_step (cs : Nat → Cm) (n k : Nat) (o : Int) (h : k < n) : clF cs (n - k) k o = if (cs k).nm = 123 then clF cs (n - (k + 1)) (k + 1) (o + 1) else if (cs k).nm = 125 then (if o = 0 then (k : Int) else clF cs (n - (k + 1)) (k + 1) (o - 1)) else clF cs (n - (k + 1)) (k + 1) o := by
  rw [show n - k = (n - (k + 1)) + 1 by omega]; rfl
def closR (cs : Nat → Cm) (n i : Nat) : Int := clF cs (n - (i + 1)) (i + 1) 0
def opS (nm o : Int) : Int := if nm = 123 then o + 1 else if nm = 125 then o - 1 else o
def opI (cs : Nat → Cm) : Nat → Option Int
  | 0 => some 0
  | k + 1 => match opI cs k with
    | none => none
    | some o => if opS (cs k).nm o < 0 then none else some (opS (cs k).nm o)
theorem opI_on {cs : Nat → Cm} {k : Nat} {o : Int} (h : opI cs k = some o) (h0 : 0 ≤ opS (cs k).nm o) : opI cs (k + 1) = some (opS (cs k).nm o) := by
  show (match opI cs k with | none => none | some o => _) = _
  rw [h]; dsimp only; rw [if_neg (by omega)]
theorem opI_off {cs : Nat → Cm} {k : Nat} {o : Int} (h : opI cs k = some o) (h0 : opS (cs k).nm o < 0) : opI cs (k + 1) = none := by
  show (match opI cs k with | none => none | some o => _) = _
  rw [h]; dsimp only; rw [if_pos h0]
theorem opI_none {cs : Nat → Cm} {i : Nat} (h : opI cs i = none) : ∀ d, opI cs (i + d) = none := fun d => by
  induction d with
  | zero => exact h
  | succ d ih => show (match opI cs (i + d) with | none => none | some o => _) = _; rw [ih]
def opR (cs : Nat → Cm) (i : Nat) : Int := (opI cs i).getD (-1)
theorem opR_some {cs : Nat → Cm} {i : Nat} {o : Int} (h : opI cs i = some o) : o = opR cs i := by unfold opR; rw [h]; rfl
theorem opR_none {cs : Nat → Cm} {k i : Nat} (h : opI cs k = none) (hk : k ≤ i) : -1 = opR cs i := by
  have := opI_none h (i - k)
  rw [show k + (i - k) = i by omega] at this
  unfold opR; rw [this]; rfl
def laF (cs : Nat → Cm) (s : ByteArray) : Nat → Nat → Int
  | 0, _ => -1
  | f + 1, k => if (cs k).nm = 58 ∧ (cs k).tx = s then (k : Int) else laF cs s f (k + 1)
theorem laF_step (cs : Nat → Cm) (s : ByteArray) (n k : Nat) (h : k < n) : laF cs s (n - k) k = if (cs k).nm = 58 ∧ (cs k).tx = s then (k : Int) else laF cs s (n - (k + 1)) (k + 1) := by
  rw [show n - k = (n - (k + 1)) + 1 by omega]; rfl
def labF (cs : Nat → Cm) (n : Nat) (s : ByteArray) : Int := laF cs s n 0

set_option maxRecDepth 100000 in
theorem closed_any (p : Option Addr) (n c : Nat) (cs : Nat → Cm) (w : World) (hn : n ≤ 1000) (hrd : RdSl w p n 42 (cmF cs)) (i0 : Nat) (hi0 : i0 < n) :
    Calls Try.prog 21 #[.slice p n c, .int .i64 (i0 : Int)] w fun e w' => e = .returned (.int .i64 (closR cs n i0)) ∧ Below w.heap.size w w' := by
  refine fn_intro Try.func21 rfl Try.ntmps21 rfl rfl ?_
  refine g_seq (g_ops ?_)
  refine g_val rfl rfl rfl (y_assign rfl) ?_
  refine g_nil (g_then (g_seq (g_ops ?_)))
  refine g_val rfl rfl rfl (y_assign rfl) ?_
  refine g_nil (g_then (g_seq (g_seq (g_ops ?_))))
  refine g_val rfl rfl rfl (y_move rfl) ?_
  refine g_val rfl rfl rfl (by first | exact y_addi rfl rfl (by first | omega | (simp only [size_mk, ByteArray.size_append, ByteArray.size_extract]; omega)) | exact y_iadd rfl rfl) ?_
  refine g_val rfl rfl rfl (y_assign rfl) ?_
  refine g_nil (g_then (g_block ?_))
  refine g_loop (α := {x : Int × Int // 0 ≤ x.1 ∧ x.1 ≤ n ∧ 0 ≤ x.2 ∧ x.2 ≤ x.1 ∧ clF cs (n - x.1.toNat) x.1.toNat x.2 = closR cs n i0}) (fun x => [(0, .slice p n c), (5, .int .i64 x.1.2), (6, .int .i64 x.1.1)]) (fun x => St w [] []) (fun x => n - x.1.1.toNat) ⟨((i0 : Int) + 1, 0), by dsimp only; omega, by dsimp only; omega, by dsimp only; omega, by dsimp only; omega, rfl⟩ [0, 5, 6] rfl (fun w h => h.sub .slnil) ?_
  rintro ⟨⟨k, o⟩, hx⟩
  dsimp only
  dsimp only at hx
  obtain ⟨hk0, hk1, ho0, ho1, hR⟩ := hx
  refine g_seq (g_seq (g_ops ?_))
  refine g_val rfl rfl rfl (y_move rfl) ?_
  refine g_val rfl rfl rfl (y_move rfl) ?_
  refine g_val rfl rfl rfl (y_llen rfl Try.underlying23) ?_
  refine g_val rfl rfl rfl (y_ilt rfl rfl) ?_
  refine g_nil (g_then ?_)
  first | refine g_casep 12 rfl (fun h1 => ?_) (fun h1 => ?_) | refine g_caseb 12 rfl (fun h1 => ?_) (fun h1 => ?_)
  · skip
    refine g_cond_t rfl (g_skip (g_then (g_seq (g_block (g_seq (g_seq (g_ops ?_)))))))
    refine g_val rfl rfl rfl (y_move rfl) ?_
    refine g_val rfl rfl rfl (y_move rfl) ?_
    refine g_val rfl rfl rfl (y_rdAddr hrd rfl rfl Try.underlying23 Try.sizeOf45 (by omega) (by omega)) ?_
    refine g_val rfl rfl rfl (y_fieldAt (k := 1) rfl (by kernel_rfl) rfl) ?_
    refine g_val rfl rfl rfl (y_rdField (i := k) (j := 1) hrd rfl rfl Try.isAgg5 (by omega) (by omega) (by decide)) ?_
    refine g_val rfl rfl rfl (y_ieq rfl rfl) ?_
    refine g_nil (g_then ?_)
    first | refine g_casep 20 rfl (fun h2 => ?_) (fun h2 => ?_) | refine g_caseb 20 rfl (fun h2 => ?_) (fun h2 => ?_)
    · skip
      refine g_cond_t rfl (g_ops ?_)
      refine g_val rfl rfl rfl (y_move rfl) ?_
      refine g_val rfl rfl rfl (by first | exact y_addi rfl rfl (by first | omega | (simp only [size_mk, ByteArray.size_append, ByteArray.size_extract]; omega)) | exact y_iadd rfl rfl) ?_
      refine g_val rfl rfl rfl (y_assign rfl) ?_
      refine g_nil (g_then (g_seq (g_ops ?_)))
      refine g_val rfl rfl rfl (y_move rfl) ?_
      refine g_val rfl rfl rfl (y_move rfl) ?_
      refine g_val rfl rfl rfl (y_rdAddr hrd rfl rfl Try.underlying23 Try.sizeOf45 (by omega) (by omega)) ?_
      refine g_val rfl rfl rfl (y_fieldAt (k := 1) rfl (by kernel_rfl) rfl) ?_
      refine g_val rfl rfl rfl (y_rdField (i := k) (j := 1) hrd rfl rfl Try.isAgg5 (by omega) (by omega) (by decide)) ?_
      refine g_val rfl rfl rfl (y_lit false (y_ieq rfl rfl) (decide_eq_false (by omega))) ?_
      refine g_nil (g_then (g_cond_f rfl (g_skip (g_in_normal (g_then (g_ops ?_))))))
      refine g_val rfl rfl rfl (y_move rfl) ?_
      refine g_val rfl rfl rfl (by first | exact y_addi rfl rfl (by first | omega | (simp only [size_mk, ByteArray.size_append, ByteArray.size_extract]; omega)) | exact y_iadd rfl rfl) ?_
      refine g_val rfl rfl rfl (y_assign rfl) ?_
      refine g_nil ?_
      exact g_again ⟨(k + 1, o + 1), by dsimp only; omega, by dsimp only; omega, by dsimp only; omega, by dsimp only; omega, by dsimp only; rw [show (k + 1).toNat = k.toNat + 1 by omega]; rw [clF_step cs n k.toNat o (by omega), if_pos (by omega)] at hR; exact hR⟩ [0, 5, 6] (by dsimp only; omega) rfl (fun w h => h.sub .slnil)
    · skip
      refine g_cond_f rfl (g_skip (g_then (g_seq (g_ops ?_))))
      refine g_val rfl rfl rfl (y_move rfl) ?_
      refine g_val rfl rfl rfl (y_move rfl) ?_
      refine g_val rfl rfl rfl (y_rdAddr hrd rfl rfl Try.underlying23 Try.sizeOf45 (by omega) (by omega)) ?_
      refine g_val rfl rfl rfl (y_fieldAt (k := 1) rfl (by kernel_rfl) rfl) ?_
      refine g_val rfl rfl rfl (y_rdField (i := k) (j := 1) hrd rfl rfl Try.isAgg5 (by omega) (by omega) (by decide)) ?_
      refine g_val rfl rfl rfl (y_ieq rfl rfl) ?_
      refine g_nil (g_then ?_)
      first | refine g_casep 28 rfl (fun h3 => ?_) (fun h3 => ?_) | refine g_caseb 28 rfl (fun h3 => ?_) (fun h3 => ?_)
      · skip
        refine g_cond_t rfl (g_seq (g_seq (g_ops ?_)))
        refine g_val rfl rfl rfl (y_move rfl) ?_
        refine g_val rfl rfl rfl (y_ieq rfl rfl) ?_
        refine g_nil (g_then ?_)
        first | refine g_casep 30 rfl (fun h4 => ?_) (fun h4 => ?_) | refine g_caseb 30 rfl (fun h4 => ?_) (fun h4 => ?_)
        · skip
          refine g_cond_t rfl (g_seq (g_ops ?_))
          refine g_val rfl rfl rfl (y_move rfl) ?_
          refine g_val rfl rfl rfl (y_assign rfl) ?_
          refine g_nil (g_then (g_ret (g_then_ret (g_in_ret (g_then_ret (g_then_ret (g_in_ret (g_then_ret ?_))))))))
          refine g_end1 Try.results21 rfl ?_
          rw [clF_step cs n k.toNat o (by omega), if_neg (by omega), if_pos (by omega), if_pos (by omega)] at hR
          exact fun w hS => ⟨ret_int (by omega), hS.below⟩
        · skip
          refine g_cond_f rfl (g_skip (g_then (g_ops ?_)))
          refine g_val rfl rfl rfl (y_move rfl) ?_
          refine g_val rfl rfl rfl (by first | exact y_subi rfl rfl (by first | omega | (simp only [size_mk, ByteArray.size_append, ByteArray.size_extract]; omega)) | exact y_isub rfl rfl) ?_
          refine g_val rfl rfl rfl (y_assign rfl) ?_
          refine g_nil (g_in_normal (g_then (g_ops ?_)))
          refine g_val rfl rfl rfl (y_move rfl) ?_
          refine g_val rfl rfl rfl (by first | exact y_addi rfl rfl (by first | omega | (simp only [size_mk, ByteArray.size_append, ByteArray.size_extract]; omega)) | exact y_iadd rfl rfl) ?_
          refine g_val rfl rfl rfl (y_assign rfl) ?_
          refine g_nil ?_
          exact g_again ⟨(k + 1, o - 1), by dsimp only; omega, by dsimp only; omega, by dsimp only; omega, by dsimp only; omega, by dsimp only; rw [show (k + 1).toNat = k.toNat + 1 by omega]; rw [clF_step cs n k.toNat o (by omega), if_neg (by omega), if_pos (by omega), if_neg (by omega)] at hR; exact hR⟩ [0, 5, 6] (by dsimp only; omega) rfl (fun w h => h.sub .slnil)
      · skip
        refine g_cond_f rfl (g_skip (g_in_normal (g_then (g_ops ?_))))
        refine g_val rfl rfl rfl (y_move rfl) ?_
        refine g_val rfl rfl rfl (by first | exact y_addi rfl rfl (by first | omega | (simp only [size_mk, ByteArray.size_append, ByteArray.size_extract]; omega)) | exact y_iadd rfl rfl) ?_
        refine g_val rfl rfl rfl (y_assign rfl) ?_
        refine g_nil ?_
        exact g_again ⟨(k + 1, o), by dsimp only; omega, by dsimp only; omega, by dsimp only; omega, by dsimp only; omega, by dsimp only; rw [show (k + 1).toNat = k.toNat + 1 by omega]; rw [clF_step cs n k.toNat o (by omega), if_neg (by omega), if_neg (by omega)] at hR; exact hR⟩ [0, 5, 6] (by dsimp only; omega) rfl (fun w h => h.sub .slnil)
  · skip
    refine g_cond_f rfl (g_exit (g_then_exit (g_then_exit (g_in_exit (g_then (g_seq (g_ops ?_)))))))
    refine g_val rfl rfl rfl (y_assign rfl) ?_
    refine g_nil (g_then (g_ret ?_))
    refine g_end1 Try.results21 rfl ?_
    rw [show n - k.toNat = 0 by omega] at hR
    exact fun w hS => ⟨ret_int (show -1 = closR cs n i0 from hR), hS.below⟩

set_option maxRecDepth 100000 in
theorem opens_any (p : Option Addr) (n c : Nat) (cs : Nat → Cm) (w : World) (hn : n ≤ 1000) (hrd : RdSl w p n 42 (cmF cs)) (i0 : Nat) (hi0 : i0 ≤ n) :
    Calls Try.prog 27 #[.slice p n c, .int .i64 (i0 : Int)] w fun e w' => e = .returned (.int .i64 (opR cs i0)) ∧ Below w.heap.size w w' := by
  refine fn_intro Try.func27 rfl Try.ntmps27 rfl rfl ?_
  refine g_seq (g_ops ?_)
  refine g_val rfl rfl rfl (y_assign rfl) ?_
  refine g_nil (g_then (g_seq (g_ops ?_)))
  refine g_val rfl rfl rfl (y_assign rfl) ?_
  refine g_nil (g_then (g_seq (g_seq (g_ops ?_))))
  refine g_val rfl rfl rfl (y_assign rfl) ?_
  refine g_nil (g_then (g_block ?_))
  refine g_loop (α := {x : Int × Int // 0 ≤ x.1 ∧ x.1 ≤ i0 ∧ 0 ≤ x.2 ∧ x.2 ≤ x.1 ∧ opI cs x.1.toNat = some x.2}) (fun x => [(0, .slice p n c), (1, .int .i64 (i0 : Int)), (5, .int .i64 x.1.2), (6, .int .i64 x.1.1)]) (fun x => St w [] []) (fun x => i0 - x.1.1.toNat) ⟨(0, 0), by dsimp only; omega, by dsimp only; omega, by dsimp only; omega, by dsimp only; omega, rfl⟩ [0, 1, 5, 6] rfl (fun w h => h.sub .slnil) ?_
  rintro ⟨⟨k, o⟩, hx⟩
  dsimp only
  dsimp only at hx
  obtain ⟨hk0, hk1, ho0, ho1, hR⟩ := hx
  refine g_seq (g_seq (g_ops ?_))
  refine g_val rfl rfl rfl (y_move rfl) ?_
  refine g_val rfl rfl rfl (y_move rfl) ?_
  refine g_val rfl rfl rfl (y_ilt rfl rfl) ?_
  refine g_nil (g_then ?_)
  first | refine g_casep 9 rfl (fun h1 => ?_) (fun h1 => ?_) | refine g_caseb 9 rfl (fun h1 => ?_) (fun h1 => ?_)
  · skip
    refine g_cond_t rfl (g_skip (g_then (g_seq (g_block (g_seq (g_seq (g_ops ?_)))))))
    refine g_val rfl rfl rfl (y_move rfl) ?_
    refine g_val rfl rfl rfl (y_move rfl) ?_
    refine g_val rfl rfl rfl (y_rdAddr hrd rfl rfl Try.underlying23 Try.sizeOf45 (by omega) (by omega)) ?_
    refine g_val rfl rfl rfl (y_fieldAt (k := 1) rfl (by kernel_rfl) rfl) ?_
    refine g_val rfl rfl rfl (y_rdField (i := k) (j := 1) hrd rfl rfl Try.isAgg5 (by omega) (by omega) (by decide)) ?_
    refine g_val rfl rfl rfl (y_ieq rfl rfl) ?_
    refine g_nil (g_then ?_)
    first | refine g_casep 17 rfl (fun h2 => ?_) (fun h2 => ?_) | refine g_caseb 17 rfl (fun h2 => ?_) (fun h2 => ?_)
    · skip
      refine g_cond_t rfl (g_ops ?_)
      refine g_val rfl rfl rfl (y_move rfl) ?_
      refine g_val rfl rfl rfl (by first | exact y_addi rfl rfl (by first | omega | (simp only [size_mk, ByteArray.size_append, ByteArray.size_extract]; omega)) | exact y_iadd rfl rfl) ?_
      refine g_val rfl rfl rfl (y_assign rfl) ?_
      refine g_nil (g_then (g_seq (g_seq (g_ops ?_))))
      refine g_val rfl rfl rfl (y_move rfl) ?_
      refine g_val rfl rfl rfl (y_move rfl) ?_
      refine g_val rfl rfl rfl (y_rdAddr hrd rfl rfl Try.underlying23 Try.sizeOf45 (by omega) (by omega)) ?_
      refine g_val rfl rfl rfl (y_fieldAt (k := 1) rfl (by kernel_rfl) rfl) ?_
      refine g_val rfl rfl rfl (y_rdField (i := k) (j := 1) hrd rfl rfl Try.isAgg5 (by omega) (by omega) (by decide)) ?_
      refine g_val rfl rfl rfl (y_lit false (y_ieq rfl rfl) (decide_eq_false (by omega))) ?_
      refine g_nil (g_then (g_cond_f rfl (g_skip (g_then (g_seq (g_ops ?_))))))
      refine g_val rfl rfl rfl (y_move rfl) ?_
      refine g_val rfl rfl rfl (y_lit false (y_ilt rfl rfl) (decide_eq_false (by omega))) ?_
      refine g_nil (g_then (g_cond_f rfl (g_skip (g_in_normal (g_then (g_ops ?_))))))
      refine g_val rfl rfl rfl (y_move rfl) ?_
      refine g_val rfl rfl rfl (by first | exact y_addi rfl rfl (by first | omega | (simp only [size_mk, ByteArray.size_append, ByteArray.size_extract]; omega)) | exact y_iadd rfl rfl) ?_
      refine g_val rfl rfl rfl (y_assign rfl) ?_
      refine g_nil ?_
      exact g_again ⟨(k + 1, o + 1), by dsimp only; omega, by dsimp only; omega, by dsimp only; omega, by dsimp only; omega, by dsimp only; rw [show (k + 1).toNat = k.toNat + 1 by omega]; have hs : opS (cs k.toNat).nm o = o + 1 := (by unfold opS; rw [if_pos (by omega)]); have := opI_on hR (by omega); rw [hs] at this; exact this⟩ [0, 1, 5, 6] (by dsimp only; omega) rfl (fun w h => h.sub .slnil)
    · skip
      refine g_cond_f rfl (g_skip (g_then (g_seq (g_seq (g_ops ?_)))))
      refine g_val rfl rfl rfl (y_move rfl) ?_
      refine g_val rfl rfl rfl (y_move rfl) ?_
      refine g_val rfl rfl rfl (y_rdAddr hrd rfl rfl Try.underlying23 Try.sizeOf45 (by omega) (by omega)) ?_
      refine g_val rfl rfl rfl (y_fieldAt (k := 1) rfl (by kernel_rfl) rfl) ?_
      refine g_val rfl rfl rfl (y_rdField (i := k) (j := 1) hrd rfl rfl Try.isAgg5 (by omega) (by omega) (by decide)) ?_
      refine g_val rfl rfl rfl (y_ieq rfl rfl) ?_
      refine g_nil (g_then ?_)
      first | refine g_casep 25 rfl (fun h3 => ?_) (fun h3 => ?_) | refine g_caseb 25 rfl (fun h3 => ?_) (fun h3 => ?_)
      · skip
        refine g_cond_t rfl (g_ops ?_)
        refine g_val rfl rfl rfl (y_move rfl) ?_
        refine g_val rfl rfl rfl (by first | exact y_subi rfl rfl (by first | omega | (simp only [size_mk, ByteArray.size_append, ByteArray.size_extract]; omega)) | exact y_isub rfl rfl) ?_
        refine g_val rfl rfl rfl (y_assign rfl) ?_
        refine g_nil (g_then (g_seq (g_ops ?_)))
        refine g_val rfl rfl rfl (y_move rfl) ?_
        refine g_val rfl rfl rfl (y_ilt rfl rfl) ?_
        refine g_nil (g_then ?_)
        first | refine g_casep 29 rfl (fun h4 => ?_) (fun h4 => ?_) | refine g_caseb 29 rfl (fun h4 => ?_) (fun h4 => ?_)
        · skip
          refine g_cond_t rfl (g_seq (g_ops ?_))
          refine g_val rfl rfl rfl (y_assign rfl) ?_
          refine g_nil (g_then (g_ret (g_in_ret (g_then_ret (g_then_ret (g_in_ret (g_then_ret ?_)))))))
          refine g_end1 Try.results27 rfl ?_
          have hs : opS (cs k.toNat).nm o = o - 1 := by unfold opS; rw [if_neg (by omega), if_pos (by omega)]
          have hq := opR_none (i := i0) (opI_off hR (by omega)) (by omega)
          exact fun w hS => ⟨ret_int hq, hS.below⟩
        · skip
          refine g_cond_f rfl (g_skip (g_in_normal (g_then (g_ops ?_))))
          refine g_val rfl rfl rfl (y_move rfl) ?_
          refine g_val rfl rfl rfl (by first | exact y_addi rfl rfl (by first | omega | (simp only [size_mk, ByteArray.size_append, ByteArray.size_extract]; omega)) | exact y_iadd rfl rfl) ?_
          refine g_val rfl rfl rfl (y_assign rfl) ?_
          refine g_nil ?_
          exact g_again ⟨(k + 1, o - 1), by dsimp only; omega, by dsimp only; omega, by dsimp only; omega, by dsimp only; omega, by dsimp only; rw [show (k + 1).toNat = k.toNat + 1 by omega]; have hs : opS (cs k.toNat).nm o = o - 1 := (by unfold opS; rw [if_neg (by omega), if_pos (by omega)]); have := opI_on hR (by omega); rw [hs] at this; exact this⟩ [0, 1, 5, 6] (by dsimp only; omega) rfl (fun w h => h.sub .slnil)
      · skip
        refine g_cond_f rfl (g_skip (g_then (g_seq (g_ops ?_))))
        refine g_val rfl rfl rfl (y_move rfl) ?_
        refine g_val rfl rfl rfl (y_lit false (y_ilt rfl rfl) (decide_eq_false (by omega))) ?_
        refine g_nil (g_then (g_cond_f rfl (g_skip (g_in_normal (g_then (g_ops ?_))))))
        refine g_val rfl rfl rfl (y_move rfl) ?_
        refine g_val rfl rfl rfl (by first | exact y_addi rfl rfl (by first | omega | (simp only [size_mk, ByteArray.size_append, ByteArray.size_extract]; omega)) | exact y_iadd rfl rfl) ?_
        refine g_val rfl rfl rfl (y_assign rfl) ?_
        refine g_nil ?_
        exact g_again ⟨(k + 1, o), by dsimp only; omega, by dsimp only; omega, by dsimp only; omega, by dsimp only; omega, by dsimp only; rw [show (k + 1).toNat = k.toNat + 1 by omega]; have hs : opS (cs k.toNat).nm o = o := (by unfold opS; rw [if_neg (by omega), if_neg (by omega)]); have := opI_on hR (by omega); rw [hs] at this; exact this⟩ [0, 1, 5, 6] (by dsimp only; omega) rfl (fun w h => h.sub .slnil)
  · skip
    refine g_cond_f rfl (g_exit (g_then_exit (g_then_exit (g_in_exit (g_then (g_seq (g_ops ?_)))))))
    refine g_val rfl rfl rfl (y_move rfl) ?_
    refine g_val rfl rfl rfl (y_assign rfl) ?_
    refine g_nil (g_then (g_ret ?_))
    refine g_end1 Try.results27 rfl ?_
    obtain rfl : k.toNat = i0 := by omega
    exact fun w hS => ⟨ret_int (opR_some hR), hS.below⟩

set_option maxRecDepth 100000 in
theorem label_any (p : Option Addr) (n c : Nat) (cs : Nat → Cm) (w : World) (hn : n ≤ 1000) (hrd : RdSl w p n 42 (cmF cs)) (s : ByteArray) :
    Calls Try.prog 22 #[.slice p n c, .string s] w fun e w' => e = .returned (.int .i64 (labF cs n s)) ∧ Below w.heap.size w w' := by
  refine fn_intro Try.func22 rfl Try.ntmps22 rfl rfl ?_
  refine g_seq (g_ops ?_)
  refine g_val rfl rfl rfl (y_assign rfl) ?_
  refine g_nil (g_then (g_seq (g_seq (g_ops ?_))))
  refine g_val rfl rfl rfl (y_assign rfl) ?_
  refine g_nil (g_then (g_block ?_))
  refine g_loop (α := {x : Int // 0 ≤ x ∧ x ≤ n ∧ laF cs s (n - x.toNat) x.toNat = labF cs n s}) (fun x => [(0, .slice p n c), (1, .string s), (5, .int .i64 x.1)]) (fun x => St w [] []) (fun x => n - x.1.toNat) ⟨0, by omega, by omega, rfl⟩ [0, 1, 5] rfl (fun w h => h.sub .slnil) ?_
  rintro ⟨k, hx⟩
  dsimp only
  obtain ⟨hk0, hk1, hR⟩ := hx
  refine g_seq (g_seq (g_ops ?_))
  refine g_val rfl rfl rfl (y_move rfl) ?_
  refine g_val rfl rfl rfl (y_move rfl) ?_
  refine g_val rfl rfl rfl (y_llen rfl Try.underlying23) ?_
  refine g_val rfl rfl rfl (y_ilt rfl rfl) ?_
  refine g_nil (g_then ?_)
  first | refine g_casep 9 rfl (fun h1 => ?_) (fun h1 => ?_) | refine g_caseb 9 rfl (fun h1 => ?_) (fun h1 => ?_)
  · skip
    refine g_cond_t rfl (g_skip (g_then (g_seq (g_block (g_seq (g_ops ?_))))))
    refine g_val rfl rfl rfl (y_move rfl) ?_
    refine g_val rfl rfl rfl (y_move rfl) ?_
    refine g_val rfl rfl rfl (y_rdAddr hrd rfl rfl Try.underlying23 Try.sizeOf45 (by omega) (by omega)) ?_
    refine g_val rfl rfl rfl (y_fieldAt (k := 1) rfl (by kernel_rfl) rfl) ?_
    refine g_val rfl rfl rfl (y_rdField (i := k) (j := 1) hrd rfl rfl Try.isAgg5 (by omega) (by omega) (by decide)) ?_
    refine g_val rfl rfl rfl (y_ieq rfl rfl) ?_
    refine g_val rfl rfl rfl (y_move rfl) ?_
    first | refine g_casep 18 rfl (fun h2 => ?_) (fun h2 => ?_) | refine g_caseb 18 rfl (fun h2 => ?_) (fun h2 => ?_)
    · skip
      refine g_val rfl rfl rfl (y_move rfl) ?_
      refine g_val rfl rfl rfl (y_move rfl) ?_
      refine g_val rfl rfl rfl (y_rdAddr hrd rfl rfl Try.underlying23 Try.sizeOf45 (by omega) (by omega)) ?_
      refine g_val rfl rfl rfl (y_fieldAt (k := 25) rfl (by kernel_rfl) rfl) ?_
      refine g_val rfl rfl rfl (y_rdField (i := k) (j := 25) hrd rfl rfl Try.isAgg9 (by omega) (by omega) (by decide)) ?_
      refine g_val rfl rfl rfl (y_move rfl) ?_
      refine g_val rfl rfl rfl (y_seq rfl rfl) ?_
      refine g_val rfl rfl rfl (y_pick_t rfl rfl) ?_
      refine g_nil (g_then ?_)
      first | refine g_casep 26 rfl (fun h3 => ?_) (fun h3 => ?_) | refine g_caseb 26 rfl (fun h3 => ?_) (fun h3 => ?_)
      · skip
        refine g_cond_t rfl (g_seq (g_ops ?_))
        refine g_val rfl rfl rfl (y_move rfl) ?_
        refine g_val rfl rfl rfl (y_assign rfl) ?_
        refine g_nil (g_then (g_ret (g_in_ret (g_then_ret (g_then_ret (g_in_ret (g_then_ret ?_)))))))
        refine g_end1 Try.results22 rfl ?_
        rw [laF_step cs s n k.toNat (by omega), if_pos ⟨by omega, by assumption⟩] at hR
        exact fun w hS => ⟨ret_int (by omega), hS.below⟩
      · skip
        refine g_cond_f rfl (g_skip (g_in_normal (g_then (g_ops ?_))))
        refine g_val rfl rfl rfl (y_move rfl) ?_
        refine g_val rfl rfl rfl (by first | exact y_addi rfl rfl (by first | omega | (simp only [size_mk, ByteArray.size_append, ByteArray.size_extract]; omega)) | exact y_iadd rfl rfl) ?_
        refine g_val rfl rfl rfl (y_assign rfl) ?_
        refine g_nil ?_
        exact g_again ⟨k + 1, by omega, by omega, by rw [show (k + 1).toNat = k.toNat + 1 by omega]; rw [laF_step cs s n k.toNat (by omega), if_neg (fun q => by first | (have := q.1; omega) | exact absurd q.2 (by assumption))] at hR; exact hR⟩ [0, 1, 5] (by dsimp only; omega) rfl (fun w h => h.sub .slnil)
    · skip
      refine g_not rfl rfl rfl ?_
      refine g_not rfl rfl rfl ?_
      refine g_not rfl rfl rfl ?_
      refine g_not rfl rfl rfl ?_
      refine g_not rfl rfl rfl ?_
      refine g_not rfl rfl rfl ?_
      refine g_not rfl rfl rfl ?_
      refine g_val rfl rfl rfl (y_pick_f rfl rfl) ?_
      refine g_nil (g_then (g_cond_f rfl (g_skip (g_in_normal (g_then (g_ops ?_))))))
      refine g_val rfl rfl rfl (y_move rfl) ?_
      refine g_val rfl rfl rfl (by first | exact y_addi rfl rfl (by first | omega | (simp only [size_mk, ByteArray.size_append, ByteArray.size_extract]; omega)) | exact y_iadd rfl rfl) ?_
      refine g_val rfl rfl rfl (y_assign rfl) ?_
      refine g_nil ?_
      exact g_again ⟨k + 1, by omega, by omega, by rw [show (k + 1).toNat = k.toNat + 1 by omega]; rw [laF_step cs s n k.toNat (by omega), if_neg (fun q => by first | (have := q.1; omega) | exact absurd q.2 (by assumption))] at hR; exact hR⟩ [0, 1, 5] (by dsimp only; omega) rfl (fun w h => h.sub .slnil)
  · skip
    refine g_cond_f rfl (g_exit (g_then_exit (g_then_exit (g_in_exit (g_then (g_seq (g_ops ?_)))))))
    refine g_val rfl rfl rfl (y_assign rfl) ?_
    refine g_nil (g_then (g_ret ?_))
    refine g_end1 Try.results22 rfl ?_
    rw [show n - k.toNat = 0 by omega] at hR
    exact fun w hS => ⟨ret_int (show -1 = labF cs n s from hR), hS.below⟩

set_option maxRecDepth 100000 in
theorem rdeep_any (p : Option Addr) (n c : Nat) (cs : Nat → Cm) (w : World) (hn : n ≤ 1000) (hrd : RdSl w p n 42 (cmF cs)) :
    Calls Try.prog 17 #[.slice p n c] w fun e w' => e = .returned (.int .i64 (deepI cs n).2) ∧ Below w.heap.size w w' := by
  refine fn_intro Try.func17 rfl Try.ntmps17 rfl rfl ?_
  refine g_seq (g_ops ?_)
  refine g_val rfl rfl rfl (y_assign rfl) ?_
  refine g_nil (g_then (g_seq (g_ops ?_)))
  refine g_val rfl rfl rfl (y_assign rfl) ?_
  refine g_nil (g_then (g_seq (g_ops ?_)))
  refine g_val rfl rfl rfl (y_assign rfl) ?_
  refine g_nil (g_then (g_seq (g_seq (g_ops ?_))))
  refine g_val rfl rfl rfl (y_assign rfl) ?_
  refine g_nil (g_then (g_block ?_))
  refine g_loop (α := {x : Int // 0 ≤ x ∧ x ≤ n}) (fun x => [(0, .slice p n c), (3, .int .i64 (deepI cs x.1.toNat).1), (4, .int .i64 (deepI cs x.1.toNat).2), (5, .int .i64 x.1)]) (fun x => St w [] []) (fun x => n - x.1.toNat) ⟨0, by omega, by omega⟩ [0, 3, 4, 5] rfl (fun w h => h.sub .slnil) ?_
  rintro ⟨i, hx⟩
  dsimp only
  obtain ⟨hi0, hi1⟩ := hx
  have hbd := deep_bd cs i.toNat
  have hst : deepI cs (i + 1).toNat = (deepO (cs i.toNat).nm (deepI cs i.toNat).1, if deepO (cs i.toNat).nm (deepI cs i.toNat).1 > (deepI cs i.toNat).2 then deepO (cs i.toNat).nm (deepI cs i.toNat).1 else (deepI cs i.toNat).2) := by rw [show (i + 1).toNat = i.toNat + 1 by omega]; rfl
  refine g_seq (g_seq (g_ops ?_))
  refine g_val rfl rfl rfl (y_move rfl) ?_
  refine g_val rfl rfl rfl (y_move rfl) ?_
  refine g_val rfl rfl rfl (y_llen rfl Try.underlying23) ?_
  refine g_val rfl rfl rfl (y_ilt rfl rfl) ?_
  refine g_nil (g_then ?_)
  first | refine g_casep 9 rfl (fun h1 => ?_) (fun h1 => ?_) | refine g_caseb 9 rfl (fun h1 => ?_) (fun h1 => ?_)
  · skip
    refine g_cond_t rfl (g_skip (g_then (g_seq (g_block (g_seq (g_seq (g_ops ?_)))))))
    refine g_val rfl rfl rfl (y_move rfl) ?_
    refine g_val rfl rfl rfl (y_move rfl) ?_
    refine g_val rfl rfl rfl (y_rdAddr hrd rfl rfl Try.underlying23 Try.sizeOf45 (by omega) (by omega)) ?_
    refine g_val rfl rfl rfl (y_fieldAt (k := 1) rfl (by kernel_rfl) rfl) ?_
    refine g_val rfl rfl rfl (y_rdField (i := i) (j := 1) hrd rfl rfl Try.isAgg5 (by omega) (by omega) (by decide)) ?_
    refine g_val rfl rfl rfl (y_ieq rfl rfl) ?_
    refine g_nil (g_then ?_)
    first | refine g_casep 17 rfl (fun h2 => ?_) (fun h2 => ?_) | refine g_caseb 17 rfl (fun h2 => ?_) (fun h2 => ?_)
    · skip
      refine g_cond_t rfl (g_ops ?_)
      refine g_val rfl rfl rfl (y_move rfl) ?_
      refine g_val rfl rfl rfl (by first | exact y_addi rfl rfl (by first | omega | (simp only [size_mk, ByteArray.size_append, ByteArray.size_extract]; omega)) | exact y_iadd rfl rfl) ?_
      refine g_val rfl rfl rfl (y_assign rfl) ?_
      refine g_nil (g_then (g_seq (g_seq (g_ops ?_))))
      refine g_val rfl rfl rfl (y_move rfl) ?_
      refine g_val rfl rfl rfl (y_move rfl) ?_
      refine g_val rfl rfl rfl (y_rdAddr hrd rfl rfl Try.underlying23 Try.sizeOf45 (by omega) (by omega)) ?_
      refine g_val rfl rfl rfl (y_fieldAt (k := 1) rfl (by kernel_rfl) rfl) ?_
      refine g_val rfl rfl rfl (y_rdField (i := i) (j := 1) hrd rfl rfl Try.isAgg5 (by omega) (by omega) (by decide)) ?_
      refine g_val rfl rfl rfl (y_lit false (y_ieq rfl rfl) (decide_eq_false (by omega))) ?_
      refine g_val rfl rfl rfl (y_move rfl) ?_
      refine g_not rfl rfl rfl ?_
      refine g_not rfl rfl rfl ?_
      refine g_val rfl rfl rfl (y_pick_f rfl rfl) ?_
      refine g_nil (g_then (g_cond_f rfl (g_skip (g_then (g_ops ?_)))))
      refine g_val rfl rfl rfl (y_move rfl) ?_
      refine g_val rfl rfl rfl (y_move rfl) ?_
      refine g_val rfl rfl rfl (y_maxi rfl rfl) ?_
      refine g_val rfl rfl rfl (y_assign rfl) ?_
      refine g_nil (g_in_normal (g_then (g_ops ?_)))
      refine g_val rfl rfl rfl (y_move rfl) ?_
      refine g_val rfl rfl rfl (by first | exact y_addi rfl rfl (by first | omega | (simp only [size_mk, ByteArray.size_append, ByteArray.size_extract]; omega)) | exact y_iadd rfl rfl) ?_
      refine g_val rfl rfl rfl (y_assign rfl) ?_
      refine g_nil ?_
      exact g_again ⟨i + 1, by omega, by omega⟩ [0, 3, 4, 5] (by dsimp only; omega) (by rw [hst]; first | (rw [show deepO (cs i.toNat).nm (deepI cs i.toNat).1 = (deepI cs i.toNat).1 + 1 by unfold deepO; rw [if_pos (by omega)]]; rfl) | (rw [show deepO (cs i.toNat).nm (deepI cs i.toNat).1 = (deepI cs i.toNat).1 - 1 by unfold deepO; rw [if_neg (by omega), if_pos (by omega)]]; rfl) | (rw [show deepO (cs i.toNat).nm (deepI cs i.toNat).1 = (deepI cs i.toNat).1 by unfold deepO; rw [if_neg (by omega), if_neg (by omega)]]; rfl)) (fun w h => h.sub .slnil)
    · skip
      refine g_cond_f rfl (g_skip (g_then (g_seq (g_seq (g_ops ?_)))))
      refine g_val rfl rfl rfl (y_move rfl) ?_
      refine g_val rfl rfl rfl (y_move rfl) ?_
      refine g_val rfl rfl rfl (y_rdAddr hrd rfl rfl Try.underlying23 Try.sizeOf45 (by omega) (by omega)) ?_
      refine g_val rfl rfl rfl (y_fieldAt (k := 1) rfl (by kernel_rfl) rfl) ?_
      refine g_val rfl rfl rfl (y_rdField (i := i) (j := 1) hrd rfl rfl Try.isAgg5 (by omega) (by omega) (by decide)) ?_
      refine g_val rfl rfl rfl (y_ieq rfl rfl) ?_
      refine g_val rfl rfl rfl (y_move rfl) ?_
      first | refine g_casep 26 rfl (fun h3 => ?_) (fun h3 => ?_) | refine g_caseb 26 rfl (fun h3 => ?_) (fun h3 => ?_)
      · skip
        refine g_val rfl rfl rfl (y_move rfl) ?_
        refine g_val rfl rfl rfl (y_igt rfl rfl) ?_
        refine g_val rfl rfl rfl (y_pick_t rfl rfl) ?_
        refine g_nil (g_then ?_)
        first | refine g_casep 29 rfl (fun h4 => ?_) (fun h4 => ?_) | refine g_caseb 29 rfl (fun h4 => ?_) (fun h4 => ?_)
        · skip
          refine g_cond_t rfl (g_ops ?_)
          refine g_val rfl rfl rfl (y_move rfl) ?_
          refine g_val rfl rfl rfl (by first | exact y_subi rfl rfl (by first | omega | (simp only [size_mk, ByteArray.size_append, ByteArray.size_extract]; omega)) | exact y_isub rfl rfl) ?_
          refine g_val rfl rfl rfl (y_assign rfl) ?_
          refine g_nil (g_then (g_ops ?_))
          refine g_val rfl rfl rfl (y_move rfl) ?_
          refine g_val rfl rfl rfl (y_move rfl) ?_
          refine g_val rfl rfl rfl (y_maxi rfl rfl) ?_
          refine g_val rfl rfl rfl (y_assign rfl) ?_
          refine g_nil (g_in_normal (g_then (g_ops ?_)))
          refine g_val rfl rfl rfl (y_move rfl) ?_
          refine g_val rfl rfl rfl (by first | exact y_addi rfl rfl (by first | omega | (simp only [size_mk, ByteArray.size_append, ByteArray.size_extract]; omega)) | exact y_iadd rfl rfl) ?_
          refine g_val rfl rfl rfl (y_assign rfl) ?_
          refine g_nil ?_
          exact g_again ⟨i + 1, by omega, by omega⟩ [0, 3, 4, 5] (by dsimp only; omega) (by rw [hst]; first | (rw [show deepO (cs i.toNat).nm (deepI cs i.toNat).1 = (deepI cs i.toNat).1 + 1 by unfold deepO; rw [if_pos (by omega)]]; rfl) | (rw [show deepO (cs i.toNat).nm (deepI cs i.toNat).1 = (deepI cs i.toNat).1 - 1 by unfold deepO; rw [if_neg (by omega), if_pos (by omega)]]; rfl) | (rw [show deepO (cs i.toNat).nm (deepI cs i.toNat).1 = (deepI cs i.toNat).1 by unfold deepO; rw [if_neg (by omega), if_neg (by omega)]]; rfl)) (fun w h => h.sub .slnil)
        · skip
          refine g_cond_f rfl (g_skip (g_then (g_ops ?_)))
          refine g_val rfl rfl rfl (y_move rfl) ?_
          refine g_val rfl rfl rfl (y_move rfl) ?_
          refine g_val rfl rfl rfl (y_maxi rfl rfl) ?_
          refine g_val rfl rfl rfl (y_assign rfl) ?_
          refine g_nil (g_in_normal (g_then (g_ops ?_)))
          refine g_val rfl rfl rfl (y_move rfl) ?_
          refine g_val rfl rfl rfl (by first | exact y_addi rfl rfl (by first | omega | (simp only [size_mk, ByteArray.size_append, ByteArray.size_extract]; omega)) | exact y_iadd rfl rfl) ?_
          refine g_val rfl rfl rfl (y_assign rfl) ?_
          refine g_nil ?_
          exact g_again ⟨i + 1, by omega, by omega⟩ [0, 3, 4, 5] (by dsimp only; omega) (by rw [hst]; first | (rw [show deepO (cs i.toNat).nm (deepI cs i.toNat).1 = (deepI cs i.toNat).1 + 1 by unfold deepO; rw [if_pos (by omega)]]; rfl) | (rw [show deepO (cs i.toNat).nm (deepI cs i.toNat).1 = (deepI cs i.toNat).1 - 1 by unfold deepO; rw [if_neg (by omega), if_pos (by omega)]]; rfl) | (rw [show deepO (cs i.toNat).nm (deepI cs i.toNat).1 = (deepI cs i.toNat).1 by unfold deepO; rw [if_neg (by omega), if_neg (by omega)]]; rfl)) (fun w h => h.sub .slnil)
      · skip
        refine g_not rfl rfl rfl ?_
        refine g_not rfl rfl rfl ?_
        refine g_val rfl rfl rfl (y_pick_f rfl rfl) ?_
        refine g_nil (g_then (g_cond_f rfl (g_skip (g_then (g_ops ?_)))))
        refine g_val rfl rfl rfl (y_move rfl) ?_
        refine g_val rfl rfl rfl (y_move rfl) ?_
        refine g_val rfl rfl rfl (y_maxi rfl rfl) ?_
        refine g_val rfl rfl rfl (y_assign rfl) ?_
        refine g_nil (g_in_normal (g_then (g_ops ?_)))
        refine g_val rfl rfl rfl (y_move rfl) ?_
        refine g_val rfl rfl rfl (by first | exact y_addi rfl rfl (by first | omega | (simp only [size_mk, ByteArray.size_append, ByteArray.size_extract]; omega)) | exact y_iadd rfl rfl) ?_
        refine g_val rfl rfl rfl (y_assign rfl) ?_
        refine g_nil ?_
        exact g_again ⟨i + 1, by omega, by omega⟩ [0, 3, 4, 5] (by dsimp only; omega) (by rw [hst]; first | (rw [show deepO (cs i.toNat).nm (deepI cs i.toNat).1 = (deepI cs i.toNat).1 + 1 by unfold deepO; rw [if_pos (by omega)]]; rfl) | (rw [show deepO (cs i.toNat).nm (deepI cs i.toNat).1 = (deepI cs i.toNat).1 - 1 by unfold deepO; rw [if_neg (by omega), if_pos (by omega)]]; rfl) | (rw [show deepO (cs i.toNat).nm (deepI cs i.toNat).1 = (deepI cs i.toNat).1 by unfold deepO; rw [if_neg (by omega), if_neg (by omega)]]; rfl)) (fun w h => h.sub .slnil)
  · skip
    refine g_cond_f rfl (g_exit (g_then_exit (g_then_exit (g_in_exit (g_then (g_seq (g_ops ?_)))))))
    refine g_val rfl rfl rfl (y_move rfl) ?_
    refine g_val rfl rfl rfl (y_assign rfl) ?_
    refine g_nil (g_then (g_ret ?_))
    refine g_end1 Try.results17 rfl ?_
    obtain rfl : i.toNat = n := by omega
    exact fun w hS => ⟨rfl, hS.below⟩

end Go.Proofs.Ytpacnggomjepdaa
