/- Labels. -/
import Derived.Test.YtpacnggomjepdaaPrf
import Derived.Test.YtpacnggomjepdaaP
import Derived.Test.YtpacnggomjepdaaH
namespace Go.Proofs.Ytpacnggomjepdaa
open Go Go.RowKit

/-- The labels' places behind i commands; none: one is there twice. -/
def labI (cs : Nat → Cm) : Nat → Option (ByteArray → Option Int)
  | 0 => some fun _ => none
  | i + 1 => match labI cs i with
    | none => none
    | some m => if (cs i).nm = 58 then (if (m (cs i).tx).isSome then none else some (mset m (cs i).tx i)) else some m
theorem lab_on {cs : Nat → Cm} {i : Nat} {m : ByteArray → Option Int} (h : labI cs i = some m) (hn : (cs i).nm = 58) (hm : (m (cs i).tx).isSome = false) : labI cs (i + 1) = some (mset m (cs i).tx i) := by
  show (match labI cs i with | none => none | some m => _) = _
  rw [h]; dsimp only; rw [if_pos hn, if_neg (by rw [hm]; decide)]
theorem lab_else {cs : Nat → Cm} {i : Nat} {m : ByteArray → Option Int} (h : labI cs i = some m) (hn : (cs i).nm ≠ 58) : labI cs (i + 1) = some m := by
  show (match labI cs i with | none => none | some m => _) = _
  rw [h]; dsimp only; rw [if_neg hn]
structure Lb where
  ko : Option Nat
  b : Nat
  k : Nat
  m : ByteArray → Option Int
def labV (cs : Nat → Cm) (x : Lb) : Value := match x.ko with
  | none => .tuple #[.map (some x.b), .complex .f64 0 0, .bool true]
  | some k => .tuple #[.map none, .complex .f64 (cs k).re (cs k).im, .bool false]
def labE (x : Lb) : List Ent := match x.ko with
  | none => [.smap Try.prog 9 x.b x.k x.m]
  | some _ => []
def labR (cs : Nat → Cm) (n : Nat) (x : Lb) : Prop := match x.ko with
  | none => labI cs n = some x.m
  | some k => k < n ∧ ∃ m, labI cs k = some m ∧ (cs k).nm = 58 ∧ (m (cs k).tx).isSome = true
def inF (cs : Nat → Cm) (j : Nat → Int) (i q : Nat) : Value := ((inC (cs i, j i))[q]?).getD default
theorem in_get (cs : Nat → Cm) (j : Nat → Int) (i q : Nat) (hq : q < 43) : (inC (cs i, j i))[q]? = some (inF cs j i q) := by
  unfold inF
  rw [List.getElem?_eq_getElem (by rw [inC_len]; exact hq)]; rfl
theorem rd_weak {W : World} {p : Option Addr} {n sz : Nat} {f f' : Nat → Nat → Value} (h : RdSl W p n sz f) (hf : ∀ i j, i < n → j < sz → f i j = f' i j) : RdSl W p n sz f' := ⟨h.addr, h.blk, fun i j hi hj => by rw [← hf i j hi hj]; exact h.cell i j hi hj⟩
theorem rd_ins {w : World} {p : Option Addr} {n c : Nat} {cs : Nat → Cm} {j : Nat → Int} (h : w.ownsRow 0 47 43 (.slice p n c) n ((insOf cs j n).flatMap inC)) : RdSl w p n 43 (inF cs j) :=
  rd_weak (rd_of_row inC (cs := insOf cs j n) inC_len (ins_len cs j n).symm (by rw [ins_len]; exact h)) fun i q hi _ => by
    unfold inF
    rw [List.getD_eq_getElem?_getD, ins_get cs j n i hi]; rfl
theorem wf_i64 {z : Int} (h : -9223372036854775808 ≤ z ∧ z ≤ 9223372036854775807) : (Lit.int .i64 z).wf = true := by
  simp [Lit.wf, IntKind.min, IntKind.max, IntKind.signed, IntKind.bits]; omega

set_option maxRecDepth 100000 in
theorem labels_any (p : Option Addr) (n c : Nat) (cs : Nat → Cm) (j : Nat → Int) (w : World) (hn : n ≤ 1000) (ht : ∀ i, i < n → (cs i).tx.size ≤ 1000) (hrd : RdSl w p n 43 (inF cs j)) :
    Calls Try.prog 19 #[.slice p n c] w fun e w' => ∃ x : {x : Lb // labR cs n x}, e = .returned (labV cs x.1) ∧ St w [] (labE x.1) w' := by
  refine fn_intro Try.func19 rfl Try.ntmps19 rfl rfl ?_
  refine g_seq (g_ops ?_)
  refine g_val rfl rfl rfl (y_assign rfl) ?_
  refine g_val rfl rfl rfl (y_assign rfl) ?_
  refine g_val rfl rfl rfl (y_assign rfl) ?_
  refine g_nil (g_then (g_seq (g_ops ?_)))
  refine g_makeMap rfl rfl 9 (fun b1 => ?_)
  refine g_val rfl rfl rfl (y_assign rfl) ?_
  refine g_nil (g_then (g_seq (g_seq (g_ops ?_))))
  refine g_val rfl rfl rfl (y_move rfl) ?_
  refine g_val rfl rfl rfl (y_llen rfl Try.underlying27) ?_
  refine g_val rfl rfl rfl (y_move rfl) ?_
  refine g_nil (g_then (g_block ?_))
  refine g_loop (α := {x : Int × Nat × (ByteArray → Option Int) // 0 ≤ x.1 ∧ x.1 ≤ n ∧ x.2.1 ≤ x.1 ∧ labI cs x.1.toNat = some x.2.2}) (fun x => [(5, .map (some b1)), (11, .slice p n c), (12, .int .i64 n), (13, .int .i64 x.1.1)]) (fun x => St w [] [.smap Try.prog 9 b1 x.1.2.1 x.1.2.2]) (fun x => n - x.1.1.toNat) ⟨(0, 0, fun _ => none), by dsimp only; omega, by dsimp only; omega, by dsimp only; omega, rfl⟩ [5, 11, 12, 13] rfl (fun w h => h.sub (.cons_cons _ .slnil)) ?_
  rintro ⟨⟨i, K, m⟩, hx⟩
  dsimp only
  dsimp only at hx
  obtain ⟨hi0, hi1, hK, hm⟩ := hx
  have hmx : maxLen = 9223372036854775807 := rfl
  have htx : i < n → (cs i.toNat).tx.size ≤ maxLen := fun h => by have := ht i.toNat (by omega); omega
  refine g_seq (g_ops ?_)
  refine g_val rfl rfl rfl (y_ilt rfl rfl) ?_
  refine g_nil (g_then (g_seq ?_))
  first | refine g_casep 14 rfl (fun h1 => ?_) (fun h1 => ?_) | refine g_caseb 14 rfl (fun h1 => ?_) (fun h1 => ?_)
  · skip
    try dsimp only at h1
    refine g_cond_t rfl (g_skip (g_then (g_seq (g_block (g_seq (g_ops ?_))))))
    refine g_val rfl rfl rfl (y_move rfl) ?_
    refine g_val rfl rfl rfl (y_rdAddr hrd rfl rfl Try.underlying27 Try.sizeOf47 (by omega) (by omega)) ?_
    refine g_val rfl rfl rfl (y_rdAgg (i := i) (vs := inC (cs i.toNat, j i.toNat)) hrd rfl Try.isAgg47 Try.sizeOf47 (by omega) (by omega) rfl (fun q hq => in_get cs j i.toNat q hq)) ?_
    refine g_alloc rfl rfl Try.zeroValue47 rfl (fun b2 => ?_)
    refine g_val rfl rfl rfl (y_assign rfl) ?_
    refine g_stN 0 rfl rfl rfl (by kernel_rfl) rfl rfl rfl rfl ?_
    simp only [List.set_cons_zero]
    refine g_nil (g_then (g_seq (g_seq (g_ops ?_))))
    refine g_val rfl rfl rfl (y_fieldAddr (k := 0) (m := 0) rfl (by kernel_rfl) rfl) ?_
    refine g_val rfl rfl rfl (y_fieldAddr (k := 1) (m := 1) rfl (by kernel_rfl) rfl) ?_
    refine g_val rfl rfl rfl (y_ld 0 rfl Try.isAgg5 rfl rfl) ?_
    refine g_val rfl rfl rfl (y_ine rfl rfl) ?_
    refine g_nil (g_then ?_)
    first | refine g_casep 21 rfl (fun h2 => ?_) (fun h2 => ?_) | refine g_caseb 21 rfl (fun h2 => ?_) (fun h2 => ?_)
    · skip
      try dsimp only at h2
      refine g_cond_t rfl (g_exit (g_then_exit (g_in_exit (g_then (g_ops ?_)))))
      refine g_val rfl rfl rfl (by first | exact y_addi rfl rfl (by first | omega | (simp only [size_mk, ByteArray.size_append, ByteArray.size_extract]; omega)) | exact y_iadd rfl rfl) ?_
      refine g_val rfl rfl rfl (y_move rfl) ?_
      refine g_nil ?_
      exact g_again ⟨(i + 1, K, m), by dsimp only; omega, by dsimp only; omega, by dsimp only; omega, by dsimp only; rw [show (i + 1).toNat = i.toNat + 1 by omega]; exact lab_else hm (by omega)⟩ [5, 11, 12, 13] (by dsimp only; omega) rfl (fun w h => h.sub (.cons _ (.cons_cons _ .slnil)))
    · skip
      try dsimp only at h2
      refine g_cond_f rfl (g_skip (g_then (g_seq (g_seq (g_ops ?_)))))
      refine g_val rfl rfl rfl (y_move rfl) ?_
      refine g_val rfl rfl rfl (y_fieldAddr (k := 0) (m := 0) rfl (by kernel_rfl) rfl) ?_
      refine g_val rfl rfl rfl (y_fieldAddr (k := 25) (m := 25) rfl (by kernel_rfl) rfl) ?_
      refine g_val rfl rfl rfl (y_ld 0 rfl Try.isAgg9 rfl rfl) ?_
      refine g_val rfl rfl rfl (y_lookup 1 rfl rfl Try.underlying61 Try.underlying9 Try.zeroValue3 rfl (htx (by omega))) ?_
      refine g_val rfl rfl rfl (y_move rfl) ?_
      refine g_val rfl rfl rfl (y_extract rfl rfl) ?_
      refine g_val rfl rfl rfl (y_extract rfl rfl) ?_
      refine g_val rfl rfl rfl (y_assign rfl) ?_
      refine g_val rfl rfl rfl (y_assign rfl) ?_
      refine g_nil (g_then (g_seq (g_ops ?_)))
      refine g_val rfl rfl rfl (y_move rfl) ?_
      refine g_nil (g_then ?_)
      first | refine g_casep 30 rfl (fun h3 => ?_) (fun h3 => ?_) | refine g_caseb 30 rfl (fun h3 => ?_) (fun h3 => ?_)
      · skip
        try dsimp only at h3
        refine g_cond_t rfl (g_seq ?_)
        refine g_quiet (by kernel_rfl) (by kernel_rfl) ?_
        refine q_val rfl rfl rfl (y_fieldAddr (k := 0) (m := 0) rfl (by kernel_rfl) rfl) ?_
        refine q_val rfl rfl rfl (y_fieldAddr (k := 0) (m := 0) rfl (by kernel_rfl) rfl) ?_
        refine q_val rfl rfl rfl (y_ld 0 rfl Try.isAgg28 rfl rfl) ?_
        refine q_val rfl rfl rfl (y_assign rfl) ?_
        refine q_val rfl rfl rfl (y_assign rfl) ?_
        refine q_val rfl rfl rfl (y_assign rfl) ?_
        refine q_nil (g_then (g_ret (g_then_ret (g_in_ret (g_then_ret (g_then_ret (g_in_ret (g_then_ret ?_))))))))
        refine g_end3 Try.results19 rfl rfl rfl ?_
        exact fun w hS => ⟨⟨⟨some i.toNat, 0, 0, fun _ => none⟩, by omega, m, hm, by omega, by assumption⟩, rfl, hS.sub (.cons _ (.cons _ .slnil))⟩
      · skip
        try dsimp only at h3
        refine g_cond_f rfl (g_skip (g_then (g_ops ?_)))
        refine g_val rfl rfl rfl (y_move rfl) ?_
        refine g_val rfl rfl rfl (y_fieldAddr (k := 0) (m := 0) rfl (by kernel_rfl) rfl) ?_
        refine g_val rfl rfl rfl (y_fieldAddr (k := 25) (m := 25) rfl (by kernel_rfl) rfl) ?_
        refine g_val rfl rfl rfl (y_ld 0 rfl Try.isAgg9 rfl rfl) ?_
        refine g_val rfl rfl rfl (y_move rfl) ?_
        refine g_mapUpdate 1 rfl rfl rfl rfl Try.underlying61 Try.underlying9 rfl (htx (by omega)) (wf_i64 (by omega)) (by omega) ?_
        simp only [List.set_cons_zero, List.set_cons_succ]
        refine g_nil (g_in_normal (g_then (g_ops ?_)))
        refine g_val rfl rfl rfl (by first | exact y_addi rfl rfl (by first | omega | (simp only [size_mk, ByteArray.size_append, ByteArray.size_extract]; omega)) | exact y_iadd rfl rfl) ?_
        refine g_val rfl rfl rfl (y_move rfl) ?_
        refine g_nil ?_
        exact g_again ⟨(i + 1, K + 1, mset m (cs i.toNat).tx i), by dsimp only; omega, by dsimp only; omega, by dsimp only; omega, by dsimp only; rw [show (i + 1).toNat = i.toNat + 1 by omega]; have q := lab_on hm (by omega) (by assumption); rw [Int.toNat_of_nonneg hi0] at q; exact q⟩ [5, 11, 12, 13] (by dsimp only; omega) rfl (fun w h => h.sub (.cons _ (.cons_cons _ .slnil)))
  · skip
    try dsimp only at h1
    refine g_cond_f rfl (g_exit (g_then_exit (g_then_exit (g_in_exit (g_then (g_seq (g_ops ?_)))))))
    refine g_val rfl rfl rfl (y_move rfl) ?_
    refine g_val rfl rfl rfl (y_assign rfl) ?_
    refine g_val rfl rfl rfl (y_assign rfl) ?_
    refine g_val rfl rfl rfl (y_assign rfl) ?_
    refine g_nil (g_then (g_ret ?_))
    refine g_end3 Try.results19 rfl rfl rfl ?_
    obtain rfl : i.toNat = n := by omega
    exact fun w hS => ⟨⟨⟨none, b1, K, m⟩, hm⟩, rfl, hS.sub (.cons_cons _ .slnil)⟩

end Go.Proofs.Ytpacnggomjepdaa
