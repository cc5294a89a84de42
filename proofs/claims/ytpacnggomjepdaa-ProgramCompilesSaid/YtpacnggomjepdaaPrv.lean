/- The document's answer: fault, Compile. -/
import Derived.Test.YtpacnggomjepdaaPru
namespace Go.Proofs.Ytpacnggomjepdaa
open Go Go.RowKit

def f1 (cs : Nat → Cm) (k : Nat) : Prop := (cs k).nm = 125 ∧ opR cs k = 0
def f2 (cs : Nat → Cm) (n k : Nat) : Prop := (cs k).nm = 123 ∧ closR cs n k < 0
def f3 (cs : Nat → Cm) (n k : Nat) : Prop := (cs k).nm = 58 ∧ labF cs n (cs k).tx < k
def f4 (cs : Nat → Cm) (n k : Nat) : Prop := isB cs k ∧ (cs k).tx ≠ ⟨#[]⟩ ∧ labF cs n (cs k).tx < 0
theorem f2_step {cs : Nat → Cm} {n : Nat} {b : Int} (hb : 0 ≤ b) (h : ∀ k : Nat, b < k → k < n → ¬ f2 cs n k) (hn : ¬ f2 cs n b.toNat) : ∀ k : Nat, b - 1 < k → k < n → ¬ f2 cs n k := fun k h1 h2 q => by
  by_cases e : b < k
  · exact h k e h2 q
  · obtain rfl : b.toNat = k := by omega
    exact hn q
def faultR (cs : Nat → Cm) (n : Nat) (x : Option Nat × Int) : Prop :=
  (200 < n ∧ x = (none, 143)) ∨ (n ≤ 200 ∧
    ((∃ k, k < n ∧ f1 cs k ∧ (∀ k', k' < k → ¬ f1 cs k') ∧ x = (some k, 142)) ∨ ((∀ k, k < n → ¬ f1 cs k) ∧
    ((∃ k, k < n ∧ f2 cs n k ∧ (∀ k', k < k' → k' < n → ¬ f2 cs n k') ∧ x = (some k, 142)) ∨ ((∀ k, k < n → ¬ f2 cs n k) ∧
    ((∃ k, k < n ∧ f3 cs n k ∧ (∀ k', k' < k → ¬ f3 cs n k') ∧ x = (some k, 141)) ∨ ((∀ k, k < n → ¬ f3 cs n k) ∧
    ((∃ k, k < n ∧ f4 cs n k ∧ (∀ k', k' < k → ¬ f4 cs n k') ∧ x = (some k, 141)) ∨ ((∀ k, k < n → ¬ f4 cs n k) ∧ x = (none, 0))))))))))
def faultV (cs : Nat → Cm) (x : Option Nat × Int) : Value := match x.1 with
  | none => .tuple #[.complex .f64 0 0, .int .i64 x.2]
  | some k => .tuple #[.complex .f64 (cs k).re (cs k).im, .int .i64 x.2]

set_option maxRecDepth 100000 in
theorem fault_any (p : Option Addr) (n c : Nat) (cs : Nat → Cm) (w : World) (hn : n ≤ 1000) (hrd : RdSl w p n 42 (cmF cs)) :
    Calls Try.prog 20 #[.slice p n c] w fun e w' => ∃ x : {x : Option Nat × Int // faultR cs n x}, e = .returned (faultV cs x.1) ∧ Below w.heap.size w w' := by
  refine fn_intro Try.func20 rfl Try.ntmps20 rfl rfl ?_
  refine g_seq (g_ops ?_)
  refine g_val rfl rfl rfl (y_assign rfl) ?_
  refine g_val rfl rfl rfl (y_assign rfl) ?_
  refine g_nil (g_then (g_seq (g_seq (g_ops ?_))))
  refine g_val rfl rfl rfl (y_move rfl) ?_
  refine g_val rfl rfl rfl (y_llen rfl Try.underlying23) ?_
  refine g_val rfl rfl rfl (y_igt rfl rfl) ?_
  refine g_nil (g_then ?_)
  first | refine g_casep 10 rfl (fun h1 => ?_) (fun h1 => ?_) | refine g_caseb 10 rfl (fun h1 => ?_) (fun h1 => ?_)
  · skip
    refine g_cond_t rfl (g_seq (g_ops ?_))
    refine g_val rfl rfl rfl (y_assign rfl) ?_
    refine g_val rfl rfl rfl (y_assign rfl) ?_
    refine g_nil (g_then (g_ret (g_then_ret ?_)))
    refine g_end2 Try.results20 rfl rfl ?_
    exact fun w hS => ⟨⟨(none, 143), .inl ⟨by omega, rfl⟩⟩, rfl, hS.below⟩
  · skip
    refine g_cond_f rfl (g_skip (g_then (g_seq (g_seq (g_ops ?_)))))
    refine g_val rfl rfl rfl (y_assign rfl) ?_
    refine g_nil (g_then (g_block ?_))
    refine g_loop (α := {x : Int // 0 ≤ x ∧ x ≤ n ∧ ∀ k, k < x.toNat → ¬ f1 cs k}) (fun x => [(0, .slice p n c), (4, .int .i64 x.1)]) (fun x => St w [] []) (fun x => n - x.1.toNat) ⟨0, by omega, by omega, fun k h => absurd h (Nat.not_lt_zero k)⟩ [0, 4] rfl (fun w h => h.sub .slnil) ?_
    rintro ⟨a, hx⟩
    dsimp only
    obtain ⟨hk0, hk1, q1⟩ := hx
    refine g_seq (g_seq (g_ops ?_))
    refine g_val rfl rfl rfl (y_move rfl) ?_
    refine g_val rfl rfl rfl (y_move rfl) ?_
    refine g_val rfl rfl rfl (y_llen rfl Try.underlying23) ?_
    refine g_val rfl rfl rfl (y_ilt rfl rfl) ?_
    refine g_nil (g_then ?_)
    first | refine g_casep 14 rfl (fun h2 => ?_) (fun h2 => ?_) | refine g_caseb 14 rfl (fun h2 => ?_) (fun h2 => ?_)
    · skip
      refine g_cond_t rfl (g_skip (g_then (g_seq (g_block (g_seq (g_ops ?_))))))
      refine g_val rfl rfl rfl (y_move rfl) ?_
      refine g_val rfl rfl rfl (y_move rfl) ?_
      refine g_val rfl rfl rfl (y_rdAddr hrd rfl rfl Try.underlying23 Try.sizeOf45 (by omega) (by omega)) ?_
      refine g_val rfl rfl rfl (y_fieldAt (k := 1) rfl (by kernel_rfl) rfl) ?_
      refine g_val rfl rfl rfl (y_rdField (i := a) (j := 1) hrd rfl rfl Try.isAgg5 (by omega) (by omega) (by decide)) ?_
      refine g_val rfl rfl rfl (y_ieq rfl rfl) ?_
      refine g_val rfl rfl rfl (y_move rfl) ?_
      first | refine g_casep 23 rfl (fun h3 => ?_) (fun h3 => ?_) | refine g_caseb 23 rfl (fun h3 => ?_) (fun h3 => ?_)
      · skip
        refine g_val rfl rfl rfl (y_move rfl) ?_
        refine g_val rfl rfl rfl (y_move rfl) ?_
        refine g_call1 (vs := [.slice p n c, .int .i64 ((a.toNat : Nat) : Int)]) rfl rfl (show some [Value.slice p n c, Value.int .i64 a] = _ by rw [Int.toNat_of_nonneg (by omega)]) Try.call27 (fun w hS => opens_any _ n _ cs w hn (hrd.stays hS) a.toNat (by omega)) ?_
        refine g_val rfl rfl rfl (y_ieq rfl rfl) ?_
        refine g_val rfl rfl rfl (y_pick_t rfl rfl) ?_
        refine g_nil (g_then ?_)
        first | refine g_casep 28 rfl (fun h4 => ?_) (fun h4 => ?_) | refine g_caseb 28 rfl (fun h4 => ?_) (fun h4 => ?_)
        · skip
          refine g_cond_t rfl (g_seq (g_ops ?_))
          refine g_val rfl rfl rfl (y_move rfl) ?_
          refine g_val rfl rfl rfl (y_move rfl) ?_
          refine g_val rfl rfl rfl (y_rdAddr hrd rfl rfl Try.underlying23 Try.sizeOf45 (by omega) (by omega)) ?_
          refine g_val rfl rfl rfl (y_fieldAt (k := 0) rfl (by kernel_rfl) rfl) ?_
          refine g_val rfl rfl rfl (y_rdField (i := a) (j := 0) hrd rfl rfl Try.isAgg28 (by omega) (by omega) (by decide)) ?_
          refine g_val rfl rfl rfl (y_assign rfl) ?_
          refine g_val rfl rfl rfl (y_assign rfl) ?_
          refine g_nil (g_then (g_ret (g_in_ret (g_then_ret (g_then_ret (g_in_ret (g_then_ret ?_)))))))
          refine g_end2 Try.results20 rfl rfl ?_
          exact fun w hS => ⟨⟨(some a.toNat, 142), .inr ⟨by omega, .inl ⟨a.toNat, by omega, ⟨by omega, by omega⟩, q1, rfl⟩⟩⟩, rfl, hS.below⟩
        · skip
          refine g_cond_f rfl (g_skip (g_in_normal (g_then (g_ops ?_))))
          refine g_val rfl rfl rfl (y_move rfl) ?_
          refine g_val rfl rfl rfl (by first | exact y_addi rfl rfl (by first | omega | (simp only [size_mk, ByteArray.size_append, ByteArray.size_extract]; omega)) | exact y_iadd rfl rfl) ?_
          refine g_val rfl rfl rfl (y_assign rfl) ?_
          refine g_nil ?_
          exact g_again ⟨a + 1, by omega, by omega, by rw [show (a + 1).toNat = a.toNat + 1 by omega]; exact stepN q1 (fun q => by have := q.1; have := q.2; omega)⟩ [0, 4] (by dsimp only; omega) rfl (fun w h => h.sub .slnil)
      · skip
        refine g_not rfl rfl rfl ?_
        refine g_not rfl rfl rfl ?_
        refine g_not rfl rfl rfl ?_
        refine g_not rfl rfl rfl ?_
        refine g_val rfl rfl rfl (y_pick_f rfl rfl) ?_
        refine g_nil (g_then (g_cond_f rfl (g_skip (g_in_normal (g_then (g_ops ?_))))))
        refine g_val rfl rfl rfl (y_move rfl) ?_
        refine g_val rfl rfl rfl (by first | exact y_addi rfl rfl (by first | omega | (simp only [size_mk, ByteArray.size_append, ByteArray.size_extract]; omega)) | exact y_iadd rfl rfl) ?_
        refine g_val rfl rfl rfl (y_assign rfl) ?_
        refine g_nil ?_
        exact g_again ⟨a + 1, by omega, by omega, by rw [show (a + 1).toNat = a.toNat + 1 by omega]; exact stepN q1 (fun q => by have := q.1; have := q.2; omega)⟩ [0, 4] (by dsimp only; omega) rfl (fun w h => h.sub .slnil)
    · skip
      refine g_cond_f rfl (g_exit (g_then_exit (g_then_exit (g_in_exit (g_then (g_seq (g_seq (g_ops ?_))))))))
      refine g_val rfl rfl rfl (y_move rfl) ?_
      refine g_val rfl rfl rfl (y_llen rfl Try.underlying23) ?_
      refine g_val rfl rfl rfl (by first | exact y_subi rfl rfl (by first | omega | (simp only [size_mk, ByteArray.size_append, ByteArray.size_extract]; omega)) | exact y_isub rfl rfl) ?_
      refine g_val rfl rfl rfl (y_assign rfl) ?_
      refine g_nil (g_then (g_block ?_))
      refine g_loop (α := {x : Int // -1 ≤ x ∧ x < n ∧ ∀ k : Nat, x < k → k < n → ¬ f2 cs n k}) (fun x => [(0, .slice p n c), (5, .int .i64 x.1)]) (fun x => St w [] []) (fun x => (x.1 + 1).toNat) ⟨(n : Int) - 1, by omega, by omega, fun k h1 h2 => by omega⟩ [0, 5] rfl (fun w h => h.sub .slnil) ?_
      rintro ⟨b, hx⟩
      dsimp only
      obtain ⟨hk0, hk1, q2⟩ := hx
      refine g_seq (g_seq (g_ops ?_))
      refine g_val rfl rfl rfl (y_move rfl) ?_
      refine g_val rfl rfl rfl (y_ige rfl rfl) ?_
      refine g_nil (g_then ?_)
      first | refine g_casep 38 rfl (fun h5 => ?_) (fun h5 => ?_) | refine g_caseb 38 rfl (fun h5 => ?_) (fun h5 => ?_)
      · skip
        refine g_cond_t rfl (g_skip (g_then (g_seq (g_block (g_seq (g_ops ?_))))))
        refine g_val rfl rfl rfl (y_move rfl) ?_
        refine g_val rfl rfl rfl (y_move rfl) ?_
        refine g_val rfl rfl rfl (y_rdAddr hrd rfl rfl Try.underlying23 Try.sizeOf45 (by omega) (by omega)) ?_
        refine g_val rfl rfl rfl (y_fieldAt (k := 1) rfl (by kernel_rfl) rfl) ?_
        refine g_val rfl rfl rfl (y_rdField (i := b) (j := 1) hrd rfl rfl Try.isAgg5 (by omega) (by omega) (by decide)) ?_
        refine g_val rfl rfl rfl (y_ieq rfl rfl) ?_
        refine g_val rfl rfl rfl (y_move rfl) ?_
        first | refine g_casep 47 rfl (fun h6 => ?_) (fun h6 => ?_) | refine g_caseb 47 rfl (fun h6 => ?_) (fun h6 => ?_)
        · skip
          refine g_val rfl rfl rfl (y_move rfl) ?_
          refine g_val rfl rfl rfl (y_move rfl) ?_
          refine g_call1 (vs := [.slice p n c, .int .i64 ((b.toNat : Nat) : Int)]) rfl rfl (show some [Value.slice p n c, Value.int .i64 b] = _ by rw [Int.toNat_of_nonneg (by omega)]) Try.call21 (fun w hS => closed_any _ n _ cs w hn (hrd.stays hS) b.toNat (by omega)) ?_
          refine g_val rfl rfl rfl (y_ilt rfl rfl) ?_
          refine g_val rfl rfl rfl (y_pick_t rfl rfl) ?_
          refine g_nil (g_then ?_)
          first | refine g_casep 52 rfl (fun h7 => ?_) (fun h7 => ?_) | refine g_caseb 52 rfl (fun h7 => ?_) (fun h7 => ?_)
          · skip
            refine g_cond_t rfl (g_seq (g_ops ?_))
            refine g_val rfl rfl rfl (y_move rfl) ?_
            refine g_val rfl rfl rfl (y_move rfl) ?_
            refine g_val rfl rfl rfl (y_rdAddr hrd rfl rfl Try.underlying23 Try.sizeOf45 (by omega) (by omega)) ?_
            refine g_val rfl rfl rfl (y_fieldAt (k := 0) rfl (by kernel_rfl) rfl) ?_
            refine g_val rfl rfl rfl (y_rdField (i := b) (j := 0) hrd rfl rfl Try.isAgg28 (by omega) (by omega) (by decide)) ?_
            refine g_val rfl rfl rfl (y_assign rfl) ?_
            refine g_val rfl rfl rfl (y_assign rfl) ?_
            refine g_nil (g_then (g_ret (g_in_ret (g_then_ret (g_then_ret (g_in_ret (g_then_ret ?_)))))))
            refine g_end2 Try.results20 rfl rfl ?_
            exact fun w hS => ⟨⟨(some b.toNat, 142), .inr ⟨by omega, .inr ⟨(fun k hk => q1 k (by omega)), .inl ⟨b.toNat, by omega, ⟨by omega, by omega⟩, (fun k h1 h2 => q2 k (by omega) h2), rfl⟩⟩⟩⟩, rfl, hS.below⟩
          · skip
            refine g_cond_f rfl (g_skip (g_in_normal (g_then (g_ops ?_))))
            refine g_val rfl rfl rfl (y_move rfl) ?_
            refine g_val rfl rfl rfl (by first | exact y_subi rfl rfl (by first | omega | (simp only [size_mk, ByteArray.size_append, ByteArray.size_extract]; omega)) | exact y_isub rfl rfl) ?_
            refine g_val rfl rfl rfl (y_assign rfl) ?_
            refine g_nil ?_
            exact g_again ⟨b - 1, by omega, by omega, f2_step (by omega) q2 (fun q => by have := q.1; have := q.2; omega)⟩ [0, 5] (by dsimp only; omega) rfl (fun w h => h.sub .slnil)
        · skip
          refine g_not rfl rfl rfl ?_
          refine g_not rfl rfl rfl ?_
          refine g_not rfl rfl rfl ?_
          refine g_not rfl rfl rfl ?_
          refine g_val rfl rfl rfl (y_pick_f rfl rfl) ?_
          refine g_nil (g_then (g_cond_f rfl (g_skip (g_in_normal (g_then (g_ops ?_))))))
          refine g_val rfl rfl rfl (y_move rfl) ?_
          refine g_val rfl rfl rfl (by first | exact y_subi rfl rfl (by first | omega | (simp only [size_mk, ByteArray.size_append, ByteArray.size_extract]; omega)) | exact y_isub rfl rfl) ?_
          refine g_val rfl rfl rfl (y_assign rfl) ?_
          refine g_nil ?_
          exact g_again ⟨b - 1, by omega, by omega, f2_step (by omega) q2 (fun q => by have := q.1; have := q.2; omega)⟩ [0, 5] (by dsimp only; omega) rfl (fun w h => h.sub .slnil)
      · skip
        refine g_cond_f rfl (g_exit (g_then_exit (g_then_exit (g_in_exit (g_then (g_seq (g_seq (g_ops ?_))))))))
        refine g_val rfl rfl rfl (y_assign rfl) ?_
        refine g_nil (g_then (g_block ?_))
        refine g_loop (α := {x : Int // 0 ≤ x ∧ x ≤ n ∧ ∀ k, k < x.toNat → ¬ f3 cs n k}) (fun x => [(0, .slice p n c), (6, .int .i64 x.1)]) (fun x => St w [] []) (fun x => n - x.1.toNat) ⟨0, by omega, by omega, fun k h => absurd h (Nat.not_lt_zero k)⟩ [0, 6] rfl (fun w h => h.sub .slnil) ?_
        rintro ⟨d, hx⟩
        dsimp only
        obtain ⟨hk0, hk1, q3⟩ := hx
        refine g_seq (g_seq (g_ops ?_))
        refine g_val rfl rfl rfl (y_move rfl) ?_
        refine g_val rfl rfl rfl (y_move rfl) ?_
        refine g_val rfl rfl rfl (y_llen rfl Try.underlying23) ?_
        refine g_val rfl rfl rfl (y_ilt rfl rfl) ?_
        refine g_nil (g_then ?_)
        first | refine g_casep 61 rfl (fun h8 => ?_) (fun h8 => ?_) | refine g_caseb 61 rfl (fun h8 => ?_) (fun h8 => ?_)
        · skip
          refine g_cond_t rfl (g_skip (g_then (g_seq (g_block (g_seq (g_ops ?_))))))
          refine g_val rfl rfl rfl (y_move rfl) ?_
          refine g_val rfl rfl rfl (y_move rfl) ?_
          refine g_val rfl rfl rfl (y_rdAddr hrd rfl rfl Try.underlying23 Try.sizeOf45 (by omega) (by omega)) ?_
          refine g_val rfl rfl rfl (y_fieldAt (k := 1) rfl (by kernel_rfl) rfl) ?_
          refine g_val rfl rfl rfl (y_rdField (i := d) (j := 1) hrd rfl rfl Try.isAgg5 (by omega) (by omega) (by decide)) ?_
          refine g_val rfl rfl rfl (y_ieq rfl rfl) ?_
          refine g_val rfl rfl rfl (y_move rfl) ?_
          first | refine g_casep 70 rfl (fun h9 => ?_) (fun h9 => ?_) | refine g_caseb 70 rfl (fun h9 => ?_) (fun h9 => ?_)
          · skip
            refine g_val rfl rfl rfl (y_move rfl) ?_
            refine g_val rfl rfl rfl (y_move rfl) ?_
            refine g_val rfl rfl rfl (y_move rfl) ?_
            refine g_val rfl rfl rfl (y_rdAddr hrd rfl rfl Try.underlying23 Try.sizeOf45 (by omega) (by omega)) ?_
            refine g_val rfl rfl rfl (y_fieldAt (k := 25) rfl (by kernel_rfl) rfl) ?_
            refine g_val rfl rfl rfl (y_rdField (i := d) (j := 25) hrd rfl rfl Try.isAgg9 (by omega) (by omega) (by decide)) ?_
            refine g_call1 rfl rfl rfl Try.call22 (fun w hS => label_any _ n _ cs w hn (hrd.stays hS) (cs d.toNat).tx) ?_
            refine g_val rfl rfl rfl (y_move rfl) ?_
            refine g_val rfl rfl rfl (y_ilt rfl rfl) ?_
            refine g_val rfl rfl rfl (y_pick_t rfl rfl) ?_
            refine g_nil (g_then ?_)
            first | refine g_casep 80 rfl (fun h10 => ?_) (fun h10 => ?_) | refine g_caseb 80 rfl (fun h10 => ?_) (fun h10 => ?_)
            · skip
              refine g_cond_t rfl (g_seq (g_ops ?_))
              refine g_val rfl rfl rfl (y_move rfl) ?_
              refine g_val rfl rfl rfl (y_move rfl) ?_
              refine g_val rfl rfl rfl (y_rdAddr hrd rfl rfl Try.underlying23 Try.sizeOf45 (by omega) (by omega)) ?_
              refine g_val rfl rfl rfl (y_fieldAt (k := 0) rfl (by kernel_rfl) rfl) ?_
              refine g_val rfl rfl rfl (y_rdField (i := d) (j := 0) hrd rfl rfl Try.isAgg28 (by omega) (by omega) (by decide)) ?_
              refine g_val rfl rfl rfl (y_assign rfl) ?_
              refine g_val rfl rfl rfl (y_assign rfl) ?_
              refine g_nil (g_then (g_ret (g_in_ret (g_then_ret (g_then_ret (g_in_ret (g_then_ret ?_)))))))
              refine g_end2 Try.results20 rfl rfl ?_
              exact fun w hS => ⟨⟨(some d.toNat, 141), .inr ⟨by omega, .inr ⟨(fun k hk => q1 k (by omega)), .inr ⟨(fun k hk => q2 k (by omega) hk), .inl ⟨d.toNat, by omega, ⟨by omega, by omega⟩, q3, rfl⟩⟩⟩⟩⟩, rfl, hS.below⟩
            · skip
              refine g_cond_f rfl (g_skip (g_in_normal (g_then (g_ops ?_))))
              refine g_val rfl rfl rfl (y_move rfl) ?_
              refine g_val rfl rfl rfl (by first | exact y_addi rfl rfl (by first | omega | (simp only [size_mk, ByteArray.size_append, ByteArray.size_extract]; omega)) | exact y_iadd rfl rfl) ?_
              refine g_val rfl rfl rfl (y_assign rfl) ?_
              refine g_nil ?_
              exact g_again ⟨d + 1, by omega, by omega, by rw [show (d + 1).toNat = d.toNat + 1 by omega]; exact stepN q3 (fun q => by have := q.1; have := q.2; omega)⟩ [0, 6] (by dsimp only; omega) rfl (fun w h => h.sub .slnil)
          · skip
            refine g_not rfl rfl rfl ?_
            refine g_not rfl rfl rfl ?_
            refine g_not rfl rfl rfl ?_
            refine g_not rfl rfl rfl ?_
            refine g_not rfl rfl rfl ?_
            refine g_not rfl rfl rfl ?_
            refine g_not rfl rfl rfl ?_
            refine g_not rfl rfl rfl ?_
            refine g_not rfl rfl rfl ?_
            refine g_val rfl rfl rfl (y_pick_f rfl rfl) ?_
            refine g_nil (g_then (g_cond_f rfl (g_skip (g_in_normal (g_then (g_ops ?_))))))
            refine g_val rfl rfl rfl (y_move rfl) ?_
            refine g_val rfl rfl rfl (by first | exact y_addi rfl rfl (by first | omega | (simp only [size_mk, ByteArray.size_append, ByteArray.size_extract]; omega)) | exact y_iadd rfl rfl) ?_
            refine g_val rfl rfl rfl (y_assign rfl) ?_
            refine g_nil ?_
            exact g_again ⟨d + 1, by omega, by omega, by rw [show (d + 1).toNat = d.toNat + 1 by omega]; exact stepN q3 (fun q => by have := q.1; have := q.2; omega)⟩ [0, 6] (by dsimp only; omega) rfl (fun w h => h.sub .slnil)
        · skip
          refine g_cond_f rfl (g_exit (g_then_exit (g_then_exit (g_in_exit (g_then (g_seq (g_seq (g_ops ?_))))))))
          refine g_val rfl rfl rfl (y_assign rfl) ?_
          refine g_nil (g_then (g_block ?_))
          refine g_loop (α := {x : Int // 0 ≤ x ∧ x ≤ n ∧ ∀ k, k < x.toNat → ¬ f4 cs n k}) (fun x => [(0, .slice p n c), (7, .int .i64 x.1)]) (fun x => St w [] []) (fun x => n - x.1.toNat) ⟨0, by omega, by omega, fun k h => absurd h (Nat.not_lt_zero k)⟩ [0, 7] rfl (fun w h => h.sub .slnil) ?_
          rintro ⟨e, hx⟩
          dsimp only
          obtain ⟨hk0, hk1, q4⟩ := hx
          refine g_seq (g_seq (g_ops ?_))
          refine g_val rfl rfl rfl (y_move rfl) ?_
          refine g_val rfl rfl rfl (y_move rfl) ?_
          refine g_val rfl rfl rfl (y_llen rfl Try.underlying23) ?_
          refine g_val rfl rfl rfl (y_ilt rfl rfl) ?_
          refine g_nil (g_then ?_)
          first | refine g_casep 89 rfl (fun h11 => ?_) (fun h11 => ?_) | refine g_caseb 89 rfl (fun h11 => ?_) (fun h11 => ?_)
          · skip
            refine g_cond_t rfl (g_skip (g_then (g_seq (g_block (g_seq (g_ops ?_))))))
            refine g_val rfl rfl rfl (y_move rfl) ?_
            refine g_val rfl rfl rfl (y_move rfl) ?_
            refine g_val rfl rfl rfl (y_rdAddr hrd rfl rfl Try.underlying23 Try.sizeOf45 (by omega) (by omega)) ?_
            refine g_val rfl rfl rfl (y_fieldAt (k := 1) rfl (by kernel_rfl) rfl) ?_
            refine g_val rfl rfl rfl (y_rdField (i := e) (j := 1) hrd rfl rfl Try.isAgg5 (by omega) (by omega) (by decide)) ?_
            refine g_val rfl rfl rfl (y_ieq rfl rfl) ?_
            refine g_val rfl rfl rfl (y_move rfl) ?_
            first | refine g_casep 98 rfl (fun h12 => ?_) (fun h12 => ?_) | refine g_caseb 98 rfl (fun h12 => ?_) (fun h12 => ?_)
            · skip
              refine g_not rfl rfl rfl ?_
              refine g_not rfl rfl rfl ?_
              refine g_not rfl rfl rfl ?_
              refine g_not rfl rfl rfl ?_
              refine g_not rfl rfl rfl ?_
              refine g_not rfl rfl rfl ?_
              refine g_val rfl rfl rfl (y_pick_t rfl rfl) ?_
              refine g_val rfl rfl rfl (y_move rfl) ?_
              refine g_val rfl rfl rfl (y_move rfl) ?_
              refine g_val rfl rfl rfl (y_move rfl) ?_
              refine g_val rfl rfl rfl (y_rdAddr hrd rfl rfl Try.underlying23 Try.sizeOf45 (by omega) (by omega)) ?_
              refine g_val rfl rfl rfl (y_fieldAt (k := 25) rfl (by kernel_rfl) rfl) ?_
              refine g_val rfl rfl rfl (y_rdField (i := e) (j := 25) hrd rfl rfl Try.isAgg9 (by omega) (by omega) (by decide)) ?_
              refine g_val rfl rfl rfl (y_sne rfl rfl) ?_
              refine g_val rfl rfl rfl (y_pick_t rfl rfl) ?_
              refine g_val rfl rfl rfl (y_move rfl) ?_
              first | refine g_casep 114 rfl (fun h13 => ?_) (fun h13 => ?_) | refine g_caseb 114 rfl (fun h13 => ?_) (fun h13 => ?_)
              · skip
                refine g_val rfl rfl rfl (y_move rfl) ?_
                refine g_val rfl rfl rfl (y_move rfl) ?_
                refine g_val rfl rfl rfl (y_move rfl) ?_
                refine g_val rfl rfl rfl (y_rdAddr hrd rfl rfl Try.underlying23 Try.sizeOf45 (by omega) (by omega)) ?_
                refine g_val rfl rfl rfl (y_fieldAt (k := 25) rfl (by kernel_rfl) rfl) ?_
                refine g_val rfl rfl rfl (y_rdField (i := e) (j := 25) hrd rfl rfl Try.isAgg9 (by omega) (by omega) (by decide)) ?_
                refine g_call1 rfl rfl rfl Try.call22 (fun w hS => label_any _ n _ cs w hn (hrd.stays hS) (cs e.toNat).tx) ?_
                refine g_val rfl rfl rfl (y_ilt rfl rfl) ?_
                refine g_val rfl rfl rfl (y_pick_t rfl rfl) ?_
                refine g_nil (g_then ?_)
                first | refine g_casep 123 rfl (fun h14 => ?_) (fun h14 => ?_) | refine g_caseb 123 rfl (fun h14 => ?_) (fun h14 => ?_)
                · skip
                  refine g_cond_t rfl (g_seq (g_ops ?_))
                  refine g_val rfl rfl rfl (y_move rfl) ?_
                  refine g_val rfl rfl rfl (y_move rfl) ?_
                  refine g_val rfl rfl rfl (y_rdAddr hrd rfl rfl Try.underlying23 Try.sizeOf45 (by omega) (by omega)) ?_
                  refine g_val rfl rfl rfl (y_fieldAt (k := 0) rfl (by kernel_rfl) rfl) ?_
                  refine g_val rfl rfl rfl (y_rdField (i := e) (j := 0) hrd rfl rfl Try.isAgg28 (by omega) (by omega) (by decide)) ?_
                  refine g_val rfl rfl rfl (y_assign rfl) ?_
                  refine g_val rfl rfl rfl (y_assign rfl) ?_
                  refine g_nil (g_then (g_ret (g_in_ret (g_then_ret (g_then_ret (g_in_ret (g_then_ret ?_)))))))
                  refine g_end2 Try.results20 rfl rfl ?_
                  exact fun w hS => ⟨⟨(some e.toNat, 141), .inr ⟨by omega, .inr ⟨(fun k hk => q1 k (by omega)), .inr ⟨(fun k hk => q2 k (by omega) hk), .inr ⟨(fun k hk => q3 k (by omega)), .inl ⟨e.toNat, by omega, ⟨by unfold isB; omega, by assumption, by omega⟩, q4, rfl⟩⟩⟩⟩⟩⟩, rfl, hS.below⟩
                · skip
                  refine g_cond_f rfl (g_skip (g_in_normal (g_then (g_ops ?_))))
                  refine g_val rfl rfl rfl (y_move rfl) ?_
                  refine g_val rfl rfl rfl (by first | exact y_addi rfl rfl (by first | omega | (simp only [size_mk, ByteArray.size_append, ByteArray.size_extract]; omega)) | exact y_iadd rfl rfl) ?_
                  refine g_val rfl rfl rfl (y_assign rfl) ?_
                  refine g_nil ?_
                  exact g_again ⟨e + 1, by omega, by omega, by rw [show (e + 1).toNat = e.toNat + 1 by omega]; exact stepN q4 (fun q => by first | (rcases q.1 with z | z <;> omega) | exact absurd q.2.1 (by assumption) | (have := q.2.2; omega))⟩ [0, 7] (by dsimp only; omega) rfl (fun w h => h.sub .slnil)
              · skip
                refine g_not rfl rfl rfl ?_
                refine g_not rfl rfl rfl ?_
                refine g_not rfl rfl rfl ?_
                refine g_not rfl rfl rfl ?_
                refine g_not rfl rfl rfl ?_
                refine g_not rfl rfl rfl ?_
                refine g_not rfl rfl rfl ?_
                refine g_not rfl rfl rfl ?_
                refine g_val rfl rfl rfl (y_pick_f rfl rfl) ?_
                refine g_nil (g_then (g_cond_f rfl (g_skip (g_in_normal (g_then (g_ops ?_))))))
                refine g_val rfl rfl rfl (y_move rfl) ?_
                refine g_val rfl rfl rfl (by first | exact y_addi rfl rfl (by first | omega | (simp only [size_mk, ByteArray.size_append, ByteArray.size_extract]; omega)) | exact y_iadd rfl rfl) ?_
                refine g_val rfl rfl rfl (y_assign rfl) ?_
                refine g_nil ?_
                exact g_again ⟨e + 1, by omega, by omega, by rw [show (e + 1).toNat = e.toNat + 1 by omega]; exact stepN q4 (fun q => by first | (rcases q.1 with z | z <;> omega) | exact absurd q.2.1 (by assumption) | (have := q.2.2; omega))⟩ [0, 7] (by dsimp only; omega) rfl (fun w h => h.sub .slnil)
            · skip
              refine g_val rfl rfl rfl (y_move rfl) ?_
              refine g_val rfl rfl rfl (y_move rfl) ?_
              refine g_val rfl rfl rfl (y_rdAddr hrd rfl rfl Try.underlying23 Try.sizeOf45 (by omega) (by omega)) ?_
              refine g_val rfl rfl rfl (y_fieldAt (k := 1) rfl (by kernel_rfl) rfl) ?_
              refine g_val rfl rfl rfl (y_rdField (i := e) (j := 1) hrd rfl rfl Try.isAgg5 (by omega) (by omega) (by decide)) ?_
              refine g_val rfl rfl rfl (y_ieq rfl rfl) ?_
              refine g_val rfl rfl rfl (y_pick_f rfl rfl) ?_
              refine g_val rfl rfl rfl (y_move rfl) ?_
              first | refine g_casep 106 rfl (fun h15 => ?_) (fun h15 => ?_) | refine g_caseb 106 rfl (fun h15 => ?_) (fun h15 => ?_)
              · skip
                refine g_val rfl rfl rfl (y_move rfl) ?_
                refine g_val rfl rfl rfl (y_move rfl) ?_
                refine g_val rfl rfl rfl (y_rdAddr hrd rfl rfl Try.underlying23 Try.sizeOf45 (by omega) (by omega)) ?_
                refine g_val rfl rfl rfl (y_fieldAt (k := 25) rfl (by kernel_rfl) rfl) ?_
                refine g_val rfl rfl rfl (y_rdField (i := e) (j := 25) hrd rfl rfl Try.isAgg9 (by omega) (by omega) (by decide)) ?_
                refine g_val rfl rfl rfl (y_sne rfl rfl) ?_
                refine g_val rfl rfl rfl (y_pick_t rfl rfl) ?_
                refine g_val rfl rfl rfl (y_move rfl) ?_
                first | refine g_casep 114 rfl (fun h16 => ?_) (fun h16 => ?_) | refine g_caseb 114 rfl (fun h16 => ?_) (fun h16 => ?_)
                · skip
                  refine g_val rfl rfl rfl (y_move rfl) ?_
                  refine g_val rfl rfl rfl (y_move rfl) ?_
                  refine g_val rfl rfl rfl (y_move rfl) ?_
                  refine g_val rfl rfl rfl (y_rdAddr hrd rfl rfl Try.underlying23 Try.sizeOf45 (by omega) (by omega)) ?_
                  refine g_val rfl rfl rfl (y_fieldAt (k := 25) rfl (by kernel_rfl) rfl) ?_
                  refine g_val rfl rfl rfl (y_rdField (i := e) (j := 25) hrd rfl rfl Try.isAgg9 (by omega) (by omega) (by decide)) ?_
                  refine g_call1 rfl rfl rfl Try.call22 (fun w hS => label_any _ n _ cs w hn (hrd.stays hS) (cs e.toNat).tx) ?_
                  refine g_val rfl rfl rfl (y_ilt rfl rfl) ?_
                  refine g_val rfl rfl rfl (y_pick_t rfl rfl) ?_
                  refine g_nil (g_then ?_)
                  first | refine g_casep 123 rfl (fun h17 => ?_) (fun h17 => ?_) | refine g_caseb 123 rfl (fun h17 => ?_) (fun h17 => ?_)
                  · skip
                    refine g_cond_t rfl (g_seq (g_ops ?_))
                    refine g_val rfl rfl rfl (y_move rfl) ?_
                    refine g_val rfl rfl rfl (y_move rfl) ?_
                    refine g_val rfl rfl rfl (y_rdAddr hrd rfl rfl Try.underlying23 Try.sizeOf45 (by omega) (by omega)) ?_
                    refine g_val rfl rfl rfl (y_fieldAt (k := 0) rfl (by kernel_rfl) rfl) ?_
                    refine g_val rfl rfl rfl (y_rdField (i := e) (j := 0) hrd rfl rfl Try.isAgg28 (by omega) (by omega) (by decide)) ?_
                    refine g_val rfl rfl rfl (y_assign rfl) ?_
                    refine g_val rfl rfl rfl (y_assign rfl) ?_
                    refine g_nil (g_then (g_ret (g_in_ret (g_then_ret (g_then_ret (g_in_ret (g_then_ret ?_)))))))
                    refine g_end2 Try.results20 rfl rfl ?_
                    exact fun w hS => ⟨⟨(some e.toNat, 141), .inr ⟨by omega, .inr ⟨(fun k hk => q1 k (by omega)), .inr ⟨(fun k hk => q2 k (by omega) hk), .inr ⟨(fun k hk => q3 k (by omega)), .inl ⟨e.toNat, by omega, ⟨by unfold isB; omega, by assumption, by omega⟩, q4, rfl⟩⟩⟩⟩⟩⟩, rfl, hS.below⟩
                  · skip
                    refine g_cond_f rfl (g_skip (g_in_normal (g_then (g_ops ?_))))
                    refine g_val rfl rfl rfl (y_move rfl) ?_
                    refine g_val rfl rfl rfl (by first | exact y_addi rfl rfl (by first | omega | (simp only [size_mk, ByteArray.size_append, ByteArray.size_extract]; omega)) | exact y_iadd rfl rfl) ?_
                    refine g_val rfl rfl rfl (y_assign rfl) ?_
                    refine g_nil ?_
                    exact g_again ⟨e + 1, by omega, by omega, by rw [show (e + 1).toNat = e.toNat + 1 by omega]; exact stepN q4 (fun q => by first | (rcases q.1 with z | z <;> omega) | exact absurd q.2.1 (by assumption) | (have := q.2.2; omega))⟩ [0, 7] (by dsimp only; omega) rfl (fun w h => h.sub .slnil)
                · skip
                  refine g_not rfl rfl rfl ?_
                  refine g_not rfl rfl rfl ?_
                  refine g_not rfl rfl rfl ?_
                  refine g_not rfl rfl rfl ?_
                  refine g_not rfl rfl rfl ?_
                  refine g_not rfl rfl rfl ?_
                  refine g_not rfl rfl rfl ?_
                  refine g_not rfl rfl rfl ?_
                  refine g_val rfl rfl rfl (y_pick_f rfl rfl) ?_
                  refine g_nil (g_then (g_cond_f rfl (g_skip (g_in_normal (g_then (g_ops ?_))))))
                  refine g_val rfl rfl rfl (y_move rfl) ?_
                  refine g_val rfl rfl rfl (by first | exact y_addi rfl rfl (by first | omega | (simp only [size_mk, ByteArray.size_append, ByteArray.size_extract]; omega)) | exact y_iadd rfl rfl) ?_
                  refine g_val rfl rfl rfl (y_assign rfl) ?_
                  refine g_nil ?_
                  exact g_again ⟨e + 1, by omega, by omega, by rw [show (e + 1).toNat = e.toNat + 1 by omega]; exact stepN q4 (fun q => by first | (rcases q.1 with z | z <;> omega) | exact absurd q.2.1 (by assumption) | (have := q.2.2; omega))⟩ [0, 7] (by dsimp only; omega) rfl (fun w h => h.sub .slnil)
              · skip
                refine g_not rfl rfl rfl ?_
                refine g_not rfl rfl rfl ?_
                refine g_not rfl rfl rfl ?_
                refine g_not rfl rfl rfl ?_
                refine g_not rfl rfl rfl ?_
                refine g_not rfl rfl rfl ?_
                refine g_val rfl rfl rfl (y_pick_f rfl rfl) ?_
                refine g_val rfl rfl rfl (y_move rfl) ?_
                refine g_not rfl rfl rfl ?_
                refine g_not rfl rfl rfl ?_
                refine g_not rfl rfl rfl ?_
                refine g_not rfl rfl rfl ?_
                refine g_not rfl rfl rfl ?_
                refine g_not rfl rfl rfl ?_
                refine g_not rfl rfl rfl ?_
                refine g_not rfl rfl rfl ?_
                refine g_val rfl rfl rfl (y_pick_f rfl rfl) ?_
                refine g_nil (g_then (g_cond_f rfl (g_skip (g_in_normal (g_then (g_ops ?_))))))
                refine g_val rfl rfl rfl (y_move rfl) ?_
                refine g_val rfl rfl rfl (by first | exact y_addi rfl rfl (by first | omega | (simp only [size_mk, ByteArray.size_append, ByteArray.size_extract]; omega)) | exact y_iadd rfl rfl) ?_
                refine g_val rfl rfl rfl (y_assign rfl) ?_
                refine g_nil ?_
                exact g_again ⟨e + 1, by omega, by omega, by rw [show (e + 1).toNat = e.toNat + 1 by omega]; exact stepN q4 (fun q => by first | (rcases q.1 with z | z <;> omega) | exact absurd q.2.1 (by assumption) | (have := q.2.2; omega))⟩ [0, 7] (by dsimp only; omega) rfl (fun w h => h.sub .slnil)
          · skip
            refine g_cond_f rfl (g_exit (g_then_exit (g_then_exit (g_in_exit (g_then (g_seq (g_ops ?_)))))))
            refine g_val rfl rfl rfl (y_assign rfl) ?_
            refine g_val rfl rfl rfl (y_assign rfl) ?_
            refine g_nil (g_then (g_ret ?_))
            refine g_end2 Try.results20 rfl rfl ?_
            exact fun w hS => ⟨⟨(none, 0), .inr ⟨by omega, .inr ⟨(fun k hk => q1 k (by omega)), .inr ⟨(fun k hk => q2 k (by omega) hk), .inr ⟨(fun k hk => q3 k (by omega)), .inr ⟨(fun k hk => q4 k (by omega)), rfl⟩⟩⟩⟩⟩⟩, rfl, hS.below⟩

def refJ (cs : Nat → Cm) (n k : Nat) : Int := if (cs k).nm = 123 then closR cs n k else if isB cs k then (if (cs k).tx = ⟨#[]⟩ then (n : Int) else labF cs n (cs k).tx) else 0
def refR (cs : Nat → Cm) (n : Nat) (x : CX) : Prop := ∃ ko er, faultR cs n (ko, er) ∧
  ((er = 0 ∧ x = ⟨insOf cs (refJ cs n) n, 0, 0, 0⟩) ∨ (er ≠ 0 ∧ ((ko = none ∧ x = ⟨[], 0, 0, er⟩) ∨ ∃ k, ko = some k ∧ x = ⟨[], (cs k).re, (cs k).im, er⟩)))
theorem ins_snoc (cs : Nat → Cm) (j : Nat → Int) (i : Nat) : insOf cs j (i + 1) = insOf cs j i ++ [(cs i, j i)] := by unfold insOf; rw [List.range_succ, List.map_append]; rfl
theorem refJ_a {cs : Nat → Cm} {n k : Nat} (h : (cs k).nm = 123) : closR cs n k = refJ cs n k := by unfold refJ; rw [if_pos h]
theorem refJ_b {cs : Nat → Cm} {n k : Nat} (h : isB cs k) (h2 : (cs k).tx = ⟨#[]⟩) : (n : Int) = refJ cs n k := by
  unfold refJ; rw [if_neg (by unfold isB at h; omega), if_pos h, if_pos h2]
theorem refJ_c {cs : Nat → Cm} {n k : Nat} (h : isB cs k) (h2 : ¬ (cs k).tx = ⟨#[]⟩) : labF cs n (cs k).tx = refJ cs n k := by
  unfold refJ; rw [if_neg (by unfold isB at h; omega), if_pos h, if_neg h2]
theorem refJ_d {cs : Nat → Cm} {n k : Nat} (h1 : (cs k).nm ≠ 123) (h2 : (cs k).nm ≠ 98) (h3 : (cs k).nm ≠ 116) : 0 = refJ cs n k := by
  unfold refJ; rw [if_neg h1, if_neg (by unfold isB; omega)]

theorem fault_none {cs : Nat → Cm} {n : Nat} {ko : Option Nat} (h : faultR cs n (ko, 0)) : ko = none := by
  rcases h with ⟨_, h⟩ | ⟨_, ⟨k, _, _, _, h⟩ | ⟨_, ⟨k, _, _, _, h⟩ | ⟨_, ⟨k, _, _, _, h⟩ | ⟨_, ⟨k, _, _, _, h⟩ | ⟨_, h⟩⟩⟩⟩⟩ <;> simp_all

set_option maxRecDepth 100000 in
theorem rcompile_any (p : Option Addr) (n c : Nat) (cs : Nat → Cm) (w : World) (hn : n ≤ 1000) (hrd : RdSl w p n 42 (cmF cs)) :
    Calls Try.prog 12 #[.slice p n c] w fun e w' => ∃ x : {x : CX × Value // refR cs n x.1}, e = .returned (compV x.1) ∧ St w [] [.row 47 43 x.1.2 x.1.1.l.length (x.1.1.l.flatMap inC)] w' := by
  refine fn_intro Try.func12 rfl Try.ntmps12 rfl rfl ?_
  refine g_seq (g_ops ?_)
  refine g_val rfl rfl rfl (y_assign rfl) ?_
  refine g_val rfl rfl rfl (y_assign rfl) ?_
  refine g_val rfl rfl rfl (y_assign rfl) ?_
  refine g_nil (g_then (g_seq (g_ops ?_)))
  refine g_val rfl rfl rfl (y_move rfl) ?_
  refine g_call (α := {x : Option Nat × Int // faultR cs n x}) (fun x => faultV cs x.1) (fun _ => St w [] []) rfl rfl rfl Try.call20 (fun w hS => (fault_any p n c cs w hn (hrd.stays hS)).mono fun e w' ⟨x, he, hb⟩ => ⟨x, he, by simpa using hS.then (St.of_below hb)⟩) ?_
  rintro ⟨⟨ko, er⟩, hfa⟩
  by_cases her : er = 0
  · skip
    subst her
    obtain rfl : ko = none := fault_none hfa
    refine g_val rfl rfl rfl (y_move rfl) ?_
    refine g_val (v := .complex .f64 0 0) rfl rfl rfl (y_extract rfl rfl) ?_
    refine g_val (v := .int .i64 0) rfl rfl rfl (y_extract rfl rfl) ?_
    refine g_val rfl rfl rfl (y_assign rfl) ?_
    refine g_val rfl rfl rfl (y_assign rfl) ?_
    refine g_nil (g_then (g_seq (g_seq (g_ops ?_))))
    refine g_val rfl rfl rfl (y_move rfl) ?_
    refine g_val rfl rfl rfl (y_lit false (y_ine rfl rfl) (by decide)) ?_
    refine g_nil (g_then (g_cond_f rfl (g_skip (g_then (g_seq (g_ops ?_))))))
    refine g_nilRow 47 43 ?_
    refine g_val rfl rfl rfl (y_assign rfl) ?_
    refine g_nil (g_then (g_seq (g_seq (g_ops ?_))))
    refine g_val rfl rfl rfl (y_assign rfl) ?_
    refine g_nil (g_then (g_block ?_))
    refine g_loop (α := {x : Int × Value // 0 ≤ x.1 ∧ x.1 ≤ n}) (fun x => [(0, .slice p n c), (7, x.1.2), (8, .int .i64 x.1.1)]) (fun x => St w [] [.row 47 43 x.1.2 (insOf cs (refJ cs n) x.1.1.toNat).length ((insOf cs (refJ cs n) x.1.1.toNat).flatMap inC)]) (fun x => n - x.1.1.toNat) ⟨(0, .slice none 0 0), by dsimp only; omega, by dsimp only; omega⟩ [0, 7, 8] rfl (fun w h => h.sub (.cons_cons _ .slnil)) ?_
    rintro ⟨⟨i, v⟩, hx⟩
    dsimp only
    dsimp only at hx
    obtain ⟨hi0, hi1⟩ := hx
    have hcl := ins_len cs (refJ cs n) i.toNat
    refine g_seq (g_seq (g_ops ?_))
    refine g_val rfl rfl rfl (y_move rfl) ?_
    refine g_val rfl rfl rfl (y_move rfl) ?_
    refine g_val rfl rfl rfl (y_llen rfl Try.underlying23) ?_
    refine g_val rfl rfl rfl (y_ilt rfl rfl) ?_
    refine g_nil (g_then ?_)
    first | refine g_casep 22 rfl (fun h1 => ?_) (fun h1 => ?_) | refine g_caseb 22 rfl (fun h1 => ?_) (fun h1 => ?_)
    · skip
      try dsimp only at h1
      refine g_cond_t rfl (g_skip (g_then (g_seq (g_block (g_seq (g_ops ?_))))))
      refine g_val rfl rfl rfl (y_move rfl) ?_
      refine g_val rfl rfl rfl (y_move rfl) ?_
      refine g_val rfl rfl rfl (y_rdAddr hrd rfl rfl Try.underlying23 Try.sizeOf45 (by omega) (by omega)) ?_
      refine g_val rfl rfl rfl (y_rdAgg (i := i) (vs := cmC (cs i.toNat)) hrd rfl Try.isAgg45 Try.sizeOf45 (by omega) (by omega) rfl (fun j hj => cm_get cs i.toNat j hj)) ?_
      refine g_val rfl rfl rfl (y_build (offs := [0]) rfl Try.zeroValue47 (by kernel_rfl)) ?_
      refine g_alloc rfl rfl Try.zeroValue47 rfl (fun b1 => ?_)
      refine g_stN 0 rfl rfl rfl (by kernel_rfl) rfl rfl rfl rfl ?_
      simp only [List.set_cons_zero]
      refine g_nil (g_then (g_seq (g_seq (g_ops ?_))))
      refine g_val rfl rfl rfl (y_move rfl) ?_
      refine g_val rfl rfl rfl (y_move rfl) ?_
      refine g_val rfl rfl rfl (y_rdAddr hrd rfl rfl Try.underlying23 Try.sizeOf45 (by omega) (by omega)) ?_
      refine g_val rfl rfl rfl (y_fieldAt (k := 1) rfl (by kernel_rfl) rfl) ?_
      refine g_val rfl rfl rfl (y_rdField (i := i) (j := 1) hrd rfl rfl Try.isAgg5 (by omega) (by omega) (by decide)) ?_
      refine g_nil (g_then (g_block (g_seq (g_ops ?_))))
      refine g_val rfl rfl rfl (y_ieq rfl rfl) ?_
      refine g_val rfl rfl rfl (y_assign rfl) ?_
      refine g_nil (g_then ?_)
      first | refine g_casep 35 rfl (fun h2 => ?_) (fun h2 => ?_) | refine g_caseb 35 rfl (fun h2 => ?_) (fun h2 => ?_)
      · skip
        try dsimp only at h2
        refine g_cond_t rfl (g_ops ?_)
        refine g_val rfl rfl rfl (y_move rfl) ?_
        refine g_val rfl rfl rfl (y_move rfl) ?_
        refine g_call1 (vs := [.slice p n c, .int .i64 ((i.toNat : Nat) : Int)]) rfl rfl (show some [Value.slice p n c, Value.int .i64 i] = _ by rw [Int.toNat_of_nonneg (by omega)]) Try.call21 (fun w hS => closed_any _ n _ cs w hn (hrd.stays hS) i.toNat (by omega)) ?_
        refine g_val rfl rfl rfl (y_fieldAddr (k := 42) (m := 42) rfl (by kernel_rfl) rfl) ?_
        refine g_st 0 rfl rfl rfl Try.sizeOf3 rfl rfl rfl ?_
        simp only [List.set_cons_zero]
        refine g_nil (g_in_normal (g_then (g_ops ?_)))
        refine g_val rfl rfl rfl (y_move rfl) ?_
        refine g_val rfl rfl rfl (y_ldN 0 rfl Try.isAgg47 Try.sizeOf47 rfl rfl rfl) ?_
        refine g_buildSlice (offs := [0]) rfl rfl Try.underlying27 rfl Try.zeroValue47 (by kernel_rfl) (fun b2 => ?_)
        refine g_appS (bytes := 432) inC ((cs i.toNat, (closR cs n i.toNat))) 2 (j := 0) rfl rfl rfl rfl Try.underlying27 (by kernel_rfl) rfl rfl inC_len rfl (by omega) (by have : maxLen = 9223372036854775807 := rfl; omega) (fun v3 => ?_)
        simp only [List.set_cons_zero, List.set_cons_succ]
        rw [show insOf cs (refJ cs n) i.toNat ++ [(cs i.toNat, (closR cs n i.toNat))] = insOf cs (refJ cs n) (i + 1).toNat by rw [show (i + 1).toNat = i.toNat + 1 by omega, ins_snoc, ← show ((closR cs n i.toNat) : Int) = refJ cs n i.toNat from refJ_a (by omega)]]
        refine g_val rfl rfl rfl (y_assign rfl) ?_
        refine g_nil (g_in_normal (g_then (g_ops ?_)))
        refine g_val rfl rfl rfl (y_move rfl) ?_
        refine g_val rfl rfl rfl (by first | exact y_addi rfl rfl (by first | omega | (simp only [size_mk, ByteArray.size_append, ByteArray.size_extract]; omega)) | exact y_iadd rfl rfl) ?_
        refine g_val rfl rfl rfl (y_assign rfl) ?_
        refine g_nil ?_
        exact g_again ⟨(i + 1, _), by dsimp only; omega, by dsimp only; omega⟩ [0, 7, 8] (by dsimp only; omega) rfl (fun w h => h.sub (.cons _ (.cons _ (.cons_cons _ .slnil))))
      · skip
        try dsimp only at h2
        refine g_cond_f rfl (g_seq (g_seq (g_ops ?_)))
        refine g_val rfl rfl rfl (y_ieq rfl rfl) ?_
        refine g_val rfl rfl rfl (y_assign rfl) ?_
        refine g_nil (g_then ?_)
        first | refine g_casep 41 rfl (fun h3 => ?_) (fun h3 => ?_) | refine g_caseb 41 rfl (fun h3 => ?_) (fun h3 => ?_)
        · skip
          try dsimp only at h3
          refine g_cond_t rfl (g_skip (g_then (g_cond_t rfl (g_seq (g_ops ?_)))))
          refine g_val rfl rfl rfl (y_move rfl) ?_
          refine g_val rfl rfl rfl (y_llen rfl Try.underlying23) ?_
          refine g_val rfl rfl rfl (y_fieldAddr (k := 42) (m := 42) rfl (by kernel_rfl) rfl) ?_
          refine g_st 0 rfl rfl rfl Try.sizeOf3 rfl rfl rfl ?_
          simp only [List.set_cons_zero]
          refine g_nil (g_then (g_seq (g_ops ?_)))
          refine g_val rfl rfl rfl (y_move rfl) ?_
          refine g_val rfl rfl rfl (y_move rfl) ?_
          refine g_val rfl rfl rfl (y_rdAddr hrd rfl rfl Try.underlying23 Try.sizeOf45 (by omega) (by omega)) ?_
          refine g_val rfl rfl rfl (y_fieldAt (k := 25) rfl (by kernel_rfl) rfl) ?_
          refine g_val rfl rfl rfl (y_rdField (i := i) (j := 25) hrd rfl rfl Try.isAgg9 (by omega) (by omega) (by decide)) ?_
          refine g_val rfl rfl rfl (y_sne rfl rfl) ?_
          refine g_nil (g_then ?_)
          first | refine g_casep 52 rfl (fun h4 => ?_) (fun h4 => ?_) | refine g_caseb 52 rfl (fun h4 => ?_) (fun h4 => ?_)
          · skip
            try dsimp only at h4
            refine g_cond_t rfl (g_ops ?_)
            refine g_val rfl rfl rfl (y_move rfl) ?_
            refine g_val rfl rfl rfl (y_move rfl) ?_
            refine g_val rfl rfl rfl (y_move rfl) ?_
            refine g_val rfl rfl rfl (y_rdAddr hrd rfl rfl Try.underlying23 Try.sizeOf45 (by omega) (by omega)) ?_
            refine g_val rfl rfl rfl (y_fieldAt (k := 25) rfl (by kernel_rfl) rfl) ?_
            refine g_val rfl rfl rfl (y_rdField (i := i) (j := 25) hrd rfl rfl Try.isAgg9 (by omega) (by omega) (by decide)) ?_
            refine g_call1 rfl rfl rfl Try.call22 (fun w hS => label_any _ n _ cs w hn (hrd.stays hS) (cs i.toNat).tx) ?_
            refine g_val rfl rfl rfl (y_fieldAddr (k := 42) (m := 42) rfl (by kernel_rfl) rfl) ?_
            refine g_st 0 rfl rfl rfl Try.sizeOf3 rfl rfl rfl ?_
            simp only [List.set_cons_zero]
            refine g_nil (g_in_normal (g_then (g_ops ?_)))
            refine g_val rfl rfl rfl (y_move rfl) ?_
            refine g_val rfl rfl rfl (y_ldN 0 rfl Try.isAgg47 Try.sizeOf47 rfl rfl rfl) ?_
            refine g_buildSlice (offs := [0]) rfl rfl Try.underlying27 rfl Try.zeroValue47 (by kernel_rfl) (fun b4 => ?_)
            refine g_appS (bytes := 432) inC ((cs i.toNat, (labF cs n (cs i.toNat).tx))) 2 (j := 0) rfl rfl rfl rfl Try.underlying27 (by kernel_rfl) rfl rfl inC_len rfl (by omega) (by have : maxLen = 9223372036854775807 := rfl; omega) (fun v5 => ?_)
            simp only [List.set_cons_zero, List.set_cons_succ]
            rw [show insOf cs (refJ cs n) i.toNat ++ [(cs i.toNat, (labF cs n (cs i.toNat).tx))] = insOf cs (refJ cs n) (i + 1).toNat by rw [show (i + 1).toNat = i.toNat + 1 by omega, ins_snoc, ← show ((labF cs n (cs i.toNat).tx) : Int) = refJ cs n i.toNat from refJ_c (by unfold isB; omega) (by assumption)]]
            refine g_val rfl rfl rfl (y_assign rfl) ?_
            refine g_nil (g_in_normal (g_then (g_ops ?_)))
            refine g_val rfl rfl rfl (y_move rfl) ?_
            refine g_val rfl rfl rfl (by first | exact y_addi rfl rfl (by first | omega | (simp only [size_mk, ByteArray.size_append, ByteArray.size_extract]; omega)) | exact y_iadd rfl rfl) ?_
            refine g_val rfl rfl rfl (y_assign rfl) ?_
            refine g_nil ?_
            exact g_again ⟨(i + 1, _), by dsimp only; omega, by dsimp only; omega⟩ [0, 7, 8] (by dsimp only; omega) rfl (fun w h => h.sub (.cons _ (.cons _ (.cons_cons _ .slnil))))
          · skip
            try dsimp only at h4
            refine g_cond_f rfl (g_skip (g_in_normal (g_then (g_ops ?_))))
            refine g_val rfl rfl rfl (y_move rfl) ?_
            refine g_val rfl rfl rfl (y_ldN 0 rfl Try.isAgg47 Try.sizeOf47 rfl rfl rfl) ?_
            refine g_buildSlice (offs := [0]) rfl rfl Try.underlying27 rfl Try.zeroValue47 (by kernel_rfl) (fun b6 => ?_)
            refine g_appS (bytes := 432) inC ((cs i.toNat, (n : Int))) 2 (j := 0) rfl rfl rfl rfl Try.underlying27 (by kernel_rfl) rfl rfl inC_len rfl (by omega) (by have : maxLen = 9223372036854775807 := rfl; omega) (fun v7 => ?_)
            simp only [List.set_cons_zero, List.set_cons_succ]
            rw [show insOf cs (refJ cs n) i.toNat ++ [(cs i.toNat, (n : Int))] = insOf cs (refJ cs n) (i + 1).toNat by rw [show (i + 1).toNat = i.toNat + 1 by omega, ins_snoc, ← show ((n : Int) : Int) = refJ cs n i.toNat from refJ_b (by unfold isB; omega) (by simpa using ‹¬ (cs i.toNat).tx ≠ ⟨#[]⟩›)]]
            refine g_val rfl rfl rfl (y_assign rfl) ?_
            refine g_nil (g_in_normal (g_then (g_ops ?_)))
            refine g_val rfl rfl rfl (y_move rfl) ?_
            refine g_val rfl rfl rfl (by first | exact y_addi rfl rfl (by first | omega | (simp only [size_mk, ByteArray.size_append, ByteArray.size_extract]; omega)) | exact y_iadd rfl rfl) ?_
            refine g_val rfl rfl rfl (y_assign rfl) ?_
            refine g_nil ?_
            exact g_again ⟨(i + 1, _), by dsimp only; omega, by dsimp only; omega⟩ [0, 7, 8] (by dsimp only; omega) rfl (fun w h => h.sub (.cons _ (.cons _ (.cons_cons _ .slnil))))
        · skip
          try dsimp only at h3
          refine g_cond_f rfl (g_ops ?_)
          refine g_val rfl rfl rfl (y_ieq rfl rfl) ?_
          refine g_val rfl rfl rfl (y_assign rfl) ?_
          refine g_nil (g_then ?_)
          first | refine g_casep 41 rfl (fun h5 => ?_) (fun h5 => ?_) | refine g_caseb 41 rfl (fun h5 => ?_) (fun h5 => ?_)
          · skip
            try dsimp only at h5
            refine g_cond_t rfl (g_seq (g_ops ?_))
            refine g_val rfl rfl rfl (y_move rfl) ?_
            refine g_val rfl rfl rfl (y_llen rfl Try.underlying23) ?_
            refine g_val rfl rfl rfl (y_fieldAddr (k := 42) (m := 42) rfl (by kernel_rfl) rfl) ?_
            refine g_st 0 rfl rfl rfl Try.sizeOf3 rfl rfl rfl ?_
            simp only [List.set_cons_zero]
            refine g_nil (g_then (g_seq (g_ops ?_)))
            refine g_val rfl rfl rfl (y_move rfl) ?_
            refine g_val rfl rfl rfl (y_move rfl) ?_
            refine g_val rfl rfl rfl (y_rdAddr hrd rfl rfl Try.underlying23 Try.sizeOf45 (by omega) (by omega)) ?_
            refine g_val rfl rfl rfl (y_fieldAt (k := 25) rfl (by kernel_rfl) rfl) ?_
            refine g_val rfl rfl rfl (y_rdField (i := i) (j := 25) hrd rfl rfl Try.isAgg9 (by omega) (by omega) (by decide)) ?_
            refine g_val rfl rfl rfl (y_sne rfl rfl) ?_
            refine g_nil (g_then ?_)
            first | refine g_casep 52 rfl (fun h6 => ?_) (fun h6 => ?_) | refine g_caseb 52 rfl (fun h6 => ?_) (fun h6 => ?_)
            · skip
              try dsimp only at h6
              refine g_cond_t rfl (g_ops ?_)
              refine g_val rfl rfl rfl (y_move rfl) ?_
              refine g_val rfl rfl rfl (y_move rfl) ?_
              refine g_val rfl rfl rfl (y_move rfl) ?_
              refine g_val rfl rfl rfl (y_rdAddr hrd rfl rfl Try.underlying23 Try.sizeOf45 (by omega) (by omega)) ?_
              refine g_val rfl rfl rfl (y_fieldAt (k := 25) rfl (by kernel_rfl) rfl) ?_
              refine g_val rfl rfl rfl (y_rdField (i := i) (j := 25) hrd rfl rfl Try.isAgg9 (by omega) (by omega) (by decide)) ?_
              refine g_call1 rfl rfl rfl Try.call22 (fun w hS => label_any _ n _ cs w hn (hrd.stays hS) (cs i.toNat).tx) ?_
              refine g_val rfl rfl rfl (y_fieldAddr (k := 42) (m := 42) rfl (by kernel_rfl) rfl) ?_
              refine g_st 0 rfl rfl rfl Try.sizeOf3 rfl rfl rfl ?_
              simp only [List.set_cons_zero]
              refine g_nil (g_in_normal (g_then (g_ops ?_)))
              refine g_val rfl rfl rfl (y_move rfl) ?_
              refine g_val rfl rfl rfl (y_ldN 0 rfl Try.isAgg47 Try.sizeOf47 rfl rfl rfl) ?_
              refine g_buildSlice (offs := [0]) rfl rfl Try.underlying27 rfl Try.zeroValue47 (by kernel_rfl) (fun b8 => ?_)
              refine g_appS (bytes := 432) inC ((cs i.toNat, (labF cs n (cs i.toNat).tx))) 2 (j := 0) rfl rfl rfl rfl Try.underlying27 (by kernel_rfl) rfl rfl inC_len rfl (by omega) (by have : maxLen = 9223372036854775807 := rfl; omega) (fun v9 => ?_)
              simp only [List.set_cons_zero, List.set_cons_succ]
              rw [show insOf cs (refJ cs n) i.toNat ++ [(cs i.toNat, (labF cs n (cs i.toNat).tx))] = insOf cs (refJ cs n) (i + 1).toNat by rw [show (i + 1).toNat = i.toNat + 1 by omega, ins_snoc, ← show ((labF cs n (cs i.toNat).tx) : Int) = refJ cs n i.toNat from refJ_c (by unfold isB; omega) (by assumption)]]
              refine g_val rfl rfl rfl (y_assign rfl) ?_
              refine g_nil (g_in_normal (g_then (g_ops ?_)))
              refine g_val rfl rfl rfl (y_move rfl) ?_
              refine g_val rfl rfl rfl (by first | exact y_addi rfl rfl (by first | omega | (simp only [size_mk, ByteArray.size_append, ByteArray.size_extract]; omega)) | exact y_iadd rfl rfl) ?_
              refine g_val rfl rfl rfl (y_assign rfl) ?_
              refine g_nil ?_
              exact g_again ⟨(i + 1, _), by dsimp only; omega, by dsimp only; omega⟩ [0, 7, 8] (by dsimp only; omega) rfl (fun w h => h.sub (.cons _ (.cons _ (.cons_cons _ .slnil))))
            · skip
              try dsimp only at h6
              refine g_cond_f rfl (g_skip (g_in_normal (g_then (g_ops ?_))))
              refine g_val rfl rfl rfl (y_move rfl) ?_
              refine g_val rfl rfl rfl (y_ldN 0 rfl Try.isAgg47 Try.sizeOf47 rfl rfl rfl) ?_
              refine g_buildSlice (offs := [0]) rfl rfl Try.underlying27 rfl Try.zeroValue47 (by kernel_rfl) (fun b10 => ?_)
              refine g_appS (bytes := 432) inC ((cs i.toNat, (n : Int))) 2 (j := 0) rfl rfl rfl rfl Try.underlying27 (by kernel_rfl) rfl rfl inC_len rfl (by omega) (by have : maxLen = 9223372036854775807 := rfl; omega) (fun v11 => ?_)
              simp only [List.set_cons_zero, List.set_cons_succ]
              rw [show insOf cs (refJ cs n) i.toNat ++ [(cs i.toNat, (n : Int))] = insOf cs (refJ cs n) (i + 1).toNat by rw [show (i + 1).toNat = i.toNat + 1 by omega, ins_snoc, ← show ((n : Int) : Int) = refJ cs n i.toNat from refJ_b (by unfold isB; omega) (by simpa using ‹¬ (cs i.toNat).tx ≠ ⟨#[]⟩›)]]
              refine g_val rfl rfl rfl (y_assign rfl) ?_
              refine g_nil (g_in_normal (g_then (g_ops ?_)))
              refine g_val rfl rfl rfl (y_move rfl) ?_
              refine g_val rfl rfl rfl (by first | exact y_addi rfl rfl (by first | omega | (simp only [size_mk, ByteArray.size_append, ByteArray.size_extract]; omega)) | exact y_iadd rfl rfl) ?_
              refine g_val rfl rfl rfl (y_assign rfl) ?_
              refine g_nil ?_
              exact g_again ⟨(i + 1, _), by dsimp only; omega, by dsimp only; omega⟩ [0, 7, 8] (by dsimp only; omega) rfl (fun w h => h.sub (.cons _ (.cons _ (.cons_cons _ .slnil))))
          · skip
            try dsimp only at h5
            refine g_cond_f rfl (g_skip (g_in_normal (g_then (g_ops ?_))))
            refine g_val rfl rfl rfl (y_move rfl) ?_
            refine g_val rfl rfl rfl (y_ldN 0 rfl Try.isAgg47 Try.sizeOf47 rfl rfl rfl) ?_
            refine g_buildSlice (offs := [0]) rfl rfl Try.underlying27 rfl Try.zeroValue47 (by kernel_rfl) (fun b12 => ?_)
            refine g_appS (bytes := 432) inC ((cs i.toNat, 0)) 2 (j := 0) rfl rfl rfl rfl Try.underlying27 (by kernel_rfl) rfl rfl inC_len rfl (by omega) (by have : maxLen = 9223372036854775807 := rfl; omega) (fun v13 => ?_)
            simp only [List.set_cons_zero, List.set_cons_succ]
            rw [show insOf cs (refJ cs n) i.toNat ++ [(cs i.toNat, 0)] = insOf cs (refJ cs n) (i + 1).toNat by rw [show (i + 1).toNat = i.toNat + 1 by omega, ins_snoc, ← show (0 : Int) = refJ cs n i.toNat from refJ_d (by omega) (by omega) (by omega)]]
            refine g_val rfl rfl rfl (y_assign rfl) ?_
            refine g_nil (g_in_normal (g_then (g_ops ?_)))
            refine g_val rfl rfl rfl (y_move rfl) ?_
            refine g_val rfl rfl rfl (by first | exact y_addi rfl rfl (by first | omega | (simp only [size_mk, ByteArray.size_append, ByteArray.size_extract]; omega)) | exact y_iadd rfl rfl) ?_
            refine g_val rfl rfl rfl (y_assign rfl) ?_
            refine g_nil ?_
            exact g_again ⟨(i + 1, _), by dsimp only; omega, by dsimp only; omega⟩ [0, 7, 8] (by dsimp only; omega) rfl (fun w h => h.sub (.cons _ (.cons _ (.cons_cons _ .slnil))))
    · skip
      try dsimp only at h1
      refine g_cond_f rfl (g_exit (g_then_exit (g_then_exit (g_in_exit (g_then (g_seq (g_ops ?_)))))))
      refine g_val rfl rfl rfl (y_move rfl) ?_
      refine g_val rfl rfl rfl (y_assign rfl) ?_
      refine g_val rfl rfl rfl (y_assign rfl) ?_
      refine g_val rfl rfl rfl (y_assign rfl) ?_
      refine g_nil (g_then (g_ret ?_))
      refine g_end3 Try.results12 rfl rfl rfl ?_
      have hin : i.toNat = n := by omega
      rw [hin]
      exact fun w hS => ⟨⟨(⟨insOf cs (refJ cs n) n, 0, 0, 0⟩, _), none, 0, hfa, .inl ⟨rfl, rfl⟩⟩, rfl, hS.sub (.cons_cons _ .slnil)⟩
  · skip
    rcases ko with _ | k0
    · skip
      refine g_val rfl rfl rfl (y_move rfl) ?_
      refine g_val (v := .complex .f64 0 0) rfl rfl rfl (y_extract rfl rfl) ?_
      refine g_val (v := .int .i64 er) rfl rfl rfl (y_extract rfl rfl) ?_
      refine g_val rfl rfl rfl (y_assign rfl) ?_
      refine g_val rfl rfl rfl (y_assign rfl) ?_
      refine g_nil (g_then (g_seq (g_seq (g_ops ?_))))
      refine g_val rfl rfl rfl (y_move rfl) ?_
      refine g_val rfl rfl rfl (y_lit true (y_ine rfl rfl) (decide_eq_true her)) ?_
      refine g_nil (g_then (g_cond_t rfl (g_seq (g_ops ?_))))
      refine g_val rfl rfl rfl (y_move rfl) ?_
      refine g_val rfl rfl rfl (y_move rfl) ?_
      refine g_val rfl rfl rfl (y_assign rfl) ?_
      refine g_val rfl rfl rfl (y_assign rfl) ?_
      refine g_val rfl rfl rfl (y_assign rfl) ?_
      refine g_nil (g_then (g_ret (g_then_ret ?_)))
      refine g_end3 Try.results12 rfl rfl rfl ?_
      exact fun w hS => ⟨⟨(⟨[], 0, 0, er⟩, _), none, er, hfa, .inr ⟨her, .inl ⟨rfl, rfl⟩⟩⟩, rfl, (hS.sub .slnil).nilRow 47 43⟩
    · skip
      refine g_val rfl rfl rfl (y_move rfl) ?_
      refine g_val (v := .complex .f64 (cs k0).re (cs k0).im) rfl rfl rfl (y_extract rfl rfl) ?_
      refine g_val (v := .int .i64 er) rfl rfl rfl (y_extract rfl rfl) ?_
      refine g_val rfl rfl rfl (y_assign rfl) ?_
      refine g_val rfl rfl rfl (y_assign rfl) ?_
      refine g_nil (g_then (g_seq (g_seq (g_ops ?_))))
      refine g_val rfl rfl rfl (y_move rfl) ?_
      refine g_val rfl rfl rfl (y_lit true (y_ine rfl rfl) (decide_eq_true her)) ?_
      refine g_nil (g_then (g_cond_t rfl (g_seq (g_ops ?_))))
      refine g_val rfl rfl rfl (y_move rfl) ?_
      refine g_val rfl rfl rfl (y_move rfl) ?_
      refine g_val rfl rfl rfl (y_assign rfl) ?_
      refine g_val rfl rfl rfl (y_assign rfl) ?_
      refine g_val rfl rfl rfl (y_assign rfl) ?_
      refine g_nil (g_then (g_ret (g_then_ret ?_)))
      refine g_end3 Try.results12 rfl rfl rfl ?_
      exact fun w hS => ⟨⟨(⟨[], (cs k0).re, (cs k0).im, er⟩, _), some k0, er, hfa, .inr ⟨her, .inr ⟨k0, rfl, rfl⟩⟩⟩, rfl, (hS.sub .slnil).nilRow 47 43⟩

end Go.Proofs.Ytpacnggomjepdaa
