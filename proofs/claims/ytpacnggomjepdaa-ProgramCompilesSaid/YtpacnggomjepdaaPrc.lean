/- The commands of briefs. -/
import Derived.Test.YtpacnggomjepdaaPrl
import Derived.Test.YtpacnggomjepdaaH
namespace Go.Proofs.Ytpacnggomjepdaa
open Go Go.RowKit

structure Br where
  nm : Int
  tx : ByteArray
  fi : ByteArray
  ln : Int
  deriving Inhabited
def brF (bs : Nat → Br) (i j : Nat) : Value := match j with
  | 0 => .int .u8 (bs i).nm
  | 1 => .string (bs i).tx
  | 2 => .string (bs i).fi
  | _ => .int .i64 (bs i).ln
def lnOf (n : Int) : Int := if n < 0 ∨ 1000000 < n then 0 else n
def brCm (b : Br) : Cm := ⟨fl (lnOf b.ln), 4607182418800017408, b.nm, b.tx, b.fi⟩
def cmdsOf (bs : Nat → Br) (n : Nat) : List Cm := (List.range n).map fun i => brCm (bs i)
theorem cmds_snoc (bs : Nat → Br) (n : Nat) : cmdsOf bs (n + 1) = cmdsOf bs n ++ [brCm (bs n)] := by unfold cmdsOf; rw [List.range_succ, List.map_append]; rfl
theorem cmds_len (bs : Nat → Br) (n : Nat) : (cmdsOf bs n).length = n := by unfold cmdsOf; simp
def fits (bs : Nat → Br) (n : Nat) : Prop := n ≤ 220 ∧ ∀ i, i < n → (bs i).tx.size ≤ 100 ∧ (bs i).fi.size ≤ 100

set_option maxRecDepth 100000 in
theorem commands_any (p : Option Addr) (n c : Nat) (bs : Nat → Br) (w : World) (hn : n ≤ 9223372036854775807) (hrd : RdSl w p n 4 (brF bs)) :
    Calls Try.prog 8 #[.slice p n c] w fun e w' => (fits bs n ∧ ∃ v, e = .returned (.tuple #[v, .bool true]) ∧ St w [] [.row 45 42 v (cmdsOf bs n).length ((cmdsOf bs n).flatMap cmC)] w') ∨ (¬ fits bs n ∧ e = .returned (.tuple #[.slice none 0 0, .bool false]) ∧ Below w.heap.size w w') := by
  refine fn_intro Try.func8 rfl Try.ntmps8 rfl rfl ?_
  refine g_seq (g_ops ?_)
  refine g_val rfl rfl rfl (y_assign rfl) ?_
  refine g_val rfl rfl rfl (y_assign rfl) ?_
  refine g_nil (g_then (g_seq (g_ops ?_)))
  refine g_nilRow 45 42 ?_
  refine g_val rfl rfl rfl (y_assign rfl) ?_
  refine g_nil (g_then (g_seq (g_seq (g_ops ?_))))
  refine g_val rfl rfl rfl (y_assign rfl) ?_
  refine g_nil (g_then (g_block ?_))
  refine g_loop (α := {x : Int × Value × List Cm // 0 ≤ x.1 ∧ x.1 ≤ n ∧ x.1 ≤ 220 ∧ x.2.2 = cmdsOf bs x.1.toNat ∧ fits bs x.1.toNat}) (fun x => [(0, .slice p n c), (4, x.1.2.1), (5, .int .i64 x.1.1)]) (fun x => St w [] [.row 45 42 x.1.2.1 x.1.2.2.length (x.1.2.2.flatMap cmC)]) (fun x => n - x.1.1.toNat) ⟨(0, .slice none 0 0, []), by dsimp only; omega, by dsimp only; omega, by dsimp only; omega, rfl, by omega, fun i h => by omega⟩ [0, 4, 5] rfl (fun w h => h.sub (.cons_cons _ .slnil)) ?_
  rintro ⟨⟨i, v, cs⟩, hx⟩
  dsimp only
  dsimp only at hx
  obtain ⟨hi0, hi1, hi2, hcs, hfit⟩ := hx
  have hcl : cs.length = i.toNat := by rw [hcs, cmds_len]
  refine g_seq (g_seq (g_ops ?_))
  refine g_val rfl rfl rfl (y_move rfl) ?_
  refine g_val rfl rfl rfl (y_move rfl) ?_
  refine g_val rfl rfl rfl (y_llen rfl Try.underlying22) ?_
  refine g_val rfl rfl rfl (y_ilt rfl rfl) ?_
  refine g_nil (g_then ?_)
  first | refine g_casep 10 rfl (fun h1 => ?_) (fun h1 => ?_) | refine g_caseb 10 rfl (fun h1 => ?_) (fun h1 => ?_)
  · skip
    refine g_cond_t rfl (g_skip (g_then (g_seq (g_block (g_seq (g_seq (g_ops ?_)))))))
    refine g_val rfl rfl rfl (y_move rfl) ?_
    refine g_val rfl rfl rfl (y_ieq rfl rfl) ?_
    refine g_val rfl rfl rfl (y_move rfl) ?_
    first | refine g_casep 15 rfl (fun h2 => ?_) (fun h2 => ?_) | refine g_caseb 15 rfl (fun h2 => ?_) (fun h2 => ?_)
    · skip
      refine g_not rfl rfl rfl ?_
      refine g_not rfl rfl rfl ?_
      refine g_not rfl rfl rfl ?_
      refine g_not rfl rfl rfl ?_
      refine g_not rfl rfl rfl ?_
      refine g_not rfl rfl rfl ?_
      refine g_not rfl rfl rfl ?_
      refine g_val rfl rfl rfl (y_pick_t rfl rfl) ?_
      refine g_val rfl rfl rfl (y_move rfl) ?_
      refine g_not rfl rfl rfl ?_
      refine g_not rfl rfl rfl ?_
      refine g_not rfl rfl rfl ?_
      refine g_not rfl rfl rfl ?_
      refine g_not rfl rfl rfl ?_
      refine g_not rfl rfl rfl ?_
      refine g_not rfl rfl rfl ?_
      refine g_val rfl rfl rfl (y_pick_t rfl rfl) ?_
      refine g_nil (g_then (g_cond_t rfl (g_seq (g_ops ?_))))
      refine g_val rfl rfl rfl (y_assign rfl) ?_
      refine g_val rfl rfl rfl (y_assign rfl) ?_
      refine g_nil (g_then (g_ret (g_then_ret (g_in_ret (g_then_ret (g_then_ret (g_in_ret (g_then_ret ?_))))))))
      refine g_end2 Try.results8 rfl rfl ?_
      exact fun w hS => .inr ⟨fun q => (by have := q.1; have := q.2 i.toNat (by omega); omega), rfl, (hS.sub (L' := []) (List.nil_sublist _)).below⟩
    · skip
      refine g_val rfl rfl rfl (y_move rfl) ?_
      refine g_val rfl rfl rfl (y_move rfl) ?_
      refine g_val rfl rfl rfl (y_rdAddr hrd rfl rfl Try.underlying22 Try.sizeOf58 (by omega) (by omega)) ?_
      refine g_val rfl rfl rfl (y_fieldAt (k := 1) rfl (by kernel_rfl) rfl) ?_
      refine g_val rfl rfl rfl (y_rdField (i := i) (j := 1) hrd rfl rfl Try.isAgg9 (by omega) (by omega) (by decide)) ?_
      refine g_val rfl rfl rfl (y_slen rfl Try.underlying9) ?_
      refine g_val rfl rfl rfl (y_igt rfl rfl) ?_
      refine g_val rfl rfl rfl (y_pick_f rfl rfl) ?_
      refine g_val rfl rfl rfl (y_move rfl) ?_
      first | refine g_casep 24 rfl (fun h3 => ?_) (fun h3 => ?_) | refine g_caseb 24 rfl (fun h3 => ?_) (fun h3 => ?_)
      · skip
        refine g_not rfl rfl rfl ?_
        refine g_not rfl rfl rfl ?_
        refine g_not rfl rfl rfl ?_
        refine g_not rfl rfl rfl ?_
        refine g_not rfl rfl rfl ?_
        refine g_not rfl rfl rfl ?_
        refine g_not rfl rfl rfl ?_
        refine g_val rfl rfl rfl (y_pick_t rfl rfl) ?_
        refine g_nil (g_then (g_cond_t rfl (g_seq (g_ops ?_))))
        refine g_val rfl rfl rfl (y_assign rfl) ?_
        refine g_val rfl rfl rfl (y_assign rfl) ?_
        refine g_nil (g_then (g_ret (g_then_ret (g_in_ret (g_then_ret (g_then_ret (g_in_ret (g_then_ret ?_))))))))
        refine g_end2 Try.results8 rfl rfl ?_
        exact fun w hS => .inr ⟨fun q => (by have := q.1; have := q.2 i.toNat (by omega); omega), rfl, (hS.sub (L' := []) (List.nil_sublist _)).below⟩
      · skip
        refine g_val rfl rfl rfl (y_move rfl) ?_
        refine g_val rfl rfl rfl (y_move rfl) ?_
        refine g_val rfl rfl rfl (y_rdAddr hrd rfl rfl Try.underlying22 Try.sizeOf58 (by omega) (by omega)) ?_
        refine g_val rfl rfl rfl (y_fieldAt (k := 2) rfl (by kernel_rfl) rfl) ?_
        refine g_val rfl rfl rfl (y_rdField (i := i) (j := 2) hrd rfl rfl Try.isAgg9 (by omega) (by omega) (by decide)) ?_
        refine g_val rfl rfl rfl (y_slen rfl Try.underlying9) ?_
        refine g_val rfl rfl rfl (y_igt rfl rfl) ?_
        refine g_val rfl rfl rfl (y_pick_f rfl rfl) ?_
        refine g_nil (g_then ?_)
        first | refine g_casep 32 rfl (fun h4 => ?_) (fun h4 => ?_) | refine g_caseb 32 rfl (fun h4 => ?_) (fun h4 => ?_)
        · skip
          refine g_cond_t rfl (g_seq (g_ops ?_))
          refine g_val rfl rfl rfl (y_assign rfl) ?_
          refine g_val rfl rfl rfl (y_assign rfl) ?_
          refine g_nil (g_then (g_ret (g_then_ret (g_in_ret (g_then_ret (g_then_ret (g_in_ret (g_then_ret ?_))))))))
          refine g_end2 Try.results8 rfl rfl ?_
          exact fun w hS => .inr ⟨fun q => (by have := q.1; have := q.2 i.toNat (by omega); omega), rfl, (hS.sub (L' := []) (List.nil_sublist _)).below⟩
        · skip
          refine g_cond_f rfl (g_skip (g_then (g_seq (g_ops ?_))))
          refine g_val rfl rfl rfl (y_move rfl) ?_
          refine g_val rfl rfl rfl (y_move rfl) ?_
          refine g_val rfl rfl rfl (y_rdAddr hrd rfl rfl Try.underlying22 Try.sizeOf58 (by omega) (by omega)) ?_
          refine g_val rfl rfl rfl (y_fieldAt (k := 3) rfl (by kernel_rfl) rfl) ?_
          refine g_val rfl rfl rfl (y_rdField (i := i) (j := 3) hrd rfl rfl Try.isAgg3 (by omega) (by omega) (by decide)) ?_
          refine g_val rfl rfl rfl (y_assign rfl) ?_
          refine g_nil (g_then (g_seq (g_seq (g_ops ?_))))
          refine g_val rfl rfl rfl (y_move rfl) ?_
          refine g_val rfl rfl rfl (y_ilt rfl rfl) ?_
          refine g_val rfl rfl rfl (y_move rfl) ?_
          first | refine g_casep 40 rfl (fun h5 => ?_) (fun h5 => ?_) | refine g_caseb 40 rfl (fun h5 => ?_) (fun h5 => ?_)
          · skip
            refine g_not rfl rfl rfl ?_
            refine g_not rfl rfl rfl ?_
            refine g_val rfl rfl rfl (y_pick_t rfl rfl) ?_
            refine g_nil (g_then (g_cond_t rfl (g_ops ?_)))
            refine g_val rfl rfl rfl (y_assign rfl) ?_
            refine g_nil (g_then ?_)
            refine h_start (St w [] []) (by kernel_rfl) ?_
            refine h_take 0 rfl (by kernel_rfl) (by kernel_rfl) (by kernel_rfl) (fun _ _ _ _ _ h => h) rfl rfl rfl (fun w h => h.sub (List.nil_sublist _)) (y_move rfl) ?_
            refine h_take 1 rfl (by kernel_rfl) (by kernel_rfl) (by kernel_rfl) (fun _ _ _ _ _ h => h) rfl rfl rfl (fun w h => h.sub (List.nil_sublist _)) (y_move rfl) ?_
            refine h_take 2 rfl (by kernel_rfl) (by kernel_rfl) (by kernel_rfl) (fun _ _ _ _ _ h => h) rfl rfl rfl (fun w h => h.sub (List.nil_sublist _)) (y_move rfl) ?_
            refine h_take 3 rfl (by kernel_rfl) (by kernel_rfl) (by kernel_rfl) (fun _ _ _ _ _ h => h) rfl rfl rfl (fun w h => h.sub (List.nil_sublist _)) (y_rdAddr hrd rfl rfl Try.underlying22 Try.sizeOf58 (by omega) (by omega)) ?_
            refine h_take 4 rfl (by kernel_rfl) (by kernel_rfl) (by kernel_rfl) (fun _ _ _ _ _ h => h) rfl rfl rfl (fun w h => h.sub (List.nil_sublist _)) (y_fieldAt (k := 0) rfl (by kernel_rfl) rfl) ?_
            refine h_take 5 rfl (by kernel_rfl) (by kernel_rfl) (by kernel_rfl) (fun _ _ _ _ _ h => h) rfl rfl rfl (fun w h => h.sub (List.nil_sublist _)) (y_rdField (i := i) (j := 0) hrd rfl rfl Try.isAgg5 (by omega) (by omega) (by decide)) ?_
            refine h_take 6 rfl (by kernel_rfl) (by kernel_rfl) (by kernel_rfl) (fun _ _ _ _ _ h => h) rfl rfl rfl (fun w h => h.sub (List.nil_sublist _)) (y_move rfl) ?_
            refine h_take 7 rfl (by kernel_rfl) (by kernel_rfl) (by kernel_rfl) (fun _ _ _ _ _ h => h) rfl rfl rfl (fun w h => h.sub (List.nil_sublist _)) (y_move rfl) ?_
            refine h_take 8 rfl (by kernel_rfl) (by kernel_rfl) (by kernel_rfl) (fun _ _ _ _ _ h => h) rfl rfl rfl (fun w h => h.sub (List.nil_sublist _)) (y_rdAddr hrd rfl rfl Try.underlying22 Try.sizeOf58 (by omega) (by omega)) ?_
            refine h_take 9 rfl (by kernel_rfl) (by kernel_rfl) (by kernel_rfl) (fun _ _ _ _ _ h => h) rfl rfl rfl (fun w h => h.sub (List.nil_sublist _)) (y_fieldAt (k := 1) rfl (by kernel_rfl) rfl) ?_
            refine h_take 10 rfl (by kernel_rfl) (by kernel_rfl) (by kernel_rfl) (fun _ _ _ _ _ h => h) rfl rfl rfl (fun w h => h.sub (List.nil_sublist _)) (y_rdField (i := i) (j := 1) hrd rfl rfl Try.isAgg9 (by omega) (by omega) (by decide)) ?_
            refine h_take 11 rfl (by kernel_rfl) (by kernel_rfl) (by kernel_rfl) (fun _ _ _ _ _ h => h) rfl rfl rfl (fun w h => h.sub (List.nil_sublist _)) (y_move rfl) ?_
            refine h_take 12 rfl (by kernel_rfl) (by kernel_rfl) (by kernel_rfl) (fun _ _ _ _ _ h => h) rfl rfl rfl (fun w h => h.sub (List.nil_sublist _)) (y_move rfl) ?_
            refine h_take 13 rfl (by kernel_rfl) (by kernel_rfl) (by kernel_rfl) (fun _ _ _ _ _ h => h) rfl rfl rfl (fun w h => h.sub (List.nil_sublist _)) (y_rdAddr hrd rfl rfl Try.underlying22 Try.sizeOf58 (by omega) (by omega)) ?_
            refine h_take 14 rfl (by kernel_rfl) (by kernel_rfl) (by kernel_rfl) (fun _ _ _ _ _ h => h) rfl rfl rfl (fun w h => h.sub (List.nil_sublist _)) (y_fieldAt (k := 2) rfl (by kernel_rfl) rfl) ?_
            refine h_take 15 rfl (by kernel_rfl) (by kernel_rfl) (by kernel_rfl) (fun _ _ _ _ _ h => h) rfl rfl rfl (fun w h => h.sub (List.nil_sublist _)) (y_rdField (i := i) (j := 2) hrd rfl rfl Try.isAgg9 (by omega) (by omega) (by decide)) ?_
            refine h_take 16 rfl (by kernel_rfl) (by kernel_rfl) (by kernel_rfl) (fun _ _ _ _ _ h => h) rfl rfl rfl (fun w h => h.sub (List.nil_sublist _)) (y_move rfl) ?_
            refine h_take 17 rfl (by kernel_rfl) (by kernel_rfl) (by kernel_rfl) (fun _ _ _ _ _ h => h) rfl rfl rfl (fun w h => h.sub (List.nil_sublist _)) (y_toF rfl Try.underlying3 Try.underlying51) ?_
            refine h_take 18 rfl (by kernel_rfl) (by kernel_rfl) (by kernel_rfl) (fun _ _ _ _ _ h => h) rfl rfl rfl (fun w h => h.sub (List.nil_sublist _)) (y_cplx rfl (fl_c fl_1)) ?_
            refine h_take 19 rfl (by kernel_rfl) (by kernel_rfl) (by kernel_rfl) (fun _ _ _ _ _ h => h) rfl rfl rfl (fun w h => h.sub (List.nil_sublist _)) (y_build (offs := [1, 25, 41, 0]) rfl Try.zeroValue45 (by kernel_rfl)) ?_
            refine h_do 20 rfl (by kernel_rfl) ?_
            refine g_buildSlice (offs := [0]) rfl rfl Try.underlying23 rfl Try.zeroValue45 (by kernel_rfl) (fun b1 => ?_)
            refine g_nil ?_
            refine h_and (fun w h => h.sub (List.nil_sublist _)) ?_
            refine h_do 21 rfl (by kernel_rfl) ?_
            refine g_appS (bytes := 424) cmC (⟨fl 0, 4607182418800017408, (bs i.toNat).nm, (bs i.toNat).tx, (bs i.toNat).fi⟩) 1 (j := 0) rfl rfl rfl rfl Try.underlying23 (by kernel_rfl) rfl rfl cmC_len rfl (by omega) (by have : maxLen = 9223372036854775807 := rfl; omega) (fun v2 => ?_)
            simp only [List.set_cons_zero, List.set_cons_succ]
            refine g_nil ?_
            refine h_and (fun w h => h.sub (List.nil_sublist _)) ?_
            refine h_take 22 rfl (by kernel_rfl) (by kernel_rfl) (by kernel_rfl) (fun _ _ _ _ _ h => h) rfl rfl rfl (fun w h => h.sub (List.nil_sublist _)) (y_assign rfl) ?_
            refine h_done (by kernel_rfl) ?_
            refine g_in_normal (g_then (g_ops ?_))
            refine g_val rfl rfl rfl (y_move rfl) ?_
            refine g_val rfl rfl rfl (by first | exact y_addi rfl rfl (by first | omega | (simp only [size_mk, ByteArray.size_append, ByteArray.size_extract]; omega)) | exact y_iadd rfl rfl) ?_
            refine g_val rfl rfl rfl (y_assign rfl) ?_
            refine g_nil ?_
            exact g_again ⟨(i + 1, _, _), by dsimp only; omega, by dsimp only; omega, by dsimp only; omega, by dsimp only; rw [show (i + 1).toNat = i.toNat + 1 by omega, cmds_snoc, ← hcs]; unfold brCm lnOf; first | rw [if_pos (by omega)] | rw [if_neg (by omega)], ⟨by omega, fun j hj => if q : j = i.toNat then by rw [q]; omega else hfit.2 j (by omega)⟩⟩ [0, 4, 5] (by dsimp only; omega) rfl (fun w h => h.sub (.cons _ (.cons_cons _ .slnil)))
          · skip
            refine g_val rfl rfl rfl (y_move rfl) ?_
            refine g_val rfl rfl rfl (y_igt rfl rfl) ?_
            refine g_val rfl rfl rfl (y_pick_f rfl rfl) ?_
            refine g_nil (g_then ?_)
            first | refine g_casep 43 rfl (fun h6 => ?_) (fun h6 => ?_) | refine g_caseb 43 rfl (fun h6 => ?_) (fun h6 => ?_)
            · skip
              refine g_cond_t rfl (g_ops ?_)
              refine g_val rfl rfl rfl (y_assign rfl) ?_
              refine g_nil (g_then ?_)
              refine h_start (St w [] []) (by kernel_rfl) ?_
              refine h_take 0 rfl (by kernel_rfl) (by kernel_rfl) (by kernel_rfl) (fun _ _ _ _ _ h => h) rfl rfl rfl (fun w h => h.sub (List.nil_sublist _)) (y_move rfl) ?_
              refine h_take 1 rfl (by kernel_rfl) (by kernel_rfl) (by kernel_rfl) (fun _ _ _ _ _ h => h) rfl rfl rfl (fun w h => h.sub (List.nil_sublist _)) (y_move rfl) ?_
              refine h_take 2 rfl (by kernel_rfl) (by kernel_rfl) (by kernel_rfl) (fun _ _ _ _ _ h => h) rfl rfl rfl (fun w h => h.sub (List.nil_sublist _)) (y_move rfl) ?_
              refine h_take 3 rfl (by kernel_rfl) (by kernel_rfl) (by kernel_rfl) (fun _ _ _ _ _ h => h) rfl rfl rfl (fun w h => h.sub (List.nil_sublist _)) (y_rdAddr hrd rfl rfl Try.underlying22 Try.sizeOf58 (by omega) (by omega)) ?_
              refine h_take 4 rfl (by kernel_rfl) (by kernel_rfl) (by kernel_rfl) (fun _ _ _ _ _ h => h) rfl rfl rfl (fun w h => h.sub (List.nil_sublist _)) (y_fieldAt (k := 0) rfl (by kernel_rfl) rfl) ?_
              refine h_take 5 rfl (by kernel_rfl) (by kernel_rfl) (by kernel_rfl) (fun _ _ _ _ _ h => h) rfl rfl rfl (fun w h => h.sub (List.nil_sublist _)) (y_rdField (i := i) (j := 0) hrd rfl rfl Try.isAgg5 (by omega) (by omega) (by decide)) ?_
              refine h_take 6 rfl (by kernel_rfl) (by kernel_rfl) (by kernel_rfl) (fun _ _ _ _ _ h => h) rfl rfl rfl (fun w h => h.sub (List.nil_sublist _)) (y_move rfl) ?_
              refine h_take 7 rfl (by kernel_rfl) (by kernel_rfl) (by kernel_rfl) (fun _ _ _ _ _ h => h) rfl rfl rfl (fun w h => h.sub (List.nil_sublist _)) (y_move rfl) ?_
              refine h_take 8 rfl (by kernel_rfl) (by kernel_rfl) (by kernel_rfl) (fun _ _ _ _ _ h => h) rfl rfl rfl (fun w h => h.sub (List.nil_sublist _)) (y_rdAddr hrd rfl rfl Try.underlying22 Try.sizeOf58 (by omega) (by omega)) ?_
              refine h_take 9 rfl (by kernel_rfl) (by kernel_rfl) (by kernel_rfl) (fun _ _ _ _ _ h => h) rfl rfl rfl (fun w h => h.sub (List.nil_sublist _)) (y_fieldAt (k := 1) rfl (by kernel_rfl) rfl) ?_
              refine h_take 10 rfl (by kernel_rfl) (by kernel_rfl) (by kernel_rfl) (fun _ _ _ _ _ h => h) rfl rfl rfl (fun w h => h.sub (List.nil_sublist _)) (y_rdField (i := i) (j := 1) hrd rfl rfl Try.isAgg9 (by omega) (by omega) (by decide)) ?_
              refine h_take 11 rfl (by kernel_rfl) (by kernel_rfl) (by kernel_rfl) (fun _ _ _ _ _ h => h) rfl rfl rfl (fun w h => h.sub (List.nil_sublist _)) (y_move rfl) ?_
              refine h_take 12 rfl (by kernel_rfl) (by kernel_rfl) (by kernel_rfl) (fun _ _ _ _ _ h => h) rfl rfl rfl (fun w h => h.sub (List.nil_sublist _)) (y_move rfl) ?_
              refine h_take 13 rfl (by kernel_rfl) (by kernel_rfl) (by kernel_rfl) (fun _ _ _ _ _ h => h) rfl rfl rfl (fun w h => h.sub (List.nil_sublist _)) (y_rdAddr hrd rfl rfl Try.underlying22 Try.sizeOf58 (by omega) (by omega)) ?_
              refine h_take 14 rfl (by kernel_rfl) (by kernel_rfl) (by kernel_rfl) (fun _ _ _ _ _ h => h) rfl rfl rfl (fun w h => h.sub (List.nil_sublist _)) (y_fieldAt (k := 2) rfl (by kernel_rfl) rfl) ?_
              refine h_take 15 rfl (by kernel_rfl) (by kernel_rfl) (by kernel_rfl) (fun _ _ _ _ _ h => h) rfl rfl rfl (fun w h => h.sub (List.nil_sublist _)) (y_rdField (i := i) (j := 2) hrd rfl rfl Try.isAgg9 (by omega) (by omega) (by decide)) ?_
              refine h_take 16 rfl (by kernel_rfl) (by kernel_rfl) (by kernel_rfl) (fun _ _ _ _ _ h => h) rfl rfl rfl (fun w h => h.sub (List.nil_sublist _)) (y_move rfl) ?_
              refine h_take 17 rfl (by kernel_rfl) (by kernel_rfl) (by kernel_rfl) (fun _ _ _ _ _ h => h) rfl rfl rfl (fun w h => h.sub (List.nil_sublist _)) (y_toF rfl Try.underlying3 Try.underlying51) ?_
              refine h_take 18 rfl (by kernel_rfl) (by kernel_rfl) (by kernel_rfl) (fun _ _ _ _ _ h => h) rfl rfl rfl (fun w h => h.sub (List.nil_sublist _)) (y_cplx rfl (fl_c fl_1)) ?_
              refine h_take 19 rfl (by kernel_rfl) (by kernel_rfl) (by kernel_rfl) (fun _ _ _ _ _ h => h) rfl rfl rfl (fun w h => h.sub (List.nil_sublist _)) (y_build (offs := [1, 25, 41, 0]) rfl Try.zeroValue45 (by kernel_rfl)) ?_
              refine h_do 20 rfl (by kernel_rfl) ?_
              refine g_buildSlice (offs := [0]) rfl rfl Try.underlying23 rfl Try.zeroValue45 (by kernel_rfl) (fun b3 => ?_)
              refine g_nil ?_
              refine h_and (fun w h => h.sub (List.nil_sublist _)) ?_
              refine h_do 21 rfl (by kernel_rfl) ?_
              refine g_appS (bytes := 424) cmC (⟨fl 0, 4607182418800017408, (bs i.toNat).nm, (bs i.toNat).tx, (bs i.toNat).fi⟩) 1 (j := 0) rfl rfl rfl rfl Try.underlying23 (by kernel_rfl) rfl rfl cmC_len rfl (by omega) (by have : maxLen = 9223372036854775807 := rfl; omega) (fun v4 => ?_)
              simp only [List.set_cons_zero, List.set_cons_succ]
              refine g_nil ?_
              refine h_and (fun w h => h.sub (List.nil_sublist _)) ?_
              refine h_take 22 rfl (by kernel_rfl) (by kernel_rfl) (by kernel_rfl) (fun _ _ _ _ _ h => h) rfl rfl rfl (fun w h => h.sub (List.nil_sublist _)) (y_assign rfl) ?_
              refine h_done (by kernel_rfl) ?_
              refine g_in_normal (g_then (g_ops ?_))
              refine g_val rfl rfl rfl (y_move rfl) ?_
              refine g_val rfl rfl rfl (by first | exact y_addi rfl rfl (by first | omega | (simp only [size_mk, ByteArray.size_append, ByteArray.size_extract]; omega)) | exact y_iadd rfl rfl) ?_
              refine g_val rfl rfl rfl (y_assign rfl) ?_
              refine g_nil ?_
              exact g_again ⟨(i + 1, _, _), by dsimp only; omega, by dsimp only; omega, by dsimp only; omega, by dsimp only; rw [show (i + 1).toNat = i.toNat + 1 by omega, cmds_snoc, ← hcs]; unfold brCm lnOf; first | rw [if_pos (by omega)] | rw [if_neg (by omega)], ⟨by omega, fun j hj => if q : j = i.toNat then by rw [q]; omega else hfit.2 j (by omega)⟩⟩ [0, 4, 5] (by dsimp only; omega) rfl (fun w h => h.sub (.cons _ (.cons_cons _ .slnil)))
            · skip
              refine g_cond_f rfl (g_skip (g_then ?_))
              refine h_start (St w [] []) (by kernel_rfl) ?_
              refine h_take 0 rfl (by kernel_rfl) (by kernel_rfl) (by kernel_rfl) (fun _ _ _ _ _ h => h) rfl rfl rfl (fun w h => h.sub (List.nil_sublist _)) (y_move rfl) ?_
              refine h_take 1 rfl (by kernel_rfl) (by kernel_rfl) (by kernel_rfl) (fun _ _ _ _ _ h => h) rfl rfl rfl (fun w h => h.sub (List.nil_sublist _)) (y_move rfl) ?_
              refine h_take 2 rfl (by kernel_rfl) (by kernel_rfl) (by kernel_rfl) (fun _ _ _ _ _ h => h) rfl rfl rfl (fun w h => h.sub (List.nil_sublist _)) (y_move rfl) ?_
              refine h_take 3 rfl (by kernel_rfl) (by kernel_rfl) (by kernel_rfl) (fun _ _ _ _ _ h => h) rfl rfl rfl (fun w h => h.sub (List.nil_sublist _)) (y_rdAddr hrd rfl rfl Try.underlying22 Try.sizeOf58 (by omega) (by omega)) ?_
              refine h_take 4 rfl (by kernel_rfl) (by kernel_rfl) (by kernel_rfl) (fun _ _ _ _ _ h => h) rfl rfl rfl (fun w h => h.sub (List.nil_sublist _)) (y_fieldAt (k := 0) rfl (by kernel_rfl) rfl) ?_
              refine h_take 5 rfl (by kernel_rfl) (by kernel_rfl) (by kernel_rfl) (fun _ _ _ _ _ h => h) rfl rfl rfl (fun w h => h.sub (List.nil_sublist _)) (y_rdField (i := i) (j := 0) hrd rfl rfl Try.isAgg5 (by omega) (by omega) (by decide)) ?_
              refine h_take 6 rfl (by kernel_rfl) (by kernel_rfl) (by kernel_rfl) (fun _ _ _ _ _ h => h) rfl rfl rfl (fun w h => h.sub (List.nil_sublist _)) (y_move rfl) ?_
              refine h_take 7 rfl (by kernel_rfl) (by kernel_rfl) (by kernel_rfl) (fun _ _ _ _ _ h => h) rfl rfl rfl (fun w h => h.sub (List.nil_sublist _)) (y_move rfl) ?_
              refine h_take 8 rfl (by kernel_rfl) (by kernel_rfl) (by kernel_rfl) (fun _ _ _ _ _ h => h) rfl rfl rfl (fun w h => h.sub (List.nil_sublist _)) (y_rdAddr hrd rfl rfl Try.underlying22 Try.sizeOf58 (by omega) (by omega)) ?_
              refine h_take 9 rfl (by kernel_rfl) (by kernel_rfl) (by kernel_rfl) (fun _ _ _ _ _ h => h) rfl rfl rfl (fun w h => h.sub (List.nil_sublist _)) (y_fieldAt (k := 1) rfl (by kernel_rfl) rfl) ?_
              refine h_take 10 rfl (by kernel_rfl) (by kernel_rfl) (by kernel_rfl) (fun _ _ _ _ _ h => h) rfl rfl rfl (fun w h => h.sub (List.nil_sublist _)) (y_rdField (i := i) (j := 1) hrd rfl rfl Try.isAgg9 (by omega) (by omega) (by decide)) ?_
              refine h_take 11 rfl (by kernel_rfl) (by kernel_rfl) (by kernel_rfl) (fun _ _ _ _ _ h => h) rfl rfl rfl (fun w h => h.sub (List.nil_sublist _)) (y_move rfl) ?_
              refine h_take 12 rfl (by kernel_rfl) (by kernel_rfl) (by kernel_rfl) (fun _ _ _ _ _ h => h) rfl rfl rfl (fun w h => h.sub (List.nil_sublist _)) (y_move rfl) ?_
              refine h_take 13 rfl (by kernel_rfl) (by kernel_rfl) (by kernel_rfl) (fun _ _ _ _ _ h => h) rfl rfl rfl (fun w h => h.sub (List.nil_sublist _)) (y_rdAddr hrd rfl rfl Try.underlying22 Try.sizeOf58 (by omega) (by omega)) ?_
              refine h_take 14 rfl (by kernel_rfl) (by kernel_rfl) (by kernel_rfl) (fun _ _ _ _ _ h => h) rfl rfl rfl (fun w h => h.sub (List.nil_sublist _)) (y_fieldAt (k := 2) rfl (by kernel_rfl) rfl) ?_
              refine h_take 15 rfl (by kernel_rfl) (by kernel_rfl) (by kernel_rfl) (fun _ _ _ _ _ h => h) rfl rfl rfl (fun w h => h.sub (List.nil_sublist _)) (y_rdField (i := i) (j := 2) hrd rfl rfl Try.isAgg9 (by omega) (by omega) (by decide)) ?_
              refine h_take 16 rfl (by kernel_rfl) (by kernel_rfl) (by kernel_rfl) (fun _ _ _ _ _ h => h) rfl rfl rfl (fun w h => h.sub (List.nil_sublist _)) (y_move rfl) ?_
              refine h_take 17 rfl (by kernel_rfl) (by kernel_rfl) (by kernel_rfl) (fun _ _ _ _ _ h => h) rfl rfl rfl (fun w h => h.sub (List.nil_sublist _)) (y_toF rfl Try.underlying3 Try.underlying51) ?_
              refine h_take 18 rfl (by kernel_rfl) (by kernel_rfl) (by kernel_rfl) (fun _ _ _ _ _ h => h) rfl rfl rfl (fun w h => h.sub (List.nil_sublist _)) (y_cplx rfl (fl_c fl_1)) ?_
              refine h_take 19 rfl (by kernel_rfl) (by kernel_rfl) (by kernel_rfl) (fun _ _ _ _ _ h => h) rfl rfl rfl (fun w h => h.sub (List.nil_sublist _)) (y_build (offs := [1, 25, 41, 0]) rfl Try.zeroValue45 (by kernel_rfl)) ?_
              refine h_do 20 rfl (by kernel_rfl) ?_
              refine g_buildSlice (offs := [0]) rfl rfl Try.underlying23 rfl Try.zeroValue45 (by kernel_rfl) (fun b5 => ?_)
              refine g_nil ?_
              refine h_and (fun w h => h.sub (List.nil_sublist _)) ?_
              refine h_do 21 rfl (by kernel_rfl) ?_
              refine g_appS (bytes := 424) cmC (⟨fl (bs i.toNat).ln, 4607182418800017408, (bs i.toNat).nm, (bs i.toNat).tx, (bs i.toNat).fi⟩) 1 (j := 0) rfl rfl rfl rfl Try.underlying23 (by kernel_rfl) rfl rfl cmC_len rfl (by omega) (by have : maxLen = 9223372036854775807 := rfl; omega) (fun v6 => ?_)
              simp only [List.set_cons_zero, List.set_cons_succ]
              refine g_nil ?_
              refine h_and (fun w h => h.sub (List.nil_sublist _)) ?_
              refine h_take 22 rfl (by kernel_rfl) (by kernel_rfl) (by kernel_rfl) (fun _ _ _ _ _ h => h) rfl rfl rfl (fun w h => h.sub (List.nil_sublist _)) (y_assign rfl) ?_
              refine h_done (by kernel_rfl) ?_
              refine g_in_normal (g_then (g_ops ?_))
              refine g_val rfl rfl rfl (y_move rfl) ?_
              refine g_val rfl rfl rfl (by first | exact y_addi rfl rfl (by first | omega | (simp only [size_mk, ByteArray.size_append, ByteArray.size_extract]; omega)) | exact y_iadd rfl rfl) ?_
              refine g_val rfl rfl rfl (y_assign rfl) ?_
              refine g_nil ?_
              exact g_again ⟨(i + 1, _, _), by dsimp only; omega, by dsimp only; omega, by dsimp only; omega, by dsimp only; rw [show (i + 1).toNat = i.toNat + 1 by omega, cmds_snoc, ← hcs]; unfold brCm lnOf; first | rw [if_pos (by omega)] | rw [if_neg (by omega)], ⟨by omega, fun j hj => if q : j = i.toNat then by rw [q]; omega else hfit.2 j (by omega)⟩⟩ [0, 4, 5] (by dsimp only; omega) rfl (fun w h => h.sub (.cons _ (.cons_cons _ .slnil)))
  · skip
    refine g_cond_f rfl (g_exit (g_then_exit (g_then_exit (g_in_exit (g_then (g_seq (g_ops ?_)))))))
    refine g_val rfl rfl rfl (y_move rfl) ?_
    refine g_val rfl rfl rfl (y_assign rfl) ?_
    refine g_val rfl rfl rfl (y_assign rfl) ?_
    refine g_nil (g_then (g_ret ?_))
    refine g_end2 Try.results8 rfl rfl ?_
    obtain rfl : i.toNat = n := by omega
    subst hcs
    exact fun w hS => .inl ⟨hfit, _, rfl, hS.sub (.cons_cons _ .slnil)⟩

end Go.Proofs.Ytpacnggomjepdaa
