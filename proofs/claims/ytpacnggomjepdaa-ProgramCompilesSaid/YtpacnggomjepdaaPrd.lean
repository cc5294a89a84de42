/- How deep braces are. -/
import Derived.Test.YtpacnggomjepdaaPrc
namespace Go.Proofs.Ytpacnggomjepdaa
open Go Go.RowKit

theorem y_maxi {P : Program} {N : Nat} {R : Regs} {S : World → Prop} {dst : Option Tmp} {ty tt tu : TypeId} {pos : String} {af : Array Edge} {gd : Option (Nat × Bool)} {x y : Operand} {k : IntKind} {a b : Int} (hx : ev R x = some (.int k a)) (hy : ev R y = some (.int k b)) :
    Yv P N R S ⟨dst, .call { callee := .builtin .max, args := #[x, y], argTypes := #[tt, tu] }, ty, pos, af, gd⟩ (.int k (if b > a then b else a)) :=
  y_builtin (xs := [x, y]) (vs := [.int k a, .int k b]) (by simp [hx, hy]) fun _ w _ => rfl

def cmF (cs : Nat → Cm) (i j : Nat) : Value := ((cmC (cs i))[j]?).getD default
theorem cm_get (cs : Nat → Cm) (i j : Nat) (hj : j < 42) : (cmC (cs i))[j]? = some (cmF cs i j) := by
  unfold cmF
  rw [List.getElem?_eq_getElem (by rw [cmC_len]; exact hj)]; rfl
/-- Braces that stand open, and the most of them, behind i commands. -/
def deepO (nm o : Int) : Int := if nm = 123 then o + 1 else if nm = 125 ∧ 0 < o then o - 1 else o
def deepI (cs : Nat → Cm) : Nat → Int × Int
  | 0 => (0, 0)
  | i + 1 => (deepO (cs i).nm (deepI cs i).1, if deepO (cs i).nm (deepI cs i).1 > (deepI cs i).2 then deepO (cs i).nm (deepI cs i).1 else (deepI cs i).2)
theorem deep_bd (cs : Nat → Cm) (i : Nat) : 0 ≤ (deepI cs i).1 ∧ (deepI cs i).1 ≤ i ∧ 0 ≤ (deepI cs i).2 ∧ (deepI cs i).2 ≤ i := by
  induction i with
  | zero => simp [deepI]
  | succ i ih =>
    have ho : 0 ≤ deepO (cs i).nm (deepI cs i).1 ∧ deepO (cs i).nm (deepI cs i).1 ≤ (deepI cs i).1 + 1 := by unfold deepO; split <;> (try split) <;> omega
    unfold deepI
    dsimp only
    refine ⟨by omega, by omega, ?_, ?_⟩ <;> split <;> omega

set_option maxRecDepth 100000 in
theorem deep_any (p : Option Addr) (n c : Nat) (cs : Nat → Cm) (w : World) (hn : n ≤ 9223372036854775806) (hrd : RdSl w p n 42 (cmF cs)) :
    Calls Try.prog 11 #[.slice p n c] w fun e w' => e = .returned (.int .i64 (deepI cs n).2) ∧ Below w.heap.size w w' := by
  refine fn_intro Try.func11 rfl Try.ntmps11 rfl rfl ?_
  refine g_seq (g_ops ?_)
  refine g_val rfl rfl rfl (y_assign rfl) ?_
  refine g_nil (g_then (g_seq (g_ops ?_)))
  refine g_val rfl rfl rfl (y_assign rfl) ?_
  refine g_val rfl rfl rfl (y_assign rfl) ?_
  refine g_nil (g_then (g_seq (g_seq (g_ops ?_))))
  refine g_val rfl rfl rfl (y_move rfl) ?_
  refine g_val rfl rfl rfl (y_llen rfl Try.underlying23) ?_
  refine g_val rfl rfl rfl (y_move rfl) ?_
  refine g_nil (g_then (g_block ?_))
  refine g_loop (α := {x : Int // 0 ≤ x ∧ x ≤ n}) (fun x => [(3, .int .i64 (deepI cs x.1.toNat).1), (4, .int .i64 (deepI cs x.1.toNat).2), (7, .slice p n c), (8, .int .i64 n), (9, .int .i64 x.1)]) (fun x => St w [] []) (fun x => n - x.1.toNat) ⟨0, by omega, by omega⟩ [3, 4, 7, 8, 9] rfl (fun w h => h.sub .slnil) ?_
  rintro ⟨i, hx⟩
  dsimp only
  obtain ⟨hi0, hi1⟩ := hx
  have hbd := deep_bd cs i.toNat
  have hst : deepI cs (i + 1).toNat = (deepO (cs i.toNat).nm (deepI cs i.toNat).1, if deepO (cs i.toNat).nm (deepI cs i.toNat).1 > (deepI cs i.toNat).2 then deepO (cs i.toNat).nm (deepI cs i.toNat).1 else (deepI cs i.toNat).2) := by rw [show (i + 1).toNat = i.toNat + 1 by omega]; rfl
  refine g_seq (g_ops ?_)
  refine g_val rfl rfl rfl (y_ilt rfl rfl) ?_
  refine g_nil (g_then (g_seq ?_))
  first | refine g_casep 10 rfl (fun h1 => ?_) (fun h1 => ?_) | refine g_caseb 10 rfl (fun h1 => ?_) (fun h1 => ?_)
  · skip
    refine g_cond_t rfl (g_skip (g_then (g_seq (g_block (g_seq (g_ops ?_))))))
    refine g_val rfl rfl rfl (y_rdAddr hrd rfl rfl Try.underlying23 Try.sizeOf45 (by omega) (by omega)) ?_
    refine g_val rfl rfl rfl (y_rdAgg (i := i) (vs := cmC (cs i.toNat)) hrd rfl Try.isAgg45 Try.sizeOf45 (by omega) (by omega) rfl (fun j hj => cm_get cs i.toNat j hj)) ?_
    refine g_alloc rfl rfl Try.zeroValue45 rfl (fun b1 => ?_)
    refine g_stN 0 rfl rfl rfl (by kernel_rfl) rfl rfl rfl rfl ?_
    simp only [List.set_cons_zero]
    refine g_nil (g_then (g_seq (g_block (g_seq (g_ops ?_)))))
    refine g_val rfl rfl rfl (y_fieldAddr (k := 1) (m := 1) rfl (by kernel_rfl) rfl) ?_
    refine g_val rfl rfl rfl (y_ld 0 rfl Try.isAgg5 rfl rfl) ?_
    refine g_val rfl rfl rfl (y_ieq rfl rfl) ?_
    refine g_val rfl rfl rfl (y_assign rfl) ?_
    refine g_nil (g_then ?_)
    first | refine g_casep 13 rfl (fun h2 => ?_) (fun h2 => ?_) | refine g_caseb 13 rfl (fun h2 => ?_) (fun h2 => ?_)
    · skip
      refine g_cond_t rfl (g_ops ?_)
      refine g_val rfl rfl rfl (y_move rfl) ?_
      refine g_val rfl rfl rfl (by first | exact y_addi rfl rfl (by first | omega | (simp only [size_mk, ByteArray.size_append, ByteArray.size_extract]; omega)) | exact y_iadd rfl rfl) ?_
      refine g_val rfl rfl rfl (y_assign rfl) ?_
      refine g_nil (g_in_normal (g_then (g_ops ?_)))
      refine g_val rfl rfl rfl (y_move rfl) ?_
      refine g_val rfl rfl rfl (y_move rfl) ?_
      refine g_val rfl rfl rfl (y_maxi rfl rfl) ?_
      refine g_val rfl rfl rfl (y_assign rfl) ?_
      refine g_nil (g_in_normal (g_then (g_ops ?_)))
      refine g_val rfl rfl rfl (by first | exact y_addi rfl rfl (by first | omega | (simp only [size_mk, ByteArray.size_append, ByteArray.size_extract]; omega)) | exact y_iadd rfl rfl) ?_
      refine g_val rfl rfl rfl (y_move rfl) ?_
      refine g_nil ?_
      exact g_again ⟨i + 1, by omega, by omega⟩ [3, 4, 7, 8, 9] (by dsimp only; omega) (by rw [hst]; first | (rw [show deepO (cs i.toNat).nm (deepI cs i.toNat).1 = (deepI cs i.toNat).1 + 1 by unfold deepO; rw [if_pos (by omega)]]; rfl) | (rw [show deepO (cs i.toNat).nm (deepI cs i.toNat).1 = (deepI cs i.toNat).1 - 1 by unfold deepO; rw [if_neg (by omega), if_pos (by omega)]]; rfl) | (rw [show deepO (cs i.toNat).nm (deepI cs i.toNat).1 = (deepI cs i.toNat).1 by unfold deepO; rw [if_neg (by omega), if_neg (by omega)]]; rfl)) (fun w h => h.sub (.cons _ .slnil))
    · skip
      refine g_cond_f rfl (g_seq (g_ops ?_))
      refine g_val rfl rfl rfl (y_fieldAddr (k := 1) (m := 1) rfl (by kernel_rfl) rfl) ?_
      refine g_val rfl rfl rfl (y_ld 0 rfl Try.isAgg5 rfl rfl) ?_
      refine g_val rfl rfl rfl (y_ieq rfl rfl) ?_
      refine g_val rfl rfl rfl (y_move rfl) ?_
      first | refine g_casep 23 rfl (fun h3 => ?_) (fun h3 => ?_) | refine g_caseb 23 rfl (fun h3 => ?_) (fun h3 => ?_)
      · skip
        refine g_val rfl rfl rfl (y_move rfl) ?_
        refine g_val rfl rfl rfl (y_igt rfl rfl) ?_
        refine g_val rfl rfl rfl (y_pick_t rfl rfl) ?_
        refine g_val rfl rfl rfl (y_assign rfl) ?_
        refine g_nil (g_then ?_)
        first | refine g_casep 19 rfl (fun h4 => ?_) (fun h4 => ?_) | refine g_caseb 19 rfl (fun h4 => ?_) (fun h4 => ?_)
        · skip
          refine g_cond_t rfl (g_ops ?_)
          refine g_val rfl rfl rfl (y_move rfl) ?_
          refine g_val rfl rfl rfl (by first | exact y_subi rfl rfl (by first | omega | (simp only [size_mk, ByteArray.size_append, ByteArray.size_extract]; omega)) | exact y_isub rfl rfl) ?_
          refine g_val rfl rfl rfl (y_assign rfl) ?_
          refine g_nil (g_in_normal (g_then (g_ops ?_)))
          refine g_val rfl rfl rfl (y_move rfl) ?_
          refine g_val rfl rfl rfl (y_move rfl) ?_
          refine g_val rfl rfl rfl (y_maxi rfl rfl) ?_
          refine g_val rfl rfl rfl (y_assign rfl) ?_
          refine g_nil (g_in_normal (g_then (g_ops ?_)))
          refine g_val rfl rfl rfl (by first | exact y_addi rfl rfl (by first | omega | (simp only [size_mk, ByteArray.size_append, ByteArray.size_extract]; omega)) | exact y_iadd rfl rfl) ?_
          refine g_val rfl rfl rfl (y_move rfl) ?_
          refine g_nil ?_
          exact g_again ⟨i + 1, by omega, by omega⟩ [3, 4, 7, 8, 9] (by dsimp only; omega) (by rw [hst]; first | (rw [show deepO (cs i.toNat).nm (deepI cs i.toNat).1 = (deepI cs i.toNat).1 + 1 by unfold deepO; rw [if_pos (by omega)]]; rfl) | (rw [show deepO (cs i.toNat).nm (deepI cs i.toNat).1 = (deepI cs i.toNat).1 - 1 by unfold deepO; rw [if_neg (by omega), if_pos (by omega)]]; rfl) | (rw [show deepO (cs i.toNat).nm (deepI cs i.toNat).1 = (deepI cs i.toNat).1 by unfold deepO; rw [if_neg (by omega), if_neg (by omega)]]; rfl)) (fun w h => h.sub (.cons _ .slnil))
        · skip
          refine g_cond_f rfl (g_skip (g_in_normal (g_then (g_ops ?_))))
          refine g_val rfl rfl rfl (y_move rfl) ?_
          refine g_val rfl rfl rfl (y_move rfl) ?_
          refine g_val rfl rfl rfl (y_maxi rfl rfl) ?_
          refine g_val rfl rfl rfl (y_assign rfl) ?_
          refine g_nil (g_in_normal (g_then (g_ops ?_)))
          refine g_val rfl rfl rfl (by first | exact y_addi rfl rfl (by first | omega | (simp only [size_mk, ByteArray.size_append, ByteArray.size_extract]; omega)) | exact y_iadd rfl rfl) ?_
          refine g_val rfl rfl rfl (y_move rfl) ?_
          refine g_nil ?_
          exact g_again ⟨i + 1, by omega, by omega⟩ [3, 4, 7, 8, 9] (by dsimp only; omega) (by rw [hst]; first | (rw [show deepO (cs i.toNat).nm (deepI cs i.toNat).1 = (deepI cs i.toNat).1 + 1 by unfold deepO; rw [if_pos (by omega)]]; rfl) | (rw [show deepO (cs i.toNat).nm (deepI cs i.toNat).1 = (deepI cs i.toNat).1 - 1 by unfold deepO; rw [if_neg (by omega), if_pos (by omega)]]; rfl) | (rw [show deepO (cs i.toNat).nm (deepI cs i.toNat).1 = (deepI cs i.toNat).1 by unfold deepO; rw [if_neg (by omega), if_neg (by omega)]]; rfl)) (fun w h => h.sub (.cons _ .slnil))
      · skip
        refine g_not rfl rfl rfl ?_
        refine g_not rfl rfl rfl ?_
        refine g_val rfl rfl rfl (y_pick_f rfl rfl) ?_
        refine g_val rfl rfl rfl (y_assign rfl) ?_
        refine g_nil (g_then (g_cond_f rfl (g_skip (g_in_normal (g_then (g_ops ?_))))))
        refine g_val rfl rfl rfl (y_move rfl) ?_
        refine g_val rfl rfl rfl (y_move rfl) ?_
        refine g_val rfl rfl rfl (y_maxi rfl rfl) ?_
        refine g_val rfl rfl rfl (y_assign rfl) ?_
        refine g_nil (g_in_normal (g_then (g_ops ?_)))
        refine g_val rfl rfl rfl (by first | exact y_addi rfl rfl (by first | omega | (simp only [size_mk, ByteArray.size_append, ByteArray.size_extract]; omega)) | exact y_iadd rfl rfl) ?_
        refine g_val rfl rfl rfl (y_move rfl) ?_
        refine g_nil ?_
        exact g_again ⟨i + 1, by omega, by omega⟩ [3, 4, 7, 8, 9] (by dsimp only; omega) (by rw [hst]; first | (rw [show deepO (cs i.toNat).nm (deepI cs i.toNat).1 = (deepI cs i.toNat).1 + 1 by unfold deepO; rw [if_pos (by omega)]]; rfl) | (rw [show deepO (cs i.toNat).nm (deepI cs i.toNat).1 = (deepI cs i.toNat).1 - 1 by unfold deepO; rw [if_neg (by omega), if_pos (by omega)]]; rfl) | (rw [show deepO (cs i.toNat).nm (deepI cs i.toNat).1 = (deepI cs i.toNat).1 by unfold deepO; rw [if_neg (by omega), if_neg (by omega)]]; rfl)) (fun w h => h.sub (.cons _ .slnil))
  · skip
    refine g_cond_f rfl (g_exit (g_then_exit (g_then_exit (g_in_exit (g_then (g_seq (g_ops ?_)))))))
    refine g_val rfl rfl rfl (y_move rfl) ?_
    refine g_val rfl rfl rfl (y_assign rfl) ?_
    refine g_nil (g_then (g_ret ?_))
    refine g_end1 Try.results11 rfl ?_
    obtain rfl : i.toNat = n := by omega
    exact fun w hS => ⟨rfl, hS.below⟩

end Go.Proofs.Ytpacnggomjepdaa
