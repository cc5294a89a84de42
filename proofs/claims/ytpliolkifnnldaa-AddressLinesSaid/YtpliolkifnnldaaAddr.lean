/- The address functions: what they compute. -/
import Derived.Test.YtpliolkifnnldaaRows
import Derived.Test.YtpliolkifnnldaaB
namespace Go.Proofs.Ytpliolkifnnldaa
open Go Go.RowKit

def holdsB (num : Int) (last m : Bool) (kind line : Int) : Bool :=
  if kind = 0 then true else if kind = 1 then decide (num = line) else if kind = 2 then last else if kind = 3 then m else if kind = 4 then m else false
def endsB (num : Int) (last : Bool) (kind line : Int) : Bool := if kind = 1 ∧ line ≤ num then true else if kind = 2 then last else false
def patB (kind : Int) : Bool := decide (kind = 3) || decide (kind = 4)

theorem holds_any (num : Int) (last first second : Bool) (m : Bool) (kind line : Int) (p0 p1 p2 p3 p4 p5 p6 p7 p8 : Value) (w : World) :
    Calls Try.prog 12 #[.agg #[.int .i64 num, .bool last, .bool first, .bool second], .agg #[.int .i64 kind, .int .i64 line, p0, p1, p2, p3, p4, p5, p6, p7, p8], .bool m] w fun e w' => e = .returned (.bool (holdsB num last m kind line)) ∧ Below w.heap.size w w' := by
  refine fn_intro Try.func12 rfl Try.ntmps12 rfl rfl ?_
  refine g_seq (g_ops ?_)
  refine g_box rfl rfl rfl rfl (fun b1 => ?_)
  refine g_box rfl rfl rfl rfl (fun b2 => ?_)
  refine g_val rfl rfl rfl (y_assign rfl) ?_
  refine g_nil (g_then (g_seq (g_seq (g_ops ?_))))
  refine g_val rfl rfl rfl (y_fieldAddr (k := 0) (m := 0) rfl (by kernel_rfl) rfl) ?_
  refine g_val rfl rfl rfl (y_ld 0 rfl Try.isAgg24 rfl rfl) ?_
  refine g_nil (g_then (g_block (g_seq (g_block (g_block (g_seq (g_block (g_seq (g_block (g_seq (g_block (g_seq (g_seq (g_seq (g_ops ?_)))))))))))))))
  refine g_val rfl rfl rfl (y_ieq rfl rfl) ?_
  refine g_val rfl rfl rfl (y_assign rfl) ?_
  refine g_nil (g_then ?_)
  first | refine g_casep 9 rfl (fun h1 => ?_) (fun h1 => ?_) | refine g_caseb 9 rfl (fun h1 => ?_) (fun h1 => ?_)
  · skip
    refine g_cond_t rfl (g_exit (g_then_exit (g_then_exit (g_in_exit (g_then (g_seq (g_seq (g_ops ?_))))))))
    refine g_val rfl rfl rfl (y_assign rfl) ?_
    refine g_nil (g_then (g_ret (g_then_ret (g_in_ret (g_then_ret (g_in_ret (g_then_ret (g_in_ret (g_in_ret (g_then_ret (g_in_ret (g_then_ret ?_))))))))))))
    refine g_end1 Try.results12 rfl ?_
    exact fun w hS => ⟨ret_bool (by simp [holdsB, *]), hS.below⟩
  · skip
    refine g_cond_f rfl (g_skip (g_then (g_seq (g_seq (g_ops ?_)))))
    refine g_val rfl rfl rfl (y_ieq rfl rfl) ?_
    refine g_val rfl rfl rfl (y_assign rfl) ?_
    refine g_nil (g_then ?_)
    first | refine g_casep 11 rfl (fun h2 => ?_) (fun h2 => ?_) | refine g_caseb 11 rfl (fun h2 => ?_) (fun h2 => ?_)
    · skip
      refine g_cond_t rfl (g_exit (g_then_exit (g_then_exit (g_in_exit_ne rfl (g_then_exit (g_in_exit (g_then (g_seq (g_seq (g_ops ?_))))))))))
      refine g_val rfl rfl rfl (y_fieldAddr (k := 0) (m := 0) rfl (by kernel_rfl) rfl) ?_
      refine g_val rfl rfl rfl (y_ld 1 rfl Try.isAgg3 rfl rfl) ?_
      refine g_val rfl rfl rfl (y_fieldAddr (k := 1) (m := 1) rfl (by kernel_rfl) rfl) ?_
      refine g_val rfl rfl rfl (y_ld 0 rfl Try.isAgg3 rfl rfl) ?_
      refine g_val rfl rfl rfl (y_ieq rfl rfl) ?_
      refine g_val rfl rfl rfl (y_assign rfl) ?_
      refine g_nil (g_then (g_ret (g_then_ret (g_in_ret (g_then_ret (g_in_ret (g_in_ret (g_then_ret (g_in_ret (g_then_ret ?_))))))))))
      refine g_end1 Try.results12 rfl ?_
      exact fun w hS => ⟨ret_bool (by simp [holdsB, *]), hS.below⟩
    · skip
      refine g_cond_f rfl (g_skip (g_then (g_seq (g_seq (g_ops ?_)))))
      refine g_val rfl rfl rfl (y_ieq rfl rfl) ?_
      refine g_val rfl rfl rfl (y_assign rfl) ?_
      refine g_nil (g_then ?_)
      first | refine g_casep 13 rfl (fun h3 => ?_) (fun h3 => ?_) | refine g_caseb 13 rfl (fun h3 => ?_) (fun h3 => ?_)
      · skip
        refine g_cond_t rfl (g_exit (g_then_exit (g_then_exit (g_in_exit_ne rfl (g_then_exit (g_in_exit_ne rfl (g_then_exit (g_in_exit (g_then (g_seq (g_seq (g_ops ?_))))))))))))
        refine g_val rfl rfl rfl (y_fieldAddr (k := 1) (m := 1) rfl (by kernel_rfl) rfl) ?_
        refine g_val rfl rfl rfl (y_ld 1 rfl Try.isAgg4 rfl rfl) ?_
        refine g_val rfl rfl rfl (y_assign rfl) ?_
        refine g_nil (g_then (g_ret (g_then_ret (g_in_ret (g_in_ret (g_then_ret (g_in_ret (g_then_ret ?_))))))))
        refine g_end1 Try.results12 rfl ?_
        exact fun w hS => ⟨ret_bool (by simp [holdsB, *]), hS.below⟩
      · skip
        refine g_cond_f rfl (g_skip (g_then (g_seq (g_seq (g_ops ?_)))))
        refine g_val rfl rfl rfl (y_ieq rfl rfl) ?_
        refine g_val rfl rfl rfl (y_assign rfl) ?_
        refine g_nil (g_then ?_)
        first | refine g_casep 15 rfl (fun h4 => ?_) (fun h4 => ?_) | refine g_caseb 15 rfl (fun h4 => ?_) (fun h4 => ?_)
        · skip
          refine g_cond_t rfl (g_exit (g_then_exit (g_then_exit (g_in_exit_ne rfl (g_then_exit (g_in_exit_ne rfl (g_then_exit (g_in_exit_ne rfl (g_then_exit (g_in_exit (g_in_normal (g_then (g_seq (g_seq (g_ops ?_)))))))))))))))
          refine g_val rfl rfl rfl (y_move rfl) ?_
          refine g_val rfl rfl rfl (y_assign rfl) ?_
          refine g_nil (g_then (g_ret (g_then_ret (g_in_ret (g_then_ret ?_)))))
          refine g_end1 Try.results12 rfl ?_
          exact fun w hS => ⟨ret_bool (by simp [holdsB, *]), hS.below⟩
        · skip
          refine g_cond_f rfl (g_skip (g_then (g_seq (g_ops ?_))))
          refine g_val rfl rfl rfl (y_ieq rfl rfl) ?_
          refine g_val rfl rfl rfl (y_assign rfl) ?_
          refine g_nil (g_then ?_)
          first | refine g_casep 17 rfl (fun h5 => ?_) (fun h5 => ?_) | refine g_caseb 17 rfl (fun h5 => ?_) (fun h5 => ?_)
          · skip
            refine g_cond_t rfl (g_exit (g_then_exit (g_in_exit_ne rfl (g_then_exit (g_in_exit_ne rfl (g_then_exit (g_in_exit_ne rfl (g_then_exit (g_in_exit_ne rfl (g_in_exit (g_then (g_seq (g_seq (g_ops ?_))))))))))))))
            refine g_val rfl rfl rfl (y_move rfl) ?_
            refine g_val rfl rfl rfl (y_assign rfl) ?_
            refine g_nil (g_then (g_ret (g_then_ret (g_in_ret (g_then_ret ?_)))))
            refine g_end1 Try.results12 rfl ?_
            exact fun w hS => ⟨ret_bool (by simp [holdsB, *]), hS.below⟩
          · skip
            refine g_cond_f rfl (g_skip (g_then (g_exit (g_in_exit_ne rfl (g_then_exit (g_in_exit_ne rfl (g_then_exit (g_in_exit_ne rfl (g_then_exit (g_in_exit_ne rfl (g_in_exit_ne rfl (g_then_exit (g_in_exit (g_then (g_seq (g_ops ?_))))))))))))))))
            refine g_val rfl rfl rfl (y_assign rfl) ?_
            refine g_nil (g_then (g_ret ?_))
            refine g_end1 Try.results12 rfl ?_
            exact fun w hS => ⟨ret_bool (by simp [holdsB, *]), hS.below⟩

theorem ends_any (num : Int) (last first second : Bool) (kind line : Int) (p0 p1 p2 p3 p4 p5 p6 p7 p8 : Value) (w : World) :
    Calls Try.prog 13 #[.agg #[.int .i64 num, .bool last, .bool first, .bool second], .agg #[.int .i64 kind, .int .i64 line, p0, p1, p2, p3, p4, p5, p6, p7, p8]] w fun e w' => e = .returned (.bool (endsB num last kind line)) ∧ Below w.heap.size w w' := by
  refine fn_intro Try.func13 rfl Try.ntmps13 rfl rfl ?_
  refine g_seq (g_ops ?_)
  refine g_box rfl rfl rfl rfl (fun b1 => ?_)
  refine g_box rfl rfl rfl rfl (fun b2 => ?_)
  refine g_val rfl rfl rfl (y_assign rfl) ?_
  refine g_nil (g_then (g_seq (g_ops ?_)))
  refine g_val rfl rfl rfl (y_fieldAddr (k := 0) (m := 0) rfl (by kernel_rfl) rfl) ?_
  refine g_val rfl rfl rfl (y_ld 0 rfl Try.isAgg24 rfl rfl) ?_
  refine g_val rfl rfl rfl (y_ieq rfl rfl) ?_
  refine g_val rfl rfl rfl (y_move rfl) ?_
  first | refine g_casep 8 rfl (fun h1 => ?_) (fun h1 => ?_) | refine g_caseb 8 rfl (fun h1 => ?_) (fun h1 => ?_)
  · skip
    refine g_val rfl rfl rfl (y_fieldAddr (k := 1) (m := 1) rfl (by kernel_rfl) rfl) ?_
    refine g_val rfl rfl rfl (y_ld 0 rfl Try.isAgg3 rfl rfl) ?_
    refine g_val rfl rfl rfl (y_fieldAddr (k := 0) (m := 0) rfl (by kernel_rfl) rfl) ?_
    refine g_val rfl rfl rfl (y_ld 1 rfl Try.isAgg3 rfl rfl) ?_
    refine g_val rfl rfl rfl (y_ile rfl rfl) ?_
    refine g_val rfl rfl rfl (y_pick_t rfl rfl) ?_
    refine g_val rfl rfl rfl (y_move rfl) ?_
    first | refine g_casep 15 rfl (fun h2 => ?_) (fun h2 => ?_) | refine g_caseb 15 rfl (fun h2 => ?_) (fun h2 => ?_)
    · skip
      refine g_not rfl rfl rfl ?_
      refine g_not rfl rfl rfl ?_
      refine g_not rfl rfl rfl ?_
      refine g_not rfl rfl rfl ?_
      refine g_not rfl rfl rfl ?_
      refine g_not rfl rfl rfl ?_
      refine g_not rfl rfl rfl ?_
      refine g_val rfl rfl rfl (y_pick_t rfl rfl) ?_
      refine g_val rfl rfl rfl (y_assign rfl) ?_
      refine g_nil (g_then (g_ret ?_))
      refine g_end1 Try.results13 rfl ?_
      exact fun w hS => ⟨ret_bool (by simp_all [endsB]), hS.below⟩
    · skip
      refine g_val rfl rfl rfl (y_fieldAddr (k := 0) (m := 0) rfl (by kernel_rfl) rfl) ?_
      refine g_val rfl rfl rfl (y_ld 0 rfl Try.isAgg24 rfl rfl) ?_
      refine g_val rfl rfl rfl (y_ieq rfl rfl) ?_
      refine g_val rfl rfl rfl (y_move rfl) ?_
      first | refine g_casep 19 rfl (fun h3 => ?_) (fun h3 => ?_) | refine g_caseb 19 rfl (fun h3 => ?_) (fun h3 => ?_)
      · skip
        refine g_val rfl rfl rfl (y_fieldAddr (k := 1) (m := 1) rfl (by kernel_rfl) rfl) ?_
        refine g_val rfl rfl rfl (y_ld 1 rfl Try.isAgg4 rfl rfl) ?_
        refine g_val rfl rfl rfl (y_pick_t rfl rfl) ?_
        refine g_val rfl rfl rfl (y_pick_f rfl rfl) ?_
        refine g_val rfl rfl rfl (y_assign rfl) ?_
        refine g_nil (g_then (g_ret ?_))
        refine g_end1 Try.results13 rfl ?_
        exact fun w hS => ⟨ret_bool (by simp_all [endsB]), hS.below⟩
      · skip
        refine g_not rfl rfl rfl ?_
        refine g_not rfl rfl rfl ?_
        refine g_val rfl rfl rfl (y_pick_f rfl rfl) ?_
        refine g_val rfl rfl rfl (y_pick_f rfl rfl) ?_
        refine g_val rfl rfl rfl (y_assign rfl) ?_
        refine g_nil (g_then (g_ret ?_))
        refine g_end1 Try.results13 rfl ?_
        exact fun w hS => ⟨ret_bool (by simp_all [endsB]), hS.below⟩
  · skip
    refine g_not rfl rfl rfl ?_
    refine g_not rfl rfl rfl ?_
    refine g_not rfl rfl rfl ?_
    refine g_not rfl rfl rfl ?_
    refine g_not rfl rfl rfl ?_
    refine g_val rfl rfl rfl (y_pick_f rfl rfl) ?_
    refine g_val rfl rfl rfl (y_move rfl) ?_
    refine g_val rfl rfl rfl (y_fieldAddr (k := 0) (m := 0) rfl (by kernel_rfl) rfl) ?_
    refine g_val rfl rfl rfl (y_ld 0 rfl Try.isAgg24 rfl rfl) ?_
    refine g_val rfl rfl rfl (y_ieq rfl rfl) ?_
    refine g_val rfl rfl rfl (y_move rfl) ?_
    first | refine g_casep 19 rfl (fun h4 => ?_) (fun h4 => ?_) | refine g_caseb 19 rfl (fun h4 => ?_) (fun h4 => ?_)
    · skip
      refine g_val rfl rfl rfl (y_fieldAddr (k := 1) (m := 1) rfl (by kernel_rfl) rfl) ?_
      refine g_val rfl rfl rfl (y_ld 1 rfl Try.isAgg4 rfl rfl) ?_
      refine g_val rfl rfl rfl (y_pick_t rfl rfl) ?_
      refine g_val rfl rfl rfl (y_pick_f rfl rfl) ?_
      refine g_val rfl rfl rfl (y_assign rfl) ?_
      refine g_nil (g_then (g_ret ?_))
      refine g_end1 Try.results13 rfl ?_
      exact fun w hS => ⟨ret_bool (by simp_all [endsB]), hS.below⟩
    · skip
      refine g_not rfl rfl rfl ?_
      refine g_not rfl rfl rfl ?_
      refine g_val rfl rfl rfl (y_pick_f rfl rfl) ?_
      refine g_val rfl rfl rfl (y_pick_f rfl rfl) ?_
      refine g_val rfl rfl rfl (y_assign rfl) ?_
      refine g_nil (g_then (g_ret ?_))
      refine g_end1 Try.results13 rfl ?_
      exact fun w hS => ⟨ret_bool (by simp_all [endsB]), hS.below⟩

theorem pat_any (kind line : Int) (p0 p1 p2 p3 p4 p5 p6 p7 p8 : Value) (w : World) :
    Calls Try.prog 14 #[.agg #[.int .i64 kind, .int .i64 line, p0, p1, p2, p3, p4, p5, p6, p7, p8]] w fun e w' => e = .returned (.bool (patB kind)) ∧ Below w.heap.size w w' := by
  refine fn_intro Try.func14 rfl Try.ntmps14 rfl rfl ?_
  refine g_seq (g_ops ?_)
  refine g_box rfl rfl rfl rfl (fun b1 => ?_)
  refine g_val rfl rfl rfl (y_assign rfl) ?_
  refine g_nil (g_then (g_seq (g_ops ?_)))
  refine g_val rfl rfl rfl (y_fieldAddr (k := 0) (m := 0) rfl (by kernel_rfl) rfl) ?_
  refine g_val rfl rfl rfl (y_ld 0 rfl Try.isAgg24 rfl rfl) ?_
  refine g_val rfl rfl rfl (y_ieq rfl rfl) ?_
  refine g_val rfl rfl rfl (y_move rfl) ?_
  first | refine g_casep 6 rfl (fun h1 => ?_) (fun h1 => ?_) | refine g_caseb 6 rfl (fun h1 => ?_) (fun h1 => ?_)
  · skip
    refine g_not rfl rfl rfl ?_
    refine g_not rfl rfl rfl ?_
    refine g_not rfl rfl rfl ?_
    refine g_val rfl rfl rfl (y_pick_t rfl rfl) ?_
    refine g_val rfl rfl rfl (y_assign rfl) ?_
    refine g_nil (g_then (g_ret ?_))
    refine g_end1 Try.results14 rfl ?_
    exact fun w hS => ⟨ret_bool (by simp_all [patB]), hS.below⟩
  · skip
    refine g_val rfl rfl rfl (y_fieldAddr (k := 0) (m := 0) rfl (by kernel_rfl) rfl) ?_
    refine g_val rfl rfl rfl (y_ld 0 rfl Try.isAgg24 rfl rfl) ?_
    refine g_val rfl rfl rfl (y_ieq rfl rfl) ?_
    refine g_val rfl rfl rfl (y_pick_f rfl rfl) ?_
    refine g_val rfl rfl rfl (y_assign rfl) ?_
    refine g_nil (g_then (g_ret ?_))
    refine g_end1 Try.results14 rfl ?_
    exact fun w hS => ⟨ret_bool (by simp_all [patB]), hS.below⟩

abbrev cmdC (fk fl tk tl : Int) (nt : Bool) : Array Value :=
  #[.complex .f64 0 0, .int .u8 112, .int .i64 fk, .int .i64 fl, .int .i64 0, .int .u64 0, .int .u64 0, .int .u64 0, .int .u64 0, .int .i64 0, .int .i64 0, .int .i64 0, .slice none 0 0,
    .int .i64 tk, .int .i64 tl, .int .i64 0, .int .u64 0, .int .u64 0, .int .u64 0, .int .u64 0, .int .i64 0, .int .i64 0, .int .i64 0, .slice none 0 0,
    .bool nt, .string ⟨#[]⟩, .string ⟨#[]⟩, .int .i64 0, .int .u64 0, .int .u64 0, .int .u64 0, .int .u64 0, .int .i64 0, .int .i64 0, .int .i64 0, .slice none 0 0, .bool false, .slice none 0 0, .bool false, .bool false, .int .i64 0, .string ⟨#[]⟩]
def selC (t0 op h1 h2 e nt : Bool) : Bool × Bool :=
  if t0 = true then (h1 != nt, false) else if op = true then (!nt, !e && !h2) else if h1 = true then (!nt, !e) else (nt, false)
def selB (op : Bool) (fk fl tk tl : Int) (nt : Bool) (num : Int) (last first second : Bool) : Bool × Bool :=
  selC (decide (tk = 0)) op (holdsB num last first fk fl) (holdsB num last second tk tl) (endsB num last tk tl) nt
def needB (open_ : Bool) (fk tk : Int) : Bool × Bool := (patB fk && !(open_ && decide (tk ≠ 0)), patB tk && open_)

theorem command_any (fk fl tk tl : Int) (nt : Bool) (w : World) :
    Calls Try.prog 9 #[.agg #[.int .i64 fk, .int .i64 tk, .int .i64 fl, .int .i64 tl, .bool nt]] w fun e w' => e = .returned (.agg (cmdC fk fl tk tl nt)) ∧ Below w.heap.size w w' := by
  refine fn_intro Try.func9 rfl Try.ntmps9 rfl rfl ?_
  refine g_seq (g_ops ?_)
  refine g_box rfl rfl rfl rfl (fun b1 => ?_)
  refine g_alloc rfl rfl Try.zeroValue36 rfl (fun b2 => ?_)
  refine g_nil (g_then (g_seq (g_ops ?_)))
  refine g_val rfl rfl rfl (y_fieldAddr (k := 0) (m := 0) rfl (by kernel_rfl) rfl) ?_
  refine g_val rfl rfl rfl (y_ld 1 rfl Try.isAgg24 rfl rfl) ?_
  refine g_val rfl rfl rfl (y_fieldAddr (k := 2) (m := 2) rfl (by kernel_rfl) rfl) ?_
  refine g_val rfl rfl rfl (y_ld 1 rfl Try.isAgg3 rfl rfl) ?_
  refine g_val rfl rfl rfl (y_build (offs := [0, 1]) rfl Try.zeroValue33 (by kernel_rfl)) ?_
  refine g_val rfl rfl rfl (y_fieldAddr (k := 1) (m := 1) rfl (by kernel_rfl) rfl) ?_
  refine g_val rfl rfl rfl (y_ld 1 rfl Try.isAgg24 rfl rfl) ?_
  refine g_val rfl rfl rfl (y_fieldAddr (k := 3) (m := 3) rfl (by kernel_rfl) rfl) ?_
  refine g_val rfl rfl rfl (y_ld 1 rfl Try.isAgg3 rfl rfl) ?_
  refine g_val rfl rfl rfl (y_build (offs := [0, 1]) rfl Try.zeroValue33 (by kernel_rfl)) ?_
  refine g_val rfl rfl rfl (y_fieldAddr (k := 4) (m := 4) rfl (by kernel_rfl) rfl) ?_
  refine g_val rfl rfl rfl (y_ld 1 rfl Try.isAgg4 rfl rfl) ?_
  refine g_val rfl rfl rfl (y_build (offs := [1, 2, 13, 24]) rfl Try.zeroValue36 (by kernel_rfl)) ?_
  refine g_stN 0 rfl rfl rfl (by kernel_rfl) rfl rfl rfl rfl ?_
  simp only [List.set_cons_zero]
  refine g_nil (g_then (g_ret ?_))
  refine g_end_cell 0 Try.results9 rfl rfl Try.isAgg36 Try.sizeOf36 rfl ?_
  exact fun w hS => ⟨rfl, hS.below⟩

theorem selects_any (open_ : Bool) (fk fl tk tl : Int) (nt : Bool) (num : Int) (last first second : Bool) (w : World) :
    Calls Try.prog 10 #[.agg (cmdC fk fl tk tl nt), .bool open_, .agg #[.int .i64 num, .bool last, .bool first, .bool second]] w fun e w' => e = .returned (.tuple #[.bool (selB open_ fk fl tk tl nt num last first second).1, .bool (selB open_ fk fl tk tl nt num last first second).2]) ∧ Below w.heap.size w w' := by
  refine fn_intro Try.func10 rfl Try.ntmps10 rfl rfl ?_
  refine g_seq (g_ops ?_)
  refine g_box rfl rfl rfl rfl (fun b1 => ?_)
  refine g_box rfl rfl rfl rfl (fun b2 => ?_)
  refine g_val rfl rfl rfl (y_assign rfl) ?_
  refine g_val rfl rfl rfl (y_assign rfl) ?_
  refine g_nil (g_then (g_seq (g_block (g_seq (g_ops ?_)))))
  refine g_val rfl rfl rfl (y_fieldAddr (k := 13) (m := 13) rfl (by kernel_rfl) rfl) ?_
  refine g_val rfl rfl rfl (y_fieldAddr (k := 0) (m := 13) rfl (by kernel_rfl) rfl) ?_
  refine g_val rfl rfl rfl (y_ld 1 rfl Try.isAgg24 rfl rfl) ?_
  refine g_val rfl rfl rfl (y_ieq rfl rfl) ?_
  refine g_val rfl rfl rfl (y_assign rfl) ?_
  refine g_nil (g_then ?_)
  first | refine g_casep 8 rfl (fun h1 => ?_) (fun h1 => ?_) | refine g_caseb 8 rfl (fun h1 => ?_) (fun h1 => ?_)
  · skip
    refine g_cond_t rfl (g_seq ?_)
    refine g_quiet (by kernel_rfl) (by kernel_rfl) ?_
    refine q_val rfl rfl rfl (y_ldN 0 rfl Try.isAgg43 Try.sizeOf43 rfl rfl rfl) ?_
    refine q_val rfl rfl rfl (y_fieldAddr (k := 2) (m := 2) rfl (by kernel_rfl) rfl) ?_
    refine q_val rfl rfl rfl (y_ldN 1 rfl Try.isAgg33 Try.sizeOf33 rfl rfl rfl) ?_
    refine q_val rfl rfl rfl (y_fieldAddr (k := 2) (m := 2) rfl (by kernel_rfl) rfl) ?_
    refine q_val rfl rfl rfl (y_ld 0 rfl Try.isAgg4 rfl rfl) ?_
    refine q_call1 rfl rfl rfl Try.call12 (fun w hS => holds_any _ _ _ _ _ _ _ _ _ _ _ _ _ _ _ _ w) ?_
    refine q_val rfl rfl rfl (y_fieldAddr (k := 24) (m := 24) rfl (by kernel_rfl) rfl) ?_
    refine q_val rfl rfl rfl (y_ld 1 rfl Try.isAgg4 rfl rfl) ?_
    refine q_val rfl rfl rfl (y_bne rfl rfl (by kernel_rfl)) ?_
    refine q_val rfl rfl rfl (y_assign rfl) ?_
    refine q_val rfl rfl rfl (y_assign rfl) ?_
    refine q_nil (g_then (g_ret (g_in_ret (g_then_ret ?_))))
    refine g_end2 Try.results10 rfl rfl ?_
    exact fun w hS => ⟨ret_bool2 (by simp_all [selB, selC]) (by simp_all [selB, selC]), hS.below⟩
  · skip
    refine g_cond_f rfl (g_seq (g_ops ?_))
    refine g_val rfl rfl rfl (y_move rfl) ?_
    refine g_val rfl rfl rfl (y_assign rfl) ?_
    refine g_nil (g_then ?_)
    first | refine g_casep 22 rfl (fun h2 => ?_) (fun h2 => ?_) | refine g_caseb 22 rfl (fun h2 => ?_) (fun h2 => ?_)
    · skip
      refine g_cond_t rfl (g_seq ?_)
      refine g_quiet (by kernel_rfl) (by kernel_rfl) ?_
      refine q_val rfl rfl rfl (y_fieldAddr (k := 24) (m := 24) rfl (by kernel_rfl) rfl) ?_
      refine q_val rfl rfl rfl (y_ld 1 rfl Try.isAgg4 rfl rfl) ?_
      refine q_val rfl rfl rfl ((by first | exact y_notp rfl | exact y_not rfl)) ?_
      refine q_val rfl rfl rfl (y_ldN 0 rfl Try.isAgg43 Try.sizeOf43 rfl rfl rfl) ?_
      refine q_val rfl rfl rfl (y_fieldAddr (k := 13) (m := 13) rfl (by kernel_rfl) rfl) ?_
      refine q_val rfl rfl rfl (y_ldN 1 rfl Try.isAgg33 Try.sizeOf33 rfl rfl rfl) ?_
      refine q_call1 rfl rfl rfl Try.call13 (fun w hS => ends_any _ _ _ _ _ _ _ _ _ _ _ _ _ _ _ w) ?_
      refine q_val rfl rfl rfl ((by first | exact y_notp rfl | exact y_not rfl)) ?_
      refine q_val rfl rfl rfl (y_move rfl) ?_
      first | refine q_casep 32 rfl (fun h3 => ?_) (fun h3 => ?_) | refine q_caseb 32 rfl (fun h3 => ?_) (fun h3 => ?_)
      · skip
        refine q_val rfl rfl rfl (y_ldN 0 rfl Try.isAgg43 Try.sizeOf43 rfl rfl rfl) ?_
        refine q_val rfl rfl rfl (y_fieldAddr (k := 13) (m := 13) rfl (by kernel_rfl) rfl) ?_
        refine q_val rfl rfl rfl (y_ldN 1 rfl Try.isAgg33 Try.sizeOf33 rfl rfl rfl) ?_
        refine q_val rfl rfl rfl (y_fieldAddr (k := 3) (m := 3) rfl (by kernel_rfl) rfl) ?_
        refine q_val rfl rfl rfl (y_ld 0 rfl Try.isAgg4 rfl rfl) ?_
        refine q_call1 rfl rfl rfl Try.call12 (fun w hS => holds_any _ _ _ _ _ _ _ _ _ _ _ _ _ _ _ _ w) ?_
        refine q_val rfl rfl rfl ((by first | exact y_notp rfl | exact y_not rfl)) ?_
        refine q_val rfl rfl rfl (y_pick_t rfl rfl) ?_
        refine q_val rfl rfl rfl (y_assign rfl) ?_
        refine q_val rfl rfl rfl (y_assign rfl) ?_
        refine q_nil (g_then (g_ret (g_in_ret (g_then_ret ?_))))
        refine g_end2 Try.results10 rfl rfl ?_
        exact fun w hS => ⟨ret_bool2 (by simp_all [selB, selC]) (by simp_all [selB, selC]), hS.below⟩
      · skip
        refine q_not rfl rfl rfl ?_
        refine q_not rfl rfl rfl ?_
        refine q_not rfl rfl rfl ?_
        refine q_not rfl rfl rfl ?_
        refine q_not rfl rfl rfl ?_
        refine q_not rfl rfl rfl ?_
        refine q_not rfl rfl rfl ?_
        refine q_val rfl rfl rfl (y_pick_f rfl rfl) ?_
        refine q_val rfl rfl rfl (y_assign rfl) ?_
        refine q_val rfl rfl rfl (y_assign rfl) ?_
        refine q_nil (g_then (g_ret (g_in_ret (g_then_ret ?_))))
        refine g_end2 Try.results10 rfl rfl ?_
        exact fun w hS => ⟨ret_bool2 (by simp_all [selB, selC]) (by simp_all [selB, selC]), hS.below⟩
    · skip
      refine g_cond_f rfl (g_seq (g_ops ?_))
      refine g_val rfl rfl rfl (y_ldN 0 rfl Try.isAgg43 Try.sizeOf43 rfl rfl rfl) ?_
      refine g_val rfl rfl rfl (y_fieldAddr (k := 2) (m := 2) rfl (by kernel_rfl) rfl) ?_
      refine g_val rfl rfl rfl (y_ldN 1 rfl Try.isAgg33 Try.sizeOf33 rfl rfl rfl) ?_
      refine g_val rfl rfl rfl (y_fieldAddr (k := 2) (m := 2) rfl (by kernel_rfl) rfl) ?_
      refine g_val rfl rfl rfl (y_ld 0 rfl Try.isAgg4 rfl rfl) ?_
      refine g_call1 rfl rfl rfl Try.call12 (fun w hS => holds_any _ _ _ _ _ _ _ _ _ _ _ _ _ _ _ _ w) ?_
      refine g_val rfl rfl rfl (y_assign rfl) ?_
      refine g_nil (g_then ?_)
      first | refine g_casep 41 rfl (fun h4 => ?_) (fun h4 => ?_) | refine g_caseb 41 rfl (fun h4 => ?_) (fun h4 => ?_)
      · skip
        refine g_cond_t rfl (g_seq ?_)
        refine g_quiet (by kernel_rfl) (by kernel_rfl) ?_
        refine q_val rfl rfl rfl (y_fieldAddr (k := 24) (m := 24) rfl (by kernel_rfl) rfl) ?_
        refine q_val rfl rfl rfl (y_ld 1 rfl Try.isAgg4 rfl rfl) ?_
        refine q_val rfl rfl rfl ((by first | exact y_notp rfl | exact y_not rfl)) ?_
        refine q_val rfl rfl rfl (y_ldN 0 rfl Try.isAgg43 Try.sizeOf43 rfl rfl rfl) ?_
        refine q_val rfl rfl rfl (y_fieldAddr (k := 13) (m := 13) rfl (by kernel_rfl) rfl) ?_
        refine q_val rfl rfl rfl (y_ldN 1 rfl Try.isAgg33 Try.sizeOf33 rfl rfl rfl) ?_
        refine q_call1 rfl rfl rfl Try.call13 (fun w hS => ends_any _ _ _ _ _ _ _ _ _ _ _ _ _ _ _ w) ?_
        refine q_val rfl rfl rfl ((by first | exact y_notp rfl | exact y_not rfl)) ?_
        refine q_val rfl rfl rfl (y_assign rfl) ?_
        refine q_val rfl rfl rfl (y_assign rfl) ?_
        refine q_nil (g_then (g_ret (g_in_ret (g_then_ret ?_))))
        refine g_end2 Try.results10 rfl rfl ?_
        exact fun w hS => ⟨ret_bool2 (by simp_all [selB, selC]) (by simp_all [selB, selC]), hS.below⟩
      · skip
        refine g_cond_f rfl (g_skip (g_in_normal (g_then (g_seq (g_ops ?_)))))
        refine g_val rfl rfl rfl (y_fieldAddr (k := 24) (m := 24) rfl (by kernel_rfl) rfl) ?_
        refine g_val rfl rfl rfl (y_ld 1 rfl Try.isAgg4 rfl rfl) ?_
        refine g_val rfl rfl rfl (y_assign rfl) ?_
        refine g_val rfl rfl rfl (y_assign rfl) ?_
        refine g_nil (g_then (g_ret ?_))
        refine g_end2 Try.results10 rfl rfl ?_
        exact fun w hS => ⟨ret_bool2 (by simp_all [selB, selC]) (by simp_all [selB, selC]), hS.below⟩

theorem needs_any (open_ : Bool) (fk fl tk tl : Int) (nt : Bool) (w : World) :
    Calls Try.prog 11 #[.agg (cmdC fk fl tk tl nt), .bool open_] w fun e w' => e = .returned (.tuple #[.bool (needB open_ fk tk).1, .bool (needB open_ fk tk).2]) ∧ Below w.heap.size w w' := by
  refine fn_intro Try.func11 rfl Try.ntmps11 rfl rfl ?_
  refine g_seq (g_ops ?_)
  refine g_box rfl rfl rfl rfl (fun b1 => ?_)
  refine g_val rfl rfl rfl (y_assign rfl) ?_
  refine g_val rfl rfl rfl (y_assign rfl) ?_
  refine g_nil (g_then (g_seq (g_ops ?_)))
  refine g_val rfl rfl rfl (y_fieldAddr (k := 13) (m := 13) rfl (by kernel_rfl) rfl) ?_
  refine g_val rfl rfl rfl (y_fieldAddr (k := 0) (m := 13) rfl (by kernel_rfl) rfl) ?_
  refine g_val rfl rfl rfl (y_ld 0 rfl Try.isAgg24 rfl rfl) ?_
  refine g_val rfl rfl rfl (y_ine rfl rfl) ?_
  refine g_val rfl rfl rfl (y_assign rfl) ?_
  refine g_nil (g_then (g_seq ?_))
  refine g_quiet (by kernel_rfl) (by kernel_rfl) ?_
  refine q_val rfl rfl rfl (y_fieldAddr (k := 2) (m := 2) rfl (by kernel_rfl) rfl) ?_
  refine q_val rfl rfl rfl (y_ldN 0 rfl Try.isAgg33 Try.sizeOf33 rfl rfl rfl) ?_
  refine q_call1 rfl rfl rfl Try.call14 (fun w hS => pat_any _ _ _ _ _ _ _ _ _ _ _ w) ?_
  refine q_val rfl rfl rfl (y_move rfl) ?_
  first | refine q_casep 14 rfl (fun h1 => ?_) (fun h1 => ?_) | refine q_caseb 14 rfl (fun h1 => ?_) (fun h1 => ?_)
  · skip
    refine q_val rfl rfl rfl (y_move rfl) ?_
    refine q_val rfl rfl rfl (y_move rfl) ?_
    first | refine q_casep 16 rfl (fun h2 => ?_) (fun h2 => ?_) | refine q_caseb 16 rfl (fun h2 => ?_) (fun h2 => ?_)
    · skip
      refine q_val rfl rfl rfl (y_move rfl) ?_
      refine q_val rfl rfl rfl (y_pick_t rfl rfl) ?_
      refine q_val rfl rfl rfl ((by first | exact y_notp rfl | exact y_not rfl)) ?_
      refine q_val rfl rfl rfl (y_pick_t rfl rfl) ?_
      refine q_val rfl rfl rfl (y_fieldAddr (k := 13) (m := 13) rfl (by kernel_rfl) rfl) ?_
      refine q_val rfl rfl rfl (y_ldN 0 rfl Try.isAgg33 Try.sizeOf33 rfl rfl rfl) ?_
      refine q_call1 rfl rfl rfl Try.call14 (fun w hS => pat_any _ _ _ _ _ _ _ _ _ _ _ w) ?_
      refine q_val rfl rfl rfl (y_move rfl) ?_
      first | refine q_casep 24 rfl (fun h3 => ?_) (fun h3 => ?_) | refine q_caseb 24 rfl (fun h3 => ?_) (fun h3 => ?_)
      · skip
        refine q_val rfl rfl rfl (y_move rfl) ?_
        refine q_val rfl rfl rfl (y_pick_t rfl rfl) ?_
        refine q_val rfl rfl rfl (y_assign rfl) ?_
        refine q_val rfl rfl rfl (y_assign rfl) ?_
        refine q_nil (g_then (g_ret ?_))
        refine g_end2 Try.results11 rfl rfl ?_
        exact fun w hS => ⟨ret_bool2 (by simp_all [needB]) (by simp_all [needB]), hS.below⟩
      · skip
        refine q_not rfl rfl rfl ?_
        refine q_val rfl rfl rfl (y_pick_f rfl rfl) ?_
        refine q_val rfl rfl rfl (y_assign rfl) ?_
        refine q_val rfl rfl rfl (y_assign rfl) ?_
        refine q_nil (g_then (g_ret ?_))
        refine g_end2 Try.results11 rfl rfl ?_
        exact fun w hS => ⟨ret_bool2 (by simp_all [needB]) (by simp_all [needB]), hS.below⟩
    · skip
      refine q_not rfl rfl rfl ?_
      refine q_val rfl rfl rfl (y_pick_f rfl rfl) ?_
      refine q_val rfl rfl rfl ((by first | exact y_notp rfl | exact y_not rfl)) ?_
      refine q_val rfl rfl rfl (y_pick_t rfl rfl) ?_
      refine q_val rfl rfl rfl (y_fieldAddr (k := 13) (m := 13) rfl (by kernel_rfl) rfl) ?_
      refine q_val rfl rfl rfl (y_ldN 0 rfl Try.isAgg33 Try.sizeOf33 rfl rfl rfl) ?_
      refine q_call1 rfl rfl rfl Try.call14 (fun w hS => pat_any _ _ _ _ _ _ _ _ _ _ _ w) ?_
      refine q_val rfl rfl rfl (y_move rfl) ?_
      first | refine q_casep 24 rfl (fun h4 => ?_) (fun h4 => ?_) | refine q_caseb 24 rfl (fun h4 => ?_) (fun h4 => ?_)
      · skip
        refine q_val rfl rfl rfl (y_move rfl) ?_
        refine q_val rfl rfl rfl (y_pick_t rfl rfl) ?_
        refine q_val rfl rfl rfl (y_assign rfl) ?_
        refine q_val rfl rfl rfl (y_assign rfl) ?_
        refine q_nil (g_then (g_ret ?_))
        refine g_end2 Try.results11 rfl rfl ?_
        exact fun w hS => ⟨ret_bool2 (by simp_all [needB]) (by simp_all [needB]), hS.below⟩
      · skip
        refine q_not rfl rfl rfl ?_
        refine q_val rfl rfl rfl (y_pick_f rfl rfl) ?_
        refine q_val rfl rfl rfl (y_assign rfl) ?_
        refine q_val rfl rfl rfl (y_assign rfl) ?_
        refine q_nil (g_then (g_ret ?_))
        refine g_end2 Try.results11 rfl rfl ?_
        exact fun w hS => ⟨ret_bool2 (by simp_all [needB]) (by simp_all [needB]), hS.below⟩
  · skip
    refine q_not rfl rfl rfl ?_
    refine q_not rfl rfl rfl ?_
    refine q_not rfl rfl rfl ?_
    refine q_not rfl rfl rfl ?_
    refine q_not rfl rfl rfl ?_
    refine q_val rfl rfl rfl (y_pick_f rfl rfl) ?_
    refine q_val rfl rfl rfl (y_fieldAddr (k := 13) (m := 13) rfl (by kernel_rfl) rfl) ?_
    refine q_val rfl rfl rfl (y_ldN 0 rfl Try.isAgg33 Try.sizeOf33 rfl rfl rfl) ?_
    refine q_call1 rfl rfl rfl Try.call14 (fun w hS => pat_any _ _ _ _ _ _ _ _ _ _ _ w) ?_
    refine q_val rfl rfl rfl (y_move rfl) ?_
    first | refine q_casep 24 rfl (fun h5 => ?_) (fun h5 => ?_) | refine q_caseb 24 rfl (fun h5 => ?_) (fun h5 => ?_)
    · skip
      refine q_val rfl rfl rfl (y_move rfl) ?_
      refine q_val rfl rfl rfl (y_pick_t rfl rfl) ?_
      refine q_val rfl rfl rfl (y_assign rfl) ?_
      refine q_val rfl rfl rfl (y_assign rfl) ?_
      refine q_nil (g_then (g_ret ?_))
      refine g_end2 Try.results11 rfl rfl ?_
      exact fun w hS => ⟨ret_bool2 (by simp_all [needB]) (by simp_all [needB]), hS.below⟩
    · skip
      refine q_not rfl rfl rfl ?_
      refine q_val rfl rfl rfl (y_pick_f rfl rfl) ?_
      refine q_val rfl rfl rfl (y_assign rfl) ?_
      refine q_val rfl rfl rfl (y_assign rfl) ?_
      refine q_nil (g_then (g_ret ?_))
      refine g_end2 Try.results11 rfl rfl ?_
      exact fun w hS => ⟨ret_bool2 (by simp_all [needB]) (by simp_all [needB]), hS.below⟩

end Go.Proofs.Ytpliolkifnnldaa
