/- The document's answer: Same, of what is the same. -/
import Derived.Test.YtpacnggomjepdaaPrk
namespace Go.Proofs.Ytpacnggomjepdaa
open Go Go.RowKit

theorem y_rdPart {P : Program} {N : Nat} {R : Regs} {W0 : World} {L : List Ent} {dst : Option Tmp} {ty t : TypeId} {pos : String} {af : Array Edge} {gd : Option (Nat × Bool)} {x : Operand} {p : Option Addr} {n sz o k m : Nat} {i : Int} {f : Nat → Nat → Value} {vs : List Value} (hr : RdSl W0 p n sz f) (hx : ev R x = some (.pointer (some ((p.getD default).add m)))) (hm : i.toNat * sz + o = m) (ha : ∀ w, (isAgg t).run P w = .ok true w) (hz : ∀ w, (sizeOf t).run P w = .ok k w) (h0 : 0 ≤ i) (h1 : i < n) (hk : o + k ≤ sz) (hl : vs.length = k) (hv : ∀ q, q < k → vs[q]? = some (f i.toNat (o + q))) :
    Yv P N R (St W0 [] L) ⟨dst, .load t x, ty, pos, af, gd⟩ (.agg vs.toArray) := fun a w hR hS => by
  subst hm
  have hl2 : (loadCells ((p.getD default).add (i.toNat * sz + o)) vs.length).run P w = .ok vs.toArray w :=
    run_loadCells_list (P := P) w _ vs (fun j v hj => by
      have hlt : j < vs.length := (List.getElem?_eq_some_iff.1 hj).1
      rw [add_add2, Nat.add_assoc, rd_cell hr (by omega) (by omega) w hS, ← hv j (by omega), hj])
  rw [hl] at hl2
  simp [execOp, hR.eval hx, Instr.loadAt, Instr.sureAddr, loadVar, Sem.run_bind, ha, hz, hl2]
def zN : List Value := [.int .i64 0, .int .u64 0, .int .u64 0, .int .u64 0, .int .u64 0, .int .i64 0, .int .i64 0, .int .i64 0, .slice none 0 0]
def zA : List Value := .int .i64 0 :: .int .i64 0 :: zN
def plOk (c : Cm) : Prop := feq c.re c.re = true ∧ feq c.im c.im = true
theorem in_part (cs : Nat → Cm) (j : Nat → Int) (i q : Nat) (hq : q < 42) : (cmC (cs i))[q]? = some (inF cs j i (0 + q)) := by
  rw [Nat.zero_add]
  have h := in_get cs j i q (by omega)
  rw [← h]
  show _ = (cmC (cs i) ++ [Value.int .i64 (j i)])[q]?
  rw [List.getElem?_append_left (by rw [cmC_len]; exact hq)]

set_option maxRecDepth 100000 in
theorem node_same  (w : World) :
    Calls Try.prog 28 #[.agg zN.toArray, .agg zN.toArray] w fun e w' => e = .returned (.bool true) ∧ Below w.heap.size w w' := by
  refine fn_intro Try.func28 rfl Try.ntmps28 rfl rfl ?_
  refine g_seq (g_ops ?_)
  refine g_box rfl rfl rfl rfl (fun b1 => ?_)
  refine g_box rfl rfl rfl rfl (fun b2 => ?_)
  refine g_val rfl rfl rfl (y_assign rfl) ?_
  refine g_nil (g_then (g_seq (g_seq (g_ops ?_))))
  refine g_val rfl rfl rfl (y_fieldAddr (k := 0) (m := 0) rfl (by kernel_rfl) rfl) ?_
  refine g_val rfl rfl rfl (y_ld 1 rfl Try.isAgg34 rfl rfl) ?_
  refine g_val rfl rfl rfl (y_fieldAddr (k := 0) (m := 0) rfl (by kernel_rfl) rfl) ?_
  refine g_val rfl rfl rfl (y_ld 0 rfl Try.isAgg34 rfl rfl) ?_
  refine g_val rfl rfl rfl (y_lit false (y_ine rfl rfl) (by decide)) ?_
  refine g_val rfl rfl rfl (y_move rfl) ?_
  refine g_val rfl rfl rfl (y_fieldAddr (k := 1) (m := 1) rfl (by kernel_rfl) rfl) ?_
  refine g_val rfl rfl rfl (y_ldN 1 rfl Try.isAgg37 Try.sizeOf37 rfl rfl rfl) ?_
  refine g_val rfl rfl rfl (y_fieldAddr (k := 1) (m := 1) rfl (by kernel_rfl) rfl) ?_
  refine g_val rfl rfl rfl (y_ldN 0 rfl Try.isAgg37 Try.sizeOf37 rfl rfl rfl) ?_
  refine g_val (v := .bool false) rfl rfl rfl (y_bin rfl rfl (fun w => by kernel_rfl)) ?_
  refine g_val rfl rfl rfl (y_pick_f rfl rfl) ?_
  refine g_val rfl rfl rfl (y_move rfl) ?_
  refine g_val rfl rfl rfl (y_fieldAddr (k := 5) (m := 5) rfl (by kernel_rfl) rfl) ?_
  refine g_val rfl rfl rfl (y_ld 1 rfl Try.isAgg3 rfl rfl) ?_
  refine g_val rfl rfl rfl (y_fieldAddr (k := 5) (m := 5) rfl (by kernel_rfl) rfl) ?_
  refine g_val rfl rfl rfl (y_ld 0 rfl Try.isAgg3 rfl rfl) ?_
  refine g_val rfl rfl rfl (y_lit false (y_ine rfl rfl) (by decide)) ?_
  refine g_val rfl rfl rfl (y_pick_f rfl rfl) ?_
  refine g_val rfl rfl rfl (y_move rfl) ?_
  refine g_val rfl rfl rfl (y_fieldAddr (k := 6) (m := 6) rfl (by kernel_rfl) rfl) ?_
  refine g_val rfl rfl rfl (y_ld 1 rfl Try.isAgg3 rfl rfl) ?_
  refine g_val rfl rfl rfl (y_fieldAddr (k := 6) (m := 6) rfl (by kernel_rfl) rfl) ?_
  refine g_val rfl rfl rfl (y_ld 0 rfl Try.isAgg3 rfl rfl) ?_
  refine g_val rfl rfl rfl (y_lit false (y_ine rfl rfl) (by decide)) ?_
  refine g_val rfl rfl rfl (y_pick_f rfl rfl) ?_
  refine g_val rfl rfl rfl (y_move rfl) ?_
  refine g_val rfl rfl rfl (y_fieldAddr (k := 7) (m := 7) rfl (by kernel_rfl) rfl) ?_
  refine g_val rfl rfl rfl (y_ld 1 rfl Try.isAgg3 rfl rfl) ?_
  refine g_val rfl rfl rfl (y_fieldAddr (k := 7) (m := 7) rfl (by kernel_rfl) rfl) ?_
  refine g_val rfl rfl rfl (y_ld 0 rfl Try.isAgg3 rfl rfl) ?_
  refine g_val rfl rfl rfl (y_lit false (y_ine rfl rfl) (by decide)) ?_
  refine g_val rfl rfl rfl (y_pick_f rfl rfl) ?_
  refine g_val rfl rfl rfl (y_move rfl) ?_
  refine g_val rfl rfl rfl (y_fieldAddr (k := 8) (m := 8) rfl (by kernel_rfl) rfl) ?_
  refine g_val rfl rfl rfl (y_ld 1 rfl Try.isAgg38 rfl rfl) ?_
  refine g_val rfl rfl rfl (y_llen rfl Try.underlying38) ?_
  refine g_val rfl rfl rfl (y_fieldAddr (k := 8) (m := 8) rfl (by kernel_rfl) rfl) ?_
  refine g_val rfl rfl rfl (y_ld 0 rfl Try.isAgg38 rfl rfl) ?_
  refine g_val rfl rfl rfl (y_llen rfl Try.underlying38) ?_
  refine g_val rfl rfl rfl (y_lit false (y_ine rfl rfl) (by decide)) ?_
  refine g_val rfl rfl rfl (y_pick_f rfl rfl) ?_
  refine g_nil (g_then (g_cond_f rfl (g_skip (g_then (g_seq (g_seq (g_ops ?_)))))))
  refine g_val rfl rfl rfl (y_assign rfl) ?_
  refine g_nil (g_then (g_block ?_))
  refine g_loop (α := Unit) (fun x => [(2, .pointer (some ⟨b1, 0, none⟩)), (3, .pointer (some ⟨b2, 0, none⟩)), (5, .int .i64 0)]) (fun x => St w [] [.cells b2 40 zN, .cells b1 40 zN]) (fun x => 0) () [2, 3, 5] rfl (fun w h => h.sub (.cons_cons _ (.cons_cons _ .slnil))) ?_
  rintro ⟨⟩
  try dsimp only
  refine g_seq (g_seq (g_ops ?_))
  refine g_val rfl rfl rfl (y_move rfl) ?_
  refine g_val rfl rfl rfl (y_fieldAddr (k := 8) (m := 8) rfl (by kernel_rfl) rfl) ?_
  refine g_val rfl rfl rfl (y_ld 1 rfl Try.isAgg38 rfl rfl) ?_
  refine g_val rfl rfl rfl (y_llen rfl Try.underlying38) ?_
  refine g_val rfl rfl rfl (y_lit false (y_ilt rfl rfl) (by decide)) ?_
  refine g_nil (g_then (g_cond_f rfl (g_exit (g_then_exit (g_then_exit (g_in_exit (g_then (g_seq (g_ops ?_)))))))))
  refine g_val rfl rfl rfl (y_assign rfl) ?_
  refine g_nil (g_then (g_ret ?_))
  refine g_end1 Try.results28 rfl ?_
  exact fun w hS => ⟨rfl, (hS.sub (List.nil_sublist _)).below⟩

set_option maxRecDepth 100000 in
theorem piece_same  (w : World) :
    Calls Try.prog 29 #[.slice none 0 0, .slice none 0 0] w fun e w' => e = .returned (.bool true) ∧ Below w.heap.size w w' := by
  refine fn_intro Try.func29 rfl Try.ntmps29 rfl rfl ?_
  refine g_seq (g_ops ?_)
  refine g_val rfl rfl rfl (y_assign rfl) ?_
  refine g_nil (g_then (g_seq (g_seq (g_ops ?_))))
  refine g_val rfl rfl rfl (y_move rfl) ?_
  refine g_val rfl rfl rfl (y_llen rfl Try.underlying43) ?_
  refine g_val rfl rfl rfl (y_move rfl) ?_
  refine g_val rfl rfl rfl (y_llen rfl Try.underlying43) ?_
  refine g_val rfl rfl rfl (y_lit false (y_ine rfl rfl) (by decide)) ?_
  refine g_nil (g_then (g_cond_f rfl (g_skip (g_then (g_seq (g_seq (g_ops ?_)))))))
  refine g_val rfl rfl rfl (y_assign rfl) ?_
  refine g_nil (g_then (g_block ?_))
  refine g_loop (α := Unit) (fun x => [(0, .slice none 0 0), (1, .slice none 0 0), (5, .int .i64 0)]) (fun x => St w [] []) (fun x => 0) () [0, 1, 5] rfl (fun w h => h.sub .slnil) ?_
  rintro ⟨⟩
  try dsimp only
  refine g_seq (g_seq (g_ops ?_))
  refine g_val rfl rfl rfl (y_move rfl) ?_
  refine g_val rfl rfl rfl (y_move rfl) ?_
  refine g_val rfl rfl rfl (y_llen rfl Try.underlying43) ?_
  refine g_val rfl rfl rfl (y_lit false (y_ilt rfl rfl) (by decide)) ?_
  refine g_nil (g_then (g_cond_f rfl (g_exit (g_then_exit (g_then_exit (g_in_exit (g_then (g_seq (g_ops ?_)))))))))
  refine g_val rfl rfl rfl (y_assign rfl) ?_
  refine g_nil (g_then (g_ret ?_))
  refine g_end1 Try.results29 rfl ?_
  exact fun w hS => ⟨rfl, (hS.sub (List.nil_sublist _)).below⟩

set_option maxRecDepth 100000 in
theorem addr_same  (w : World) :
    Calls Try.prog 30 #[.agg zA.toArray, .agg zA.toArray] w fun e w' => e = .returned (.bool true) ∧ Below w.heap.size w w' := by
  refine fn_intro Try.func30 rfl Try.ntmps30 rfl rfl ?_
  refine g_seq (g_ops ?_)
  refine g_box rfl rfl rfl rfl (fun b1 => ?_)
  refine g_box rfl rfl rfl rfl (fun b2 => ?_)
  refine g_val rfl rfl rfl (y_assign rfl) ?_
  refine g_nil (g_then (g_seq (g_ops ?_)))
  refine g_val rfl rfl rfl (y_fieldAddr (k := 2) (m := 2) rfl (by kernel_rfl) rfl) ?_
  refine g_val rfl rfl rfl (y_ldN 1 rfl Try.isAgg40 Try.sizeOf40 rfl rfl rfl) ?_
  refine g_val rfl rfl rfl (y_fieldAddr (k := 2) (m := 2) rfl (by kernel_rfl) rfl) ?_
  refine g_val rfl rfl rfl (y_ldN 0 rfl Try.isAgg40 Try.sizeOf40 rfl rfl rfl) ?_
  refine g_call1 rfl rfl rfl Try.call28 (fun w hS => node_same w) ?_
  refine g_val rfl rfl rfl (y_assign rfl) ?_
  refine g_nil (g_then (g_seq (g_ops ?_)))
  refine g_val rfl rfl rfl (y_move rfl) ?_
  refine g_val rfl rfl rfl (y_move rfl) ?_
  refine g_val rfl rfl rfl (y_fieldAddr (k := 0) (m := 0) rfl (by kernel_rfl) rfl) ?_
  refine g_val rfl rfl rfl (y_ld 1 rfl Try.isAgg33 rfl rfl) ?_
  refine g_val rfl rfl rfl (y_fieldAddr (k := 0) (m := 0) rfl (by kernel_rfl) rfl) ?_
  refine g_val rfl rfl rfl (y_ld 0 rfl Try.isAgg33 rfl rfl) ?_
  refine g_val rfl rfl rfl (y_lit true (y_ieq rfl rfl) (by first | rfl | decide | exact decide_eq_true rfl)) ?_
  refine g_val rfl rfl rfl (y_pick_t rfl rfl) ?_
  refine g_val rfl rfl rfl (y_move rfl) ?_
  refine g_val rfl rfl rfl (y_fieldAddr (k := 1) (m := 1) rfl (by kernel_rfl) rfl) ?_
  refine g_val rfl rfl rfl (y_ld 1 rfl Try.isAgg3 rfl rfl) ?_
  refine g_val rfl rfl rfl (y_fieldAddr (k := 1) (m := 1) rfl (by kernel_rfl) rfl) ?_
  refine g_val rfl rfl rfl (y_ld 0 rfl Try.isAgg3 rfl rfl) ?_
  refine g_val rfl rfl rfl (y_lit true (y_ieq rfl rfl) (by first | rfl | decide | exact decide_eq_true rfl)) ?_
  refine g_val rfl rfl rfl (y_pick_t rfl rfl) ?_
  refine g_val rfl rfl rfl (y_assign rfl) ?_
  refine g_nil (g_then (g_ret ?_))
  refine g_end1 Try.results30 rfl ?_
  exact fun w hS => ⟨rfl, (hS.sub (List.nil_sublist _)).below⟩

set_option maxRecDepth 100000 in
theorem cmd_same (cm : Cm) (hpl : plOk cm) (w : World) :
    Calls Try.prog 23 #[.agg (cmC cm).toArray, .agg (cmC cm).toArray] w fun e w' => e = .returned (.bool true) ∧ Below w.heap.size w w' := by
  refine fn_intro Try.func23 rfl Try.ntmps23 rfl rfl ?_
  refine g_seq (g_ops ?_)
  refine g_box rfl rfl rfl rfl (fun b1 => ?_)
  refine g_box rfl rfl rfl rfl (fun b2 => ?_)
  refine g_val rfl rfl rfl (y_assign rfl) ?_
  refine g_nil (g_then (g_seq (g_ops ?_)))
  refine g_val rfl rfl rfl (y_fieldAddr (k := 27) (m := 27) rfl (by kernel_rfl) rfl) ?_
  refine g_val rfl rfl rfl (y_ldN 1 rfl Try.isAgg40 Try.sizeOf40 rfl rfl rfl) ?_
  refine g_val rfl rfl rfl (y_fieldAddr (k := 27) (m := 27) rfl (by kernel_rfl) rfl) ?_
  refine g_val rfl rfl rfl (y_ldN 0 rfl Try.isAgg40 Try.sizeOf40 rfl rfl rfl) ?_
  refine g_call1 rfl rfl rfl Try.call28 (fun w hS => node_same w) ?_
  refine g_val rfl rfl rfl (y_assign rfl) ?_
  refine g_nil (g_then (g_seq (g_ops ?_)))
  refine g_val rfl rfl rfl (y_fieldAddr (k := 37) (m := 37) rfl (by kernel_rfl) rfl) ?_
  refine g_val rfl rfl rfl (y_ld 1 rfl Try.isAgg43 rfl rfl) ?_
  refine g_val rfl rfl rfl (y_fieldAddr (k := 37) (m := 37) rfl (by kernel_rfl) rfl) ?_
  refine g_val rfl rfl rfl (y_ld 0 rfl Try.isAgg43 rfl rfl) ?_
  refine g_call1 rfl rfl rfl Try.call29 (fun w hS => piece_same w) ?_
  refine g_val rfl rfl rfl (y_assign rfl) ?_
  refine g_nil (g_then (g_seq (g_ops ?_)))
  refine g_val rfl rfl rfl (y_fieldAddr (k := 2) (m := 2) rfl (by kernel_rfl) rfl) ?_
  refine g_val rfl rfl rfl (y_ldN 1 rfl Try.isAgg42 Try.sizeOf42 rfl rfl rfl) ?_
  refine g_val rfl rfl rfl (y_fieldAddr (k := 2) (m := 2) rfl (by kernel_rfl) rfl) ?_
  refine g_val rfl rfl rfl (y_ldN 0 rfl Try.isAgg42 Try.sizeOf42 rfl rfl rfl) ?_
  refine g_call1 rfl rfl rfl Try.call30 (fun w hS => addr_same w) ?_
  refine g_val rfl rfl rfl (y_assign rfl) ?_
  refine g_nil (g_then (g_seq (g_ops ?_)))
  refine g_val rfl rfl rfl (y_fieldAddr (k := 13) (m := 13) rfl (by kernel_rfl) rfl) ?_
  refine g_val rfl rfl rfl (y_ldN 1 rfl Try.isAgg42 Try.sizeOf42 rfl rfl rfl) ?_
  refine g_val rfl rfl rfl (y_fieldAddr (k := 13) (m := 13) rfl (by kernel_rfl) rfl) ?_
  refine g_val rfl rfl rfl (y_ldN 0 rfl Try.isAgg42 Try.sizeOf42 rfl rfl rfl) ?_
  refine g_call1 rfl rfl rfl Try.call30 (fun w hS => addr_same w) ?_
  refine g_val rfl rfl rfl (y_assign rfl) ?_
  refine g_nil (g_then (g_seq (g_ops ?_)))
  dsimp only [List.append]
  refine g_val rfl rfl rfl (y_move rfl) ?_
  refine g_val rfl rfl rfl (y_move rfl) ?_
  refine g_val rfl rfl rfl (y_move rfl) ?_
  refine g_val rfl rfl rfl (y_pick_t rfl rfl) ?_
  refine g_val rfl rfl rfl (y_move rfl) ?_
  refine g_val rfl rfl rfl (y_move rfl) ?_
  refine g_val rfl rfl rfl (y_pick_t rfl rfl) ?_
  refine g_val rfl rfl rfl (y_move rfl) ?_
  refine g_val rfl rfl rfl (y_move rfl) ?_
  refine g_val rfl rfl rfl (y_pick_t rfl rfl) ?_
  refine g_val rfl rfl rfl (y_move rfl) ?_
  refine g_val rfl rfl rfl (y_fieldAddr (k := 0) (m := 0) rfl (by kernel_rfl) rfl) ?_
  refine g_val rfl rfl rfl (y_ld 1 rfl Try.isAgg28 rfl rfl) ?_
  refine g_val rfl rfl rfl (y_fieldAddr (k := 0) (m := 0) rfl (by kernel_rfl) rfl) ?_
  refine g_val rfl rfl rfl (y_ld 0 rfl Try.isAgg28 rfl rfl) ?_
  refine g_val rfl rfl rfl (y_lit true ((by first | exact y_ceqI rfl rfl (by omega) (by omega) (by omega) (by omega) | exact y_ceq rfl rfl)) (by rw [hpl.1, hpl.2]; rfl)) ?_
  refine g_val rfl rfl rfl (y_pick_t rfl rfl) ?_
  refine g_val rfl rfl rfl (y_move rfl) ?_
  refine g_val rfl rfl rfl (y_fieldAddr (k := 1) (m := 1) rfl (by kernel_rfl) rfl) ?_
  refine g_val rfl rfl rfl (y_ld 1 rfl Try.isAgg5 rfl rfl) ?_
  refine g_val rfl rfl rfl (y_fieldAddr (k := 1) (m := 1) rfl (by kernel_rfl) rfl) ?_
  refine g_val rfl rfl rfl (y_ld 0 rfl Try.isAgg5 rfl rfl) ?_
  refine g_val rfl rfl rfl (y_lit true (y_ieq rfl rfl) (by first | rfl | decide | exact decide_eq_true rfl)) ?_
  refine g_val rfl rfl rfl (y_pick_t rfl rfl) ?_
  refine g_val rfl rfl rfl (y_move rfl) ?_
  refine g_val rfl rfl rfl (y_fieldAddr (k := 24) (m := 24) rfl (by kernel_rfl) rfl) ?_
  refine g_val rfl rfl rfl (y_ld 1 rfl Try.isAgg4 rfl rfl) ?_
  refine g_val rfl rfl rfl (y_fieldAddr (k := 24) (m := 24) rfl (by kernel_rfl) rfl) ?_
  refine g_val rfl rfl rfl (y_ld 0 rfl Try.isAgg4 rfl rfl) ?_
  refine g_val rfl rfl rfl (y_lit true (y_beq rfl rfl (by kernel_rfl)) (by first | rfl | decide | exact decide_eq_true rfl)) ?_
  refine g_val rfl rfl rfl (y_pick_t rfl rfl) ?_
  refine g_val rfl rfl rfl (y_move rfl) ?_
  refine g_val rfl rfl rfl (y_fieldAddr (k := 25) (m := 25) rfl (by kernel_rfl) rfl) ?_
  refine g_val rfl rfl rfl (y_ld 1 rfl Try.isAgg9 rfl rfl) ?_
  refine g_val rfl rfl rfl (y_fieldAddr (k := 25) (m := 25) rfl (by kernel_rfl) rfl) ?_
  refine g_val rfl rfl rfl (y_ld 0 rfl Try.isAgg9 rfl rfl) ?_
  refine g_val rfl rfl rfl (y_lit true (y_seq rfl rfl) (by first | rfl | decide | exact decide_eq_true rfl)) ?_
  refine g_val rfl rfl rfl (y_pick_t rfl rfl) ?_
  refine g_val rfl rfl rfl (y_move rfl) ?_
  refine g_val rfl rfl rfl (y_fieldAddr (k := 26) (m := 26) rfl (by kernel_rfl) rfl) ?_
  refine g_val rfl rfl rfl (y_ld 1 rfl Try.isAgg9 rfl rfl) ?_
  refine g_val rfl rfl rfl (y_fieldAddr (k := 26) (m := 26) rfl (by kernel_rfl) rfl) ?_
  refine g_val rfl rfl rfl (y_ld 0 rfl Try.isAgg9 rfl rfl) ?_
  refine g_val rfl rfl rfl (y_lit true (y_seq rfl rfl) (by first | rfl | decide | exact decide_eq_true rfl)) ?_
  refine g_val rfl rfl rfl (y_pick_t rfl rfl) ?_
  refine g_val rfl rfl rfl (y_move rfl) ?_
  refine g_val rfl rfl rfl (y_fieldAddr (k := 36) (m := 36) rfl (by kernel_rfl) rfl) ?_
  refine g_val rfl rfl rfl (y_ld 1 rfl Try.isAgg4 rfl rfl) ?_
  refine g_val rfl rfl rfl (y_fieldAddr (k := 36) (m := 36) rfl (by kernel_rfl) rfl) ?_
  refine g_val rfl rfl rfl (y_ld 0 rfl Try.isAgg4 rfl rfl) ?_
  refine g_val rfl rfl rfl (y_lit true (y_beq rfl rfl (by kernel_rfl)) (by first | rfl | decide | exact decide_eq_true rfl)) ?_
  refine g_val rfl rfl rfl (y_pick_t rfl rfl) ?_
  refine g_val rfl rfl rfl (y_move rfl) ?_
  refine g_val rfl rfl rfl (y_fieldAddr (k := 38) (m := 38) rfl (by kernel_rfl) rfl) ?_
  refine g_val rfl rfl rfl (y_ld 1 rfl Try.isAgg4 rfl rfl) ?_
  refine g_val rfl rfl rfl (y_fieldAddr (k := 38) (m := 38) rfl (by kernel_rfl) rfl) ?_
  refine g_val rfl rfl rfl (y_ld 0 rfl Try.isAgg4 rfl rfl) ?_
  refine g_val rfl rfl rfl (y_lit true (y_beq rfl rfl (by kernel_rfl)) (by first | rfl | decide | exact decide_eq_true rfl)) ?_
  refine g_val rfl rfl rfl (y_pick_t rfl rfl) ?_
  refine g_val rfl rfl rfl (y_move rfl) ?_
  refine g_val rfl rfl rfl (y_fieldAddr (k := 39) (m := 39) rfl (by kernel_rfl) rfl) ?_
  refine g_val rfl rfl rfl (y_ld 1 rfl Try.isAgg4 rfl rfl) ?_
  refine g_val rfl rfl rfl (y_fieldAddr (k := 39) (m := 39) rfl (by kernel_rfl) rfl) ?_
  refine g_val rfl rfl rfl (y_ld 0 rfl Try.isAgg4 rfl rfl) ?_
  refine g_val rfl rfl rfl (y_lit true (y_beq rfl rfl (by kernel_rfl)) (by first | rfl | decide | exact decide_eq_true rfl)) ?_
  refine g_val rfl rfl rfl (y_pick_t rfl rfl) ?_
  refine g_val rfl rfl rfl (y_move rfl) ?_
  refine g_val rfl rfl rfl (y_fieldAddr (k := 40) (m := 40) rfl (by kernel_rfl) rfl) ?_
  refine g_val rfl rfl rfl (y_ld 1 rfl Try.isAgg3 rfl rfl) ?_
  refine g_val rfl rfl rfl (y_fieldAddr (k := 40) (m := 40) rfl (by kernel_rfl) rfl) ?_
  refine g_val rfl rfl rfl (y_ld 0 rfl Try.isAgg3 rfl rfl) ?_
  refine g_val rfl rfl rfl (y_lit true (y_ieq rfl rfl) (by first | rfl | decide | exact decide_eq_true rfl)) ?_
  refine g_val rfl rfl rfl (y_pick_t rfl rfl) ?_
  refine g_val rfl rfl rfl (y_move rfl) ?_
  refine g_val rfl rfl rfl (y_fieldAddr (k := 41) (m := 41) rfl (by kernel_rfl) rfl) ?_
  refine g_val rfl rfl rfl (y_ld 1 rfl Try.isAgg9 rfl rfl) ?_
  refine g_val rfl rfl rfl (y_fieldAddr (k := 41) (m := 41) rfl (by kernel_rfl) rfl) ?_
  refine g_val rfl rfl rfl (y_ld 0 rfl Try.isAgg9 rfl rfl) ?_
  refine g_val rfl rfl rfl (y_lit true (y_seq rfl rfl) (by first | rfl | decide | exact decide_eq_true rfl)) ?_
  refine g_val rfl rfl rfl (y_pick_t rfl rfl) ?_
  refine g_val rfl rfl rfl (y_assign rfl) ?_
  refine g_nil (g_then (g_ret ?_))
  refine g_end1 Try.results23 rfl ?_
  exact fun w hS => ⟨rfl, (hS.sub (List.nil_sublist _)).below⟩

set_option maxRecDepth 100000 in
theorem prog_same (p p2 : Option Addr) (n c c2 : Nat) (cs : Nat → Cm) (j : Nat → Int) (w : World) (hn : n ≤ 1000) (hpl : ∀ k, k < n → plOk (cs k)) (hrd : RdSl w p n 43 (inF cs j)) (hrd2 : RdSl w p2 n 43 (inF cs j)) :
    Calls Try.prog 13 #[.slice p n c, .slice p2 n c2] w fun e w' => e = .returned (.bool true) ∧ Below w.heap.size w w' := by
  refine fn_intro Try.func13 rfl Try.ntmps13 rfl rfl ?_
  refine g_seq (g_ops ?_)
  refine g_val rfl rfl rfl (y_assign rfl) ?_
  refine g_nil (g_then (g_seq (g_seq (g_ops ?_))))
  refine g_val rfl rfl rfl (y_move rfl) ?_
  refine g_val rfl rfl rfl (y_llen rfl Try.underlying27) ?_
  refine g_val rfl rfl rfl (y_move rfl) ?_
  refine g_val rfl rfl rfl (y_llen rfl Try.underlying27) ?_
  refine g_val rfl rfl rfl (y_lit false (y_ine rfl rfl) (decide_eq_false (fun h => h rfl))) ?_
  refine g_nil (g_then (g_cond_f rfl (g_skip (g_then (g_seq (g_seq (g_ops ?_)))))))
  refine g_val rfl rfl rfl (y_assign rfl) ?_
  refine g_nil (g_then (g_block ?_))
  refine g_loop (α := {x : Int // 0 ≤ x ∧ x ≤ n}) (fun x => [(0, .slice p n c), (1, .slice p2 n c2), (5, .int .i64 x.1)]) (fun x => St w [] []) (fun x => n - x.1.toNat) ⟨0, by omega, by omega⟩ [0, 1, 5] rfl (fun w h => h.sub .slnil) ?_
  rintro ⟨i, hx⟩
  dsimp only
  obtain ⟨hi0, hi1⟩ := hx
  refine g_seq (g_seq (g_ops ?_))
  refine g_val rfl rfl rfl (y_move rfl) ?_
  refine g_val rfl rfl rfl (y_move rfl) ?_
  refine g_val rfl rfl rfl (y_llen rfl Try.underlying27) ?_
  refine g_val rfl rfl rfl (y_ilt rfl rfl) ?_
  refine g_nil (g_then ?_)
  first | refine g_casep 15 rfl (fun h1 => ?_) (fun h1 => ?_) | refine g_caseb 15 rfl (fun h1 => ?_) (fun h1 => ?_)
  · skip
    refine g_cond_t rfl (g_skip (g_then (g_seq (g_block (g_seq ?_)))))
    refine g_quiet (by kernel_rfl) (by kernel_rfl) ?_
    refine q_val rfl rfl rfl (y_move rfl) ?_
    refine q_val rfl rfl rfl (y_move rfl) ?_
    refine q_val rfl rfl rfl (y_rdAddr hrd rfl rfl Try.underlying27 Try.sizeOf47 (by omega) (by omega)) ?_
    refine q_val rfl rfl rfl (y_fieldAt (k := 0) rfl (by kernel_rfl) rfl) ?_
    refine q_val rfl rfl rfl (y_rdPart (i := i) (o := 0) (k := 42) (vs := cmC (cs i.toNat)) hrd rfl rfl Try.isAgg45 Try.sizeOf45 (by omega) (by omega) (by decide) rfl (fun q hq => in_part cs j i.toNat q hq)) ?_
    refine q_val rfl rfl rfl (y_move rfl) ?_
    refine q_val rfl rfl rfl (y_move rfl) ?_
    refine q_val rfl rfl rfl (y_rdAddr hrd2 rfl rfl Try.underlying27 Try.sizeOf47 (by omega) (by omega)) ?_
    refine q_val rfl rfl rfl (y_fieldAt (k := 0) rfl (by kernel_rfl) rfl) ?_
    refine q_val rfl rfl rfl (y_rdPart (i := i) (o := 0) (k := 42) (vs := cmC (cs i.toNat)) hrd2 rfl rfl Try.isAgg45 Try.sizeOf45 (by omega) (by omega) (by decide) rfl (fun q hq => in_part cs j i.toNat q hq)) ?_
    refine q_call1 rfl rfl rfl Try.call23 (fun w hS => cmd_same (cs i.toNat) (hpl i.toNat (by omega)) w) ?_
    refine q_val rfl rfl rfl (y_assign rfl) ?_
    refine q_nil (g_then (g_seq ?_))
    refine g_quiet (by kernel_rfl) (by kernel_rfl) ?_
    refine q_val rfl rfl rfl (y_move rfl) ?_
    refine q_val rfl rfl rfl (y_lit false (y_not rfl) rfl) ?_
    refine q_val rfl rfl rfl (y_move rfl) ?_
    refine q_val rfl rfl rfl (y_move rfl) ?_
    refine q_val rfl rfl rfl (y_move rfl) ?_
    refine q_val rfl rfl rfl (y_rdAddr hrd rfl rfl Try.underlying27 Try.sizeOf47 (by omega) (by omega)) ?_
    refine q_val rfl rfl rfl (y_fieldAt (k := 42) rfl (by kernel_rfl) rfl) ?_
    refine q_val rfl rfl rfl (y_rdField (i := i) (j := 42) hrd rfl rfl Try.isAgg3 (by omega) (by omega) (by decide)) ?_
    refine q_val rfl rfl rfl (y_move rfl) ?_
    refine q_val rfl rfl rfl (y_move rfl) ?_
    refine q_val rfl rfl rfl (y_rdAddr hrd2 rfl rfl Try.underlying27 Try.sizeOf47 (by omega) (by omega)) ?_
    refine q_val rfl rfl rfl (y_fieldAt (k := 42) rfl (by kernel_rfl) rfl) ?_
    refine q_val rfl rfl rfl (y_rdField (i := i) (j := 42) hrd2 rfl rfl Try.isAgg3 (by omega) (by omega) (by decide)) ?_
    refine q_val rfl rfl rfl (y_lit false (y_ine rfl rfl) (decide_eq_false (fun h => h rfl))) ?_
    refine q_val rfl rfl rfl (y_pick_f rfl rfl) ?_
    refine q_nil (g_then (g_cond_f rfl (g_skip (g_in_normal (g_then (g_ops ?_))))))
    refine g_val rfl rfl rfl (y_move rfl) ?_
    refine g_val rfl rfl rfl (by first | exact y_addi rfl rfl (by first | omega | (simp only [size_mk, ByteArray.size_append, ByteArray.size_extract]; omega)) | exact y_iadd rfl rfl) ?_
    refine g_val rfl rfl rfl (y_assign rfl) ?_
    refine g_nil ?_
    exact g_again ⟨i + 1, by omega, by omega⟩ [0, 1, 5] (by dsimp only; omega) rfl (fun w h => h.sub .slnil)
  · skip
    refine g_cond_f rfl (g_exit (g_then_exit (g_then_exit (g_in_exit (g_then (g_seq (g_ops ?_)))))))
    refine g_val rfl rfl rfl (y_assign rfl) ?_
    refine g_nil (g_then (g_ret ?_))
    refine g_end1 Try.results13 rfl ?_
    exact fun w hS => ⟨rfl, (hS.sub (List.nil_sublist _)).below⟩

set_option maxRecDepth 100000 in
theorem all_same (p p2 : Option Addr) (n c c2 : Nat) (cs : Nat → Cm) (w : World) (hn : n ≤ 1000) (hpl : ∀ k, k < n → plOk (cs k)) (hrd : RdSl w p n 42 (cmF cs)) (hrd2 : RdSl w p2 n 42 (cmF cs)) :
    Calls Try.prog 14 #[.slice p n c, .slice p2 n c2] w fun e w' => e = .returned (.bool true) ∧ Below w.heap.size w w' := by
  refine fn_intro Try.func14 rfl Try.ntmps14 rfl rfl ?_
  refine g_seq (g_ops ?_)
  refine g_val rfl rfl rfl (y_assign rfl) ?_
  refine g_nil (g_then (g_seq (g_seq (g_ops ?_))))
  refine g_val rfl rfl rfl (y_move rfl) ?_
  refine g_val rfl rfl rfl (y_llen rfl Try.underlying23) ?_
  refine g_val rfl rfl rfl (y_move rfl) ?_
  refine g_val rfl rfl rfl (y_llen rfl Try.underlying23) ?_
  refine g_val rfl rfl rfl (y_lit false (y_ine rfl rfl) (decide_eq_false (fun h => h rfl))) ?_
  refine g_nil (g_then (g_cond_f rfl (g_skip (g_then (g_seq (g_seq (g_ops ?_)))))))
  refine g_val rfl rfl rfl (y_assign rfl) ?_
  refine g_nil (g_then (g_block ?_))
  refine g_loop (α := {x : Int // 0 ≤ x ∧ x ≤ n}) (fun x => [(0, .slice p n c), (1, .slice p2 n c2), (5, .int .i64 x.1)]) (fun x => St w [] []) (fun x => n - x.1.toNat) ⟨0, by omega, by omega⟩ [0, 1, 5] rfl (fun w h => h.sub .slnil) ?_
  rintro ⟨i, hx⟩
  dsimp only
  obtain ⟨hi0, hi1⟩ := hx
  refine g_seq (g_seq (g_ops ?_))
  refine g_val rfl rfl rfl (y_move rfl) ?_
  refine g_val rfl rfl rfl (y_move rfl) ?_
  refine g_val rfl rfl rfl (y_llen rfl Try.underlying23) ?_
  refine g_val rfl rfl rfl (y_ilt rfl rfl) ?_
  refine g_nil (g_then ?_)
  first | refine g_casep 15 rfl (fun h1 => ?_) (fun h1 => ?_) | refine g_caseb 15 rfl (fun h1 => ?_) (fun h1 => ?_)
  · skip
    refine g_cond_t rfl (g_skip (g_then (g_seq (g_block (g_seq ?_)))))
    refine g_quiet (by kernel_rfl) (by kernel_rfl) ?_
    refine q_val rfl rfl rfl (y_move rfl) ?_
    refine q_val rfl rfl rfl (y_move rfl) ?_
    refine q_val rfl rfl rfl (y_rdAddr hrd rfl rfl Try.underlying23 Try.sizeOf45 (by omega) (by omega)) ?_
    refine q_val rfl rfl rfl (y_rdAgg (i := i) (vs := cmC (cs i.toNat)) hrd rfl Try.isAgg45 Try.sizeOf45 (by omega) (by omega) rfl (fun q hq => cm_get cs i.toNat q hq)) ?_
    refine q_val rfl rfl rfl (y_move rfl) ?_
    refine q_val rfl rfl rfl (y_move rfl) ?_
    refine q_val rfl rfl rfl (y_rdAddr hrd2 rfl rfl Try.underlying23 Try.sizeOf45 (by omega) (by omega)) ?_
    refine q_val rfl rfl rfl (y_rdAgg (i := i) (vs := cmC (cs i.toNat)) hrd2 rfl Try.isAgg45 Try.sizeOf45 (by omega) (by omega) rfl (fun q hq => cm_get cs i.toNat q hq)) ?_
    refine q_call1 rfl rfl rfl Try.call23 (fun w hS => cmd_same (cs i.toNat) (hpl i.toNat (by omega)) w) ?_
    refine q_val rfl rfl rfl (y_assign rfl) ?_
    refine q_nil (g_then (g_seq (g_ops ?_)))
    refine g_val rfl rfl rfl (y_move rfl) ?_
    refine g_val rfl rfl rfl (y_lit false (y_not rfl) rfl) ?_
    refine g_nil (g_then (g_cond_f rfl (g_skip (g_in_normal (g_then (g_ops ?_))))))
    refine g_val rfl rfl rfl (y_move rfl) ?_
    refine g_val rfl rfl rfl (by first | exact y_addi rfl rfl (by first | omega | (simp only [size_mk, ByteArray.size_append, ByteArray.size_extract]; omega)) | exact y_iadd rfl rfl) ?_
    refine g_val rfl rfl rfl (y_assign rfl) ?_
    refine g_nil ?_
    exact g_again ⟨i + 1, by omega, by omega⟩ [0, 1, 5] (by dsimp only; omega) rfl (fun w h => h.sub .slnil)
  · skip
    refine g_cond_f rfl (g_exit (g_then_exit (g_then_exit (g_in_exit (g_then (g_seq (g_ops ?_)))))))
    refine g_val rfl rfl rfl (y_assign rfl) ?_
    refine g_nil (g_then (g_ret ?_))
    refine g_end1 Try.results14 rfl ?_
    exact fun w hS => ⟨rfl, (hS.sub (List.nil_sublist _)).below⟩

end Go.Proofs.Ytpacnggomjepdaa
