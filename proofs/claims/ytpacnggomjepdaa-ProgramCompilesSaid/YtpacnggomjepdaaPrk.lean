/- Laws for the laws' walks; a live question; briefs as arguments. -/
import Derived.Test.YtpacnggomjepdaaPrj
import Derived.Test.YtpacnggomjepdaaU
namespace Go.Proofs.Ytpacnggomjepdaa
open Go Go.RowKit

section
variable {P : Program} {N : Nat} {R : Regs} {S : World → Prop} {Q : Exit → Act → World → Prop} {ops : Array Oper} {rest : List Oper} {W0 : World} {F : List Nat} {L : List Ent} {X : Act → World → Prop}
variable {dst : Option Tmp} {ty t t' e : TypeId} {pos : String} {af : Array Edge} {gd : Option (Nat × Bool)} {x y z : Operand}
/-- A callee that owns nothing ahead, and leaves something new. -/
theorem g_callNew {α : Type} {d : Nat} {f : FuncId} {xs : List Operand} {ats : Array TypeId} {vs : List Value} (r : α → Value) (L1 : α → List Ent)
    (hw : want ops R ⟨some d, .call { callee := .value (.func f), args := xs.toArray, argTypes := ats }, ty, pos, af, gd⟩ = some true) (hN : Nat.blt d N = true)
    (hx : xs.mapM (ev R) = some vs) (hf : ∀ args w, (callFunc f args).run P w = .ok (.enter f args) w)
    (hc : ∀ w, St W0 F L w → Calls P f vs.toArray w (fun e w' => ∃ x, e = .returned (r x) ∧ St w [] (L1 x) w'))
    (h : ∀ x, G N ((d, r x) :: R) (St W0 F (L1 x ++ L)) (wpList P ops Q rest)) : G N R (St W0 F L) (wpList P ops Q (⟨some d, .call { callee := .value (.func f), args := xs.toArray, argTypes := ats }, ty, pos, af, gd⟩ :: rest)) :=
  g_call r (fun x => St W0 F (L1 x ++ L)) hw hN hx hf (fun w hS => (hc w hS).mono fun _ _ ⟨x, he, hb⟩ => ⟨x, he, hS.then hb⟩) h
/-- A block of cells, as a row. -/
theorem g_rowOf {α : Type} (f : α → List Value) {size b n : Nat} {cs : List Value} (l : List α) (i : Nat) (hi : L[i]? = some (.cells b e cs)) (hcs : cs = l.flatMap f) (hf : ∀ a, (f a).length = size) (hn : l.length = n) (hm : n ≤ maxLen)
    (h : G N R (St W0 F (L.set i (.row e size (.slice (some ⟨b, 0, none⟩) n n) n (l.flatMap f)))) X) : G N R (St W0 F L) X :=
  g_turn i hi (fun w h => by
    have h' : w.heap[b]? = some (.cells cs.toArray e (0, 0)) := h
    rw [hcs] at h'
    exact row_of_cells h' (by rw [fm_len f size hf, hn]) hm) (fun k hk => by simpa [Ent.row, Ent.cells, Value.ownBlock] using hk) h
theorem y_cne {re im re' im' : Nat} (hx : ev R x = some (.complex .f64 re im)) (hy : ev R y = some (.complex .f64 re' im')) : Yv P N R S ⟨dst, .binOp .neq t x y t', ty, pos, af, gd⟩ (.bool (!(feq re re' && feq im im'))) := y_bin hx hy fun w => by
  simp [eqGuard, binOp, Op.complexOp, Op.Complex.cmp, Op.floatCmp, FloatKind.format, feq, Sem.run_bind, asBool, Op.unary]
end
def cml (cs : Nat → Cm) (n : Nat) : List Cm := (List.range n).map cs
theorem cml_len (cs : Nat → Cm) (n : Nat) : (cml cs n).length = n := by unfold cml; simp
theorem cml_get (cs : Nat → Cm) (n i : Nat) (h : i < n) : (cml cs n)[i]? = some (cs i) := by
  unfold cml
  rw [List.getElem?_map, List.getElem?_range h]; rfl
theorem rd_cm {w : World} {p : Option Addr} {n c : Nat} {cs : Nat → Cm} (h : w.ownsRow 0 45 42 (.slice p n c) n ((cml cs n).flatMap cmC)) : RdSl w p n 42 (cmF cs) :=
  rd_weak (rd_of_row cmC (cs := cml cs n) cmC_len (cml_len cs n).symm (by rw [cml_len]; exact h)) fun i q hi _ => by
    unfold cmF
    rw [List.getD_eq_getElem?_getD, cml_get cs n i hi]; rfl
/-! ### commands -/
def csB (bs : Nat → Br) (i : Nat) : Cm := brCm (bs i)
def cmdV (x : Option Value) : Value := match x with
  | none => .tuple #[.slice none 0 0, .bool false]
  | some v => .tuple #[v, .bool true]
def cmdL (bs : Nat → Br) (n : Nat) (x : Option Value) : List Ent := match x with
  | none => [.row 45 42 (.slice none 0 0) 0 ((cml (csB bs) 0).flatMap cmC)]
  | some v => [.row 45 42 v n ((cml (csB bs) n).flatMap cmC)]
theorem commands_two (p : Option Addr) (n c : Nat) (bs : Nat → Br) (w : World) (hn : n ≤ 9223372036854775807) (hrd : RdSl w p n 4 (brF bs)) :
    Calls Try.prog 8 #[.slice p n c] w fun e w' => ∃ x : {x : Option Value // x ≠ none → fits bs n}, e = .returned (cmdV x.1) ∧ St w [] (cmdL bs n x.1) w' :=
  (commands_any p n c bs w hn hrd).mono fun e w' h => by
    rcases h with ⟨hf, v, he, hS⟩ | ⟨_, he, hb⟩
    · refine ⟨⟨some v, fun _ => hf⟩, he, ?_⟩
      rw [cmds_len] at hS
      exact hS
    · exact ⟨⟨none, fun h => absurd rfl h⟩, he, (St.of_below hb).nilRow 45 42⟩
/-! ### a live question -/
def csA (i : Nat) : Cm := match i with
  | 0 => ⟨0, 0, 123, ⟨#[]⟩, ⟨#[]⟩⟩
  | 1 => ⟨0, 0, 98, ⟨#[]⟩, ⟨#[]⟩⟩
  | _ => ⟨0, 0, 125, ⟨#[]⟩, ⟨#[]⟩⟩
theorem alive_comp {x : CX} (h : compR csA 3 x) : ∃ J : Nat → Int, x = ⟨insOf csA J 3, 0, 0, 0⟩ ∧ J 0 = 2 ∧ J 1 = 3 := by
  obtain ⟨J, h1, h2⟩ := comp_is (by decide) (show brI csA 3 = some ([], fun k => if k = 0 then ((2 : Nat) : Int) else 0) from rfl) (show labI csA 3 = some (fun _ => none) from rfl) (fun k hk => by
    match k, hk with
    | 0, _ => exact fun h => absurd h.1 (by decide)
    | 1, _ => exact fun h => h.2.1 rfl
    | 2, _ => exact fun h => absurd h.1 (by decide)) h
  refine ⟨J, h1, ?_, ?_⟩
  · rw [h2 0 (by decide)]; rfl
  · rw [h2 1 (by decide)]; rfl

theorem RdSl.stays {w w' : World} {p : Option Addr} {n sz : Nat} {f : Nat → Nat → Value} {L : List Ent} (h : RdSl w p n sz f) (hS : St w [] L w') : RdSl w' p n sz f :=
  ⟨h.addr, fun hn => Nat.lt_of_lt_of_le (h.blk hn) hS.size, fun i j hi hj => rd_cell h hi hj w' hS⟩

set_option maxRecDepth 100000 in
theorem alive_any  (w : World) :
    Calls Try.prog 9 #[] w fun e w' => e = .returned (.bool true) ∧ Below w.heap.size w w' := by
  refine fn_intro Try.func9 rfl Try.ntmps9 rfl rfl ?_
  refine g_seq (g_ops ?_)
  refine g_val rfl rfl rfl (y_assign rfl) ?_
  refine g_nil (g_then (g_seq (g_ops ?_)))
  refine g_val rfl rfl rfl (y_build (offs := [1]) rfl Try.zeroValue45 (by kernel_rfl)) ?_
  refine g_val rfl rfl rfl (y_build (offs := [1]) rfl Try.zeroValue45 (by kernel_rfl)) ?_
  refine g_val rfl rfl rfl (y_build (offs := [1]) rfl Try.zeroValue45 (by kernel_rfl)) ?_
  refine g_buildSlice (offs := [0, 42, 84]) rfl rfl Try.underlying23 rfl Try.zeroValue45 (by kernel_rfl) (fun b1 => ?_)
  refine g_rowOf cmC (cml csA 3) 0 rfl rfl cmC_len rfl (by decide) ?_
  simp only [List.set_cons_zero]
  refine g_val rfl rfl rfl (y_assign rfl) ?_
  refine g_nil (g_then (g_seq (g_ops ?_)))
  refine g_val rfl rfl rfl (y_move rfl) ?_
  refine g_callNew (fun x : {x : CX × Value // compR csA (3) x.1} => compV x.1) (fun x => [.row 47 43 x.1.2 x.1.1.l.length (x.1.1.l.flatMap inC)]) rfl rfl rfl Try.call10 (fun w hS => compile_any _ (3) _ csA w (by omega) ((fun i _ => by unfold csA; split <;> decide)) (rd_cm (hS.get (i := 0) rfl))) ?_
  rintro ⟨⟨cx_rp, v_rp⟩, hcx_rp⟩
  simp only [List.cons_append, List.nil_append]
  obtain ⟨J, rfl, hJ0, hJ1⟩ := alive_comp hcx_rp
  dsimp only
  rw [ins_len]
  refine g_val rfl rfl rfl (y_move rfl) ?_
  refine g_val (v := v_rp) rfl rfl rfl (y_extract rfl rfl) ?_
  refine g_val (v := .complex .f64 0 0) rfl rfl rfl (y_extract rfl rfl) ?_
  refine g_val (v := .int .i64 0) rfl rfl rfl (y_extract rfl rfl) ?_
  refine g_val rfl rfl rfl (y_assign rfl) ?_
  refine g_val rfl rfl rfl (y_assign rfl) ?_
  refine g_val rfl rfl rfl (y_assign rfl) ?_
  refine g_nil (g_then (g_seq (g_ops ?_)))
  refine g_val rfl rfl rfl (y_move rfl) ?_
  refine g_val rfl rfl rfl (y_lit true (y_ieq rfl rfl) (by decide)) ?_
  refine g_val rfl rfl rfl (y_move rfl) ?_
  refine g_val rfl rfl rfl (y_move rfl) ?_
  refine g_rowLen 0 rfl (fun pr1 cr1 hv1 => ?_)
  cases hv1
  refine g_val rfl rfl rfl (y_llen rfl Try.underlying27) ?_
  refine g_val rfl rfl rfl (y_lit true (y_ieq rfl rfl) (by decide)) ?_
  refine g_val rfl rfl rfl (y_pick_t rfl rfl) ?_
  refine g_val rfl rfl rfl (y_move rfl) ?_
  refine g_val rfl rfl rfl (y_move rfl) ?_
  refine g_rowCase 0 rfl (by omega) (fun gr2 cr2 hv2 => ?_)
  cases hv2
  refine g_val rfl rfl rfl (y_idxAddr (m := 0 * 43 + 0) rfl rfl Try.underlying27 Try.sizeOf47 (by omega) (by omega) (by omega)) ?_
  refine g_val rfl rfl rfl (y_fieldAddr (k := 42) (m := 0 * 43 + 42) rfl (by kernel_rfl) rfl) ?_
  refine g_val rfl rfl rfl (y_ldR (u := .int .i64 (J (0))) 0 rfl Try.isAgg3 rfl ((fm_get inC 43 inC_len _ 0 42 _ (ins_get csA J 3 (0) (by omega)) (by decide)).trans rfl)) ?_
  refine g_val rfl rfl rfl (y_lit true (y_ieq rfl rfl) (decide_eq_true hJ0)) ?_
  refine g_val rfl rfl rfl (y_pick_t rfl rfl) ?_
  refine g_val rfl rfl rfl (y_move rfl) ?_
  refine g_val rfl rfl rfl (y_move rfl) ?_
  refine g_val rfl rfl rfl (y_idxAddr (m := 1 * 43 + 0) rfl rfl Try.underlying27 Try.sizeOf47 (by omega) (by omega) (by omega)) ?_
  refine g_val rfl rfl rfl (y_fieldAddr (k := 42) (m := 1 * 43 + 42) rfl (by kernel_rfl) rfl) ?_
  refine g_val rfl rfl rfl (y_ldR (u := .int .i64 (J (1))) 0 rfl Try.isAgg3 rfl ((fm_get inC 43 inC_len _ 1 42 _ (ins_get csA J 3 (1) (by omega)) (by decide)).trans rfl)) ?_
  refine g_val rfl rfl rfl (y_lit true (y_ieq rfl rfl) (decide_eq_true hJ1)) ?_
  refine g_val rfl rfl rfl (y_pick_t rfl rfl) ?_
  refine g_val rfl rfl rfl (y_move rfl) ?_
  refine g_val rfl rfl rfl (y_move rfl) ?_
  refine g_call1 rfl rfl rfl Try.call11 (fun w hS => deep_any _ (3) _ csA w (by omega) (rd_cm (hS.get (i := 1) rfl))) ?_
  refine g_val rfl rfl rfl (y_lit true (y_ieq rfl rfl) (by decide)) ?_
  refine g_val rfl rfl rfl (y_pick_t rfl rfl) ?_
  refine g_val rfl rfl rfl (y_assign rfl) ?_
  refine g_nil (g_then (g_ret ?_))
  refine g_end1 Try.results9 rfl ?_
  exact fun w hS => ⟨rfl, (hS.sub (List.nil_sublist _)).below⟩

end Go.Proofs.Ytpacnggomjepdaa
