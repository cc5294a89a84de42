/- class: Both, Not, Named, single. -/
import Derived.Test.YtpoelkfncpjmfaaPbf
import Derived.Test.YtpoelkfncpjmfaaG
import Derived.Test.YtpoelkfncpjmfaaShelf
namespace Go.Proofs.Ytpoelkfncpjmfaa
open Go Go.RowKit

def notW (a : Int) : Int := IntKind.u64.wrap ((BitVec.ofInt 64 IntKind.u64.max ^^^ BitVec.ofInt 64 a).toNat : Int)
section
variable {P : Program} {N : Nat} {R : Regs} {S : World → Prop} {dst : Option Tmp} {ty t t' : TypeId} {pos : String} {af : Array Edge} {gd : Option (Nat × Bool)} {x y : Operand} {a b : Int}
theorem y_xorU (hx : ev R x = some (.int .u64 a)) : Yv P N R S ⟨dst, .unOp .xor t x, ty, pos, af, gd⟩ (.int .u64 (notW a)) := y_un hx fun w => rfl
theorem g_end_cell3 {fn : Func} {Rr : Ending → World → Prop} {W0 : World} {F : List Nat} {L : List Ent} {t b n u u2 : Nat} {ty t' : TypeId} {cs : List Value} {v v2 : Value} (i : Nat) (hr : fn.results = #[.cell t ty, .tmp u, .tmp u2]) (ht : R.lookup t = some (.pointer (some ⟨b, 0, none⟩))) (hu : R.lookup u = some v) (hu2 : R.lookup u2 = some v2) (hi : L[i]? = some (.cells b t' cs))
    (ha : ∀ w, (isAgg ty).run P w = .ok true w) (hz : ∀ w, (sizeOf ty).run P w = .ok n w) (hn : cs.length = n) (h : ∀ w, St W0 F L w → Rr (.returned (.tuple #[.agg cs.toArray, v, v2])) w) : G N R (St W0 F L) (bodyPost P fn Rr .ret) :=
  g_end (fun a w hR hS => by
    have e := run_row (P := P) (off := 0) (vs := cs) (hS.cells hi) ha hz (by rw [List.drop_zero, List.take_of_length_le (by omega)]) hn
    simp [results, hr, hR.getD ht, hR.getD hu, hR.getD hu2, asAddr, e]) h
end
/-- The library's variable holds a number. -/
def MaxHere (w : World) : Prop := ∃ m, w.cell? ⟨0, 0, none⟩ = some (.int .i64 m)
theorem MaxHere.of_heap {w w' : World} (h : MaxHere w) (e : w'.heap[0]? = w.heap[0]?) : MaxHere w' := by
  obtain ⟨m, hm⟩ := h
  exact ⟨m, by unfold World.cell? at hm ⊢; dsimp only at hm ⊢; rw [e]; exact hm⟩
theorem MaxHere.pos {w : World} (h : MaxHere w) : 0 < w.heap.size := by
  obtain ⟨m, hm⟩ := h
  unfold World.cell? at hm
  dsimp only at hm
  by_cases h0 : 0 < w.heap.size
  · exact h0
  · rw [Array.getElem?_eq_none (by omega)] at hm; cases hm
theorem St.maxHere {W0 w : World} {F : List Nat} {L : List Ent} (h : St W0 F L w) (hz : MaxHere W0) (hF : 0 ∉ F) : MaxHere w := hz.of_heap (h.keep 0 hz.pos hF)
theorem hasPrefix_any (s p : ByteArray) (w : World) : Calls Try.prog 35 #[.string s, .string p] w fun e w' => e = .returned (.bool (Lib.hasPrefix s.data.toList p.data.toList)) ∧ Below w.heap.size w w' :=
  (Try.strings_HasPrefix s p w).mono fun e w' ⟨he, hw⟩ => ⟨he, hw ▸ Below.refl _ _⟩

set_option maxRecDepth 100000 in
theorem both_any (a b : Nat → Int) (w : World) :
    Calls Try.prog 38 #[.agg (s4C a).toArray, .agg (s4C b).toArray] w fun e w' => ∃ s' : Nat → Int, e = .returned (.agg (s4C s').toArray) ∧ Below w.heap.size w w' := by
  refine fn_intro Try.func38 rfl Try.ntmps38 rfl rfl ?_
  refine g_seq (g_ops ?_)
  refine g_box rfl rfl rfl rfl (fun b1 => ?_)
  refine g_box rfl rfl rfl rfl (fun b2 => ?_)
  refine g_alloc rfl rfl Try.zeroValue27 rfl (fun b3 => ?_)
  refine g_nil (g_then (g_seq (g_seq (g_ops ?_))))
  refine g_val rfl rfl rfl (y_move rfl) ?_
  refine g_nil (g_then (g_block ?_))
  refine g_loop (α := {x : (Nat → Int) × Nat // x.2 ≤ 4}) (fun x => [(2, .pointer (some ⟨b1, 0, none⟩)), (3, .pointer (some ⟨b2, 0, none⟩)), (4, .pointer (some ⟨b3, 0, none⟩)), (6, .int .i64 (x.1.2 : Int))]) (fun x => St w [] [.cells b3 27 (s4C s0), .cells b2 27 (s4C b), .cells b1 27 (s4C x.1.1)]) (fun x => 4 - x.1.2) ⟨(a, 0), by dsimp only; omega⟩ [2, 3, 4, 6] rfl (fun w h => h.sub (.cons_cons _ (.cons_cons _ (.cons_cons _ .slnil)))) ?_
  rintro ⟨⟨s, i⟩, hi⟩
  dsimp only
  dsimp only at hi
  refine g_seq (g_ops ?_)
  refine g_val rfl rfl rfl (y_ilt rfl rfl) ?_
  refine g_nil (g_then (g_seq ?_))
  first | refine g_casep 7 rfl (fun h1 => ?_) (fun h1 => ?_) | refine g_caseb 7 rfl (fun h1 => ?_) (fun h1 => ?_)
  · skip
    refine g_cond_t rfl (g_skip (g_then (g_seq (g_block (g_seq (g_ops ?_))))))
    refine g_val rfl rfl rfl (y_move rfl) ?_
    refine g_val rfl rfl rfl (y_assign rfl) ?_
    refine g_nil (g_then ?_)
    refine a_start (by kernel_rfl) ?_
    refine a_take 0 rfl (by kernel_rfl) (by kernel_rfl) (by kernel_rfl) (fun _ _ _ _ _ h => h) rfl rfl rfl (y_move rfl) ?_
    refine a_take 1 rfl (by kernel_rfl) (by kernel_rfl) (by kernel_rfl) (fun _ _ _ _ _ h => h) rfl rfl rfl (y_idxArr (m := i) rfl rfl Try.underlying27 Try.sizeOf25 (by omega) (by omega) (by omega)) ?_
    refine a_take 3 rfl (by kernel_rfl) (by kernel_rfl) (by kernel_rfl) (fun _ _ _ _ _ h => h) rfl rfl rfl (y_move rfl) ?_
    refine a_take 4 rfl (by kernel_rfl) (by kernel_rfl) (by kernel_rfl) (fun _ _ _ _ _ h => h) rfl rfl rfl (y_idxArr (m := i) rfl rfl Try.underlying27 Try.sizeOf25 (by omega) (by omega) (by omega)) ?_
    refine a_do2 2 5 (by kernel_rfl) ?_ ?_
    · skip
      refine a_op 2 rfl ?_
      refine g_val (v := .int .u64 (s i)) rfl rfl rfl (y_ld (off := i) 2 rfl Try.isAgg25 rfl (s4_get _ _ (by omega))) ?_
      refine g_nil ?_
      refine a_do1 5 (by kernel_rfl) ?_
      refine a_op 5 rfl ?_
      refine g_val (v := .int .u64 (b i)) rfl rfl rfl (y_ld (off := i) 1 rfl Try.isAgg25 rfl (s4_get _ _ (by omega))) ?_
      refine g_nil ?_
      refine a_take 6 rfl (by kernel_rfl) (by kernel_rfl) (by kernel_rfl) (fun _ _ _ _ _ h => h) rfl rfl rfl (y_or rfl rfl) ?_
      refine a_take 7 rfl (by kernel_rfl) (by kernel_rfl) (by kernel_rfl) (fun _ _ _ _ _ h => h) rfl rfl rfl (y_idxArr (m := i) rfl rfl Try.underlying27 Try.sizeOf25 (by omega) (by omega) (by omega)) ?_
      refine a_do1 8 (by kernel_rfl) ?_
      refine a_op 8 rfl ?_
      refine g_stV 2 rfl rfl rfl Try.sizeOf25 rfl rfl (show i < 4 by omega) ?_
      simp only [List.set_cons_zero, List.set_cons_succ]
      rw [s4_set _ _ _ (show i < 4 by omega)]
      refine g_nil ?_
      refine a_done (by kernel_rfl) ?_
      refine g_in_normal (g_then (g_ops ?_))
      refine g_val rfl rfl rfl (by first | exact y_addi rfl rfl (by first | omega | (simp only [size_mk, ByteArray.size_append, ByteArray.size_extract]; omega)) | exact y_iadd rfl rfl) ?_
      refine g_val rfl rfl rfl (y_move rfl) ?_
      refine g_nil ?_
      exact g_again ⟨(_, i + 1), by dsimp only; omega⟩ [2, 3, 4, 6] (by dsimp only; omega) rfl (fun w h => h.sub (.cons_cons _ (.cons_cons _ (.cons_cons _ .slnil))))
    · skip
      refine a_op 5 rfl ?_
      refine g_val (v := .int .u64 (b i)) rfl rfl rfl (y_ld (off := i) 1 rfl Try.isAgg25 rfl (s4_get _ _ (by omega))) ?_
      refine g_nil ?_
      refine a_do1 2 (by kernel_rfl) ?_
      refine a_op 2 rfl ?_
      refine g_val (v := .int .u64 (s i)) rfl rfl rfl (y_ld (off := i) 2 rfl Try.isAgg25 rfl (s4_get _ _ (by omega))) ?_
      refine g_nil ?_
      refine a_take 6 rfl (by kernel_rfl) (by kernel_rfl) (by kernel_rfl) (fun _ _ _ _ _ h => h) rfl rfl rfl (y_or rfl rfl) ?_
      refine a_take 7 rfl (by kernel_rfl) (by kernel_rfl) (by kernel_rfl) (fun _ _ _ _ _ h => h) rfl rfl rfl (y_idxArr (m := i) rfl rfl Try.underlying27 Try.sizeOf25 (by omega) (by omega) (by omega)) ?_
      refine a_do1 8 (by kernel_rfl) ?_
      refine a_op 8 rfl ?_
      refine g_stV 2 rfl rfl rfl Try.sizeOf25 rfl rfl (show i < 4 by omega) ?_
      simp only [List.set_cons_zero, List.set_cons_succ]
      rw [s4_set _ _ _ (show i < 4 by omega)]
      refine g_nil ?_
      refine a_done (by kernel_rfl) ?_
      refine g_in_normal (g_then (g_ops ?_))
      refine g_val rfl rfl rfl (by first | exact y_addi rfl rfl (by first | omega | (simp only [size_mk, ByteArray.size_append, ByteArray.size_extract]; omega)) | exact y_iadd rfl rfl) ?_
      refine g_val rfl rfl rfl (y_move rfl) ?_
      refine g_nil ?_
      exact g_again ⟨(_, i + 1), by dsimp only; omega⟩ [2, 3, 4, 6] (by dsimp only; omega) rfl (fun w h => h.sub (.cons_cons _ (.cons_cons _ (.cons_cons _ .slnil))))
  · skip
    refine g_cond_f rfl (g_exit (g_then_exit (g_then_exit (g_in_exit (g_then (g_seq (g_ops ?_)))))))
    refine g_val rfl rfl rfl (y_ldN (vs := (s4C s)) 2 rfl Try.isAgg27 Try.sizeOf27 rfl rfl rfl) ?_
    refine g_stN 0 rfl rfl rfl (by kernel_rfl) rfl rfl rfl rfl ?_
    simp only [List.set_cons_zero]
    refine g_nil (g_then (g_ret ?_))
    refine g_end_cell 0 Try.results38 rfl rfl Try.isAgg27 Try.sizeOf27 rfl ?_
    exact fun w hS => ⟨_, rfl, (hS.sub (List.nil_sublist _)).below⟩

set_option maxRecDepth 100000 in
theorem not_any (a : Nat → Int) (w : World) :
    Calls Try.prog 40 #[.agg (s4C a).toArray] w fun e w' => ∃ s' : Nat → Int, e = .returned (.agg (s4C s').toArray) ∧ Below w.heap.size w w' := by
  refine fn_intro Try.func40 rfl Try.ntmps40 rfl rfl ?_
  refine g_seq (g_ops ?_)
  refine g_box rfl rfl rfl rfl (fun b1 => ?_)
  refine g_alloc rfl rfl Try.zeroValue27 rfl (fun b2 => ?_)
  refine g_nil (g_then (g_seq (g_seq (g_ops ?_))))
  refine g_val rfl rfl rfl (y_move rfl) ?_
  refine g_nil (g_then (g_block ?_))
  refine g_loop (α := {x : (Nat → Int) × Nat // x.2 ≤ 4}) (fun x => [(1, .pointer (some ⟨b1, 0, none⟩)), (2, .pointer (some ⟨b2, 0, none⟩)), (4, .int .i64 (x.1.2 : Int))]) (fun x => St w [] [.cells b2 27 (s4C s0), .cells b1 27 (s4C x.1.1)]) (fun x => 4 - x.1.2) ⟨(a, 0), by dsimp only; omega⟩ [1, 2, 4] rfl (fun w h => h.sub (.cons_cons _ (.cons_cons _ .slnil))) ?_
  rintro ⟨⟨s, i⟩, hi⟩
  dsimp only
  dsimp only at hi
  refine g_seq (g_ops ?_)
  refine g_val rfl rfl rfl (y_ilt rfl rfl) ?_
  refine g_nil (g_then (g_seq ?_))
  first | refine g_casep 5 rfl (fun h1 => ?_) (fun h1 => ?_) | refine g_caseb 5 rfl (fun h1 => ?_) (fun h1 => ?_)
  · skip
    refine g_cond_t rfl (g_skip (g_then (g_seq (g_block (g_seq (g_ops ?_))))))
    refine g_val rfl rfl rfl (y_move rfl) ?_
    refine g_val rfl rfl rfl (y_assign rfl) ?_
    refine g_nil (g_then (g_ops ?_))
    refine g_val rfl rfl rfl (y_move rfl) ?_
    refine g_val rfl rfl rfl (y_move rfl) ?_
    refine g_val rfl rfl rfl (y_idxArr (m := i) rfl rfl Try.underlying27 Try.sizeOf25 (by omega) (by omega) (by omega)) ?_
    refine g_val (v := .int .u64 (s i)) rfl rfl rfl (y_ld (off := i) 1 rfl Try.isAgg25 rfl (s4_get _ _ (by omega))) ?_
    refine g_val rfl rfl rfl (y_xorU rfl) ?_
    refine g_val rfl rfl rfl (y_idxArr (m := i) rfl rfl Try.underlying27 Try.sizeOf25 (by omega) (by omega) (by omega)) ?_
    refine g_stV 1 rfl rfl rfl Try.sizeOf25 rfl rfl (show i < 4 by omega) ?_
    simp only [List.set_cons_zero, List.set_cons_succ]
    rw [s4_set _ _ _ (show i < 4 by omega)]
    refine g_nil (g_in_normal (g_then (g_ops ?_)))
    refine g_val rfl rfl rfl (by first | exact y_addi rfl rfl (by first | omega | (simp only [size_mk, ByteArray.size_append, ByteArray.size_extract]; omega)) | exact y_iadd rfl rfl) ?_
    refine g_val rfl rfl rfl (y_move rfl) ?_
    refine g_nil ?_
    exact g_again ⟨(_, i + 1), by dsimp only; omega⟩ [1, 2, 4] (by dsimp only; omega) rfl (fun w h => h.sub (.cons_cons _ (.cons_cons _ .slnil)))
  · skip
    refine g_cond_f rfl (g_exit (g_then_exit (g_then_exit (g_in_exit (g_then (g_seq (g_ops ?_)))))))
    refine g_val rfl rfl rfl (y_ldN (vs := (s4C s)) 1 rfl Try.isAgg27 Try.sizeOf27 rfl rfl rfl) ?_
    refine g_stN 0 rfl rfl rfl (by kernel_rfl) rfl rfl rfl rfl ?_
    simp only [List.set_cons_zero]
    refine g_nil (g_then (g_ret ?_))
    refine g_end_cell 0 Try.results40 rfl rfl Try.isAgg27 Try.sizeOf27 rfl ?_
    exact fun w hS => ⟨_, rfl, (hS.sub (List.nil_sublist _)).below⟩

/-- A call with a result of which little is told, and that leaves what is owned alone. -/
theorem g_callE {P : Program} {N : Nat} {R : Regs} {Q : Exit → Act → World → Prop} {ops : Array Oper} {rest : List Oper} {W0 : World} {F : List Nat} {L : List Ent} {ty : TypeId} {pos : String} {af : Array Edge} {gd : Option (Nat × Bool)} {α : Type} {d : Nat} {f : FuncId} {xs : List Operand} {ats : Array TypeId} {vs : List Value} (r : α → Value)
    (hw : want ops R ⟨some d, .call { callee := .value (.func f), args := xs.toArray, argTypes := ats }, ty, pos, af, gd⟩ = some true) (hN : Nat.blt d N = true)
    (hx : xs.mapM (ev R) = some vs) (hf : ∀ args w, (callFunc f args).run P w = .ok (.enter f args) w) (hc : ∀ w, St W0 F L w → Calls P f vs.toArray w (fun e w' => ∃ x, e = .returned (r x) ∧ Below w.heap.size w w'))
    (h : ∀ x, G N ((d, r x) :: R) (St W0 F L) (wpList P ops Q rest)) : G N R (St W0 F L) (wpList P ops Q (⟨some d, .call { callee := .value (.func f), args := xs.toArray, argTypes := ats }, ty, pos, af, gd⟩ :: rest)) :=
  g_call r (fun _ => St W0 F L) hw hN hx hf (fun w hS => (hc w hS).mono fun _ _ ⟨x, he, hb⟩ => ⟨x, he, by simpa using hS.then (St.of_below hb)⟩) h

set_option maxRecDepth 100000 in
theorem single_any (l : List UInt8) (f : Bool) (w : World) :
    Calls Try.prog 39 #[st8 l, .bool f] w fun e w' => ∃ x : {b : Bool // b = true → l ≠ []}, e = .returned (.bool x.1) ∧ Below w.heap.size w w' := by
  refine fn_intro Try.func39 rfl Try.ntmps39 rfl rfl ?_
  refine g_seq ?_
  rcases l with _ | ⟨c, l⟩
  · skip
    refine g_ops ?_
    refine g_val rfl rfl rfl (y_assign rfl) ?_
    refine g_nil (g_then (g_seq (g_seq (g_ops ?_))))
    refine g_val rfl rfl rfl (y_move rfl) ?_
    refine g_val rfl rfl rfl (y_lit true (y_seq rfl rfl) (decide_eq_true rfl)) ?_
    refine g_val rfl rfl rfl (y_move rfl) ?_
    refine g_not rfl rfl rfl ?_
    refine g_not rfl rfl rfl ?_
    refine g_not rfl rfl rfl ?_
    refine g_val rfl rfl rfl (y_pick_t rfl rfl) ?_
    refine g_val rfl rfl rfl (y_move rfl) ?_
    refine g_not rfl rfl rfl ?_
    refine g_not rfl rfl rfl ?_
    refine g_not rfl rfl rfl ?_
    refine g_not rfl rfl rfl ?_
    refine g_not rfl rfl rfl ?_
    refine g_not rfl rfl rfl ?_
    refine g_not rfl rfl rfl ?_
    refine g_val rfl rfl rfl (y_pick_t rfl rfl) ?_
    refine g_nil (g_then (g_cond_t rfl (g_seq (g_ops ?_))))
    refine g_val rfl rfl rfl (y_assign rfl) ?_
    refine g_nil (g_then (g_ret (g_then_ret ?_)))
    refine g_end1 Try.results39 rfl ?_
    exact fun w hS => ⟨⟨_, fun h => by cases h⟩, rfl, (hS.sub (List.nil_sublist _)).below⟩
  · skip
    refine g_ops ?_
    refine g_val rfl rfl rfl (y_assign rfl) ?_
    refine g_nil (g_then (g_seq (g_seq (g_ops ?_))))
    refine g_val rfl rfl rfl (y_move rfl) ?_
    refine g_val rfl rfl rfl (y_lit false (y_seq rfl rfl) (decide_eq_false (st8_nil c l))) ?_
    refine g_val rfl rfl rfl (y_move rfl) ?_
    refine g_val rfl rfl rfl (y_move rfl) ?_
    refine g_val rfl rfl rfl (y_sidx (i := 0) rfl rfl Try.underlying9 (st8_0 c l)) ?_
    refine g_val rfl rfl rfl (y_ieq rfl rfl) ?_
    refine g_val rfl rfl rfl (y_pick_f rfl rfl) ?_
    refine g_val rfl rfl rfl (y_move rfl) ?_
    first | refine g_casep 12 rfl (fun h1 => ?_) (fun h1 => ?_) | refine g_caseb 12 rfl (fun h1 => ?_) (fun h1 => ?_)
    · skip
      refine g_not rfl rfl rfl ?_
      refine g_not rfl rfl rfl ?_
      refine g_not rfl rfl rfl ?_
      refine g_not rfl rfl rfl ?_
      refine g_not rfl rfl rfl ?_
      refine g_not rfl rfl rfl ?_
      refine g_not rfl rfl rfl ?_
      refine g_val rfl rfl rfl (y_pick_t rfl rfl) ?_
      refine g_nil (g_then (g_cond_t rfl (g_seq (g_ops ?_))))
      refine g_val rfl rfl rfl (y_assign rfl) ?_
      refine g_nil (g_then (g_ret (g_then_ret ?_)))
      refine g_end1 Try.results39 rfl ?_
      exact fun w hS => ⟨⟨_, fun _ => by simp⟩, rfl, (hS.sub (List.nil_sublist _)).below⟩
    · skip
      refine g_val rfl rfl rfl (y_move rfl) ?_
      refine g_val rfl rfl rfl (y_sidx (i := 0) rfl rfl Try.underlying9 (st8_0 c l)) ?_
      refine g_val rfl rfl rfl (y_ieq rfl rfl) ?_
      refine g_val rfl rfl rfl (y_move rfl) ?_
      first | refine g_casep 16 rfl (fun h2 => ?_) (fun h2 => ?_) | refine g_caseb 16 rfl (fun h2 => ?_) (fun h2 => ?_)
      · skip
        refine g_val rfl rfl rfl (y_move rfl) ?_
        refine g_val rfl rfl rfl ((by first | exact y_notp rfl | exact y_not rfl)) ?_
        refine g_val rfl rfl rfl (y_pick_t rfl rfl) ?_
        refine g_val rfl rfl rfl (y_pick_f rfl rfl) ?_
        refine g_nil (g_then ?_)
        first | refine g_casep 20 rfl (fun h3 => ?_) (fun h3 => ?_) | refine g_caseb 20 rfl (fun h3 => ?_) (fun h3 => ?_)
        · skip
          refine g_cond_t rfl (g_seq (g_ops ?_))
          refine g_val rfl rfl rfl (y_assign rfl) ?_
          refine g_nil (g_then (g_ret (g_then_ret ?_)))
          refine g_end1 Try.results39 rfl ?_
          exact fun w hS => ⟨⟨_, fun _ => by simp⟩, rfl, (hS.sub (List.nil_sublist _)).below⟩
        · skip
          refine g_cond_f rfl (g_skip (g_then (g_seq (g_ops ?_))))
          refine g_val rfl rfl rfl (y_move rfl) ?_
          refine g_call1 rfl rfl rfl Try.call35 (fun w hS => hasPrefix_any _ _ w) ?_
          refine g_val rfl rfl rfl ((by first | exact y_notp rfl | exact y_not rfl)) ?_
          refine g_val rfl rfl rfl (y_move rfl) ?_
          first | refine g_casep 24 rfl (fun h4 => ?_) (fun h4 => ?_) | refine g_caseb 24 rfl (fun h4 => ?_) (fun h4 => ?_)
          · skip
            refine g_val rfl rfl rfl (y_move rfl) ?_
            refine g_call1 rfl rfl rfl Try.call35 (fun w hS => hasPrefix_any _ _ w) ?_
            refine g_val rfl rfl rfl ((by first | exact y_notp rfl | exact y_not rfl)) ?_
            refine g_val rfl rfl rfl (y_pick_t rfl rfl) ?_
            refine g_val rfl rfl rfl (y_move rfl) ?_
            first | refine g_casep 29 rfl (fun h5 => ?_) (fun h5 => ?_) | refine g_caseb 29 rfl (fun h5 => ?_) (fun h5 => ?_)
            · skip
              refine g_val rfl rfl rfl (y_move rfl) ?_
              refine g_call1 rfl rfl rfl Try.call35 (fun w hS => hasPrefix_any _ _ w) ?_
              refine g_val rfl rfl rfl ((by first | exact y_notp rfl | exact y_not rfl)) ?_
              refine g_val rfl rfl rfl (y_pick_t rfl rfl) ?_
              refine g_val rfl rfl rfl (y_assign rfl) ?_
              refine g_nil (g_then (g_ret ?_))
              refine g_end1 Try.results39 rfl ?_
              exact fun w hS => ⟨⟨_, fun _ => by simp⟩, rfl, (hS.sub (List.nil_sublist _)).below⟩
            · skip
              refine g_not rfl rfl rfl ?_
              refine g_not rfl rfl rfl ?_
              refine g_not rfl rfl rfl ?_
              refine g_val rfl rfl rfl (y_pick_f rfl rfl) ?_
              refine g_val rfl rfl rfl (y_assign rfl) ?_
              refine g_nil (g_then (g_ret ?_))
              refine g_end1 Try.results39 rfl ?_
              exact fun w hS => ⟨⟨_, fun _ => by simp⟩, rfl, (hS.sub (List.nil_sublist _)).below⟩
          · skip
            refine g_not rfl rfl rfl ?_
            refine g_not rfl rfl rfl ?_
            refine g_not rfl rfl rfl ?_
            refine g_val rfl rfl rfl (y_pick_f rfl rfl) ?_
            refine g_val rfl rfl rfl (y_move rfl) ?_
            refine g_not rfl rfl rfl ?_
            refine g_not rfl rfl rfl ?_
            refine g_not rfl rfl rfl ?_
            refine g_val rfl rfl rfl (y_pick_f rfl rfl) ?_
            refine g_val rfl rfl rfl (y_assign rfl) ?_
            refine g_nil (g_then (g_ret ?_))
            refine g_end1 Try.results39 rfl ?_
            exact fun w hS => ⟨⟨_, fun _ => by simp⟩, rfl, (hS.sub (List.nil_sublist _)).below⟩
      · skip
        refine g_not rfl rfl rfl ?_
        refine g_not rfl rfl rfl ?_
        refine g_val rfl rfl rfl (y_pick_f rfl rfl) ?_
        refine g_val rfl rfl rfl (y_pick_f rfl rfl) ?_
        refine g_nil (g_then (g_cond_f rfl (g_skip (g_then (g_seq (g_ops ?_))))))
        refine g_val rfl rfl rfl (y_move rfl) ?_
        refine g_call1 rfl rfl rfl Try.call35 (fun w hS => hasPrefix_any _ _ w) ?_
        refine g_val rfl rfl rfl ((by first | exact y_notp rfl | exact y_not rfl)) ?_
        refine g_val rfl rfl rfl (y_move rfl) ?_
        first | refine g_casep 24 rfl (fun h6 => ?_) (fun h6 => ?_) | refine g_caseb 24 rfl (fun h6 => ?_) (fun h6 => ?_)
        · skip
          refine g_val rfl rfl rfl (y_move rfl) ?_
          refine g_call1 rfl rfl rfl Try.call35 (fun w hS => hasPrefix_any _ _ w) ?_
          refine g_val rfl rfl rfl ((by first | exact y_notp rfl | exact y_not rfl)) ?_
          refine g_val rfl rfl rfl (y_pick_t rfl rfl) ?_
          refine g_val rfl rfl rfl (y_move rfl) ?_
          first | refine g_casep 29 rfl (fun h7 => ?_) (fun h7 => ?_) | refine g_caseb 29 rfl (fun h7 => ?_) (fun h7 => ?_)
          · skip
            refine g_val rfl rfl rfl (y_move rfl) ?_
            refine g_call1 rfl rfl rfl Try.call35 (fun w hS => hasPrefix_any _ _ w) ?_
            refine g_val rfl rfl rfl ((by first | exact y_notp rfl | exact y_not rfl)) ?_
            refine g_val rfl rfl rfl (y_pick_t rfl rfl) ?_
            refine g_val rfl rfl rfl (y_assign rfl) ?_
            refine g_nil (g_then (g_ret ?_))
            refine g_end1 Try.results39 rfl ?_
            exact fun w hS => ⟨⟨_, fun _ => by simp⟩, rfl, (hS.sub (List.nil_sublist _)).below⟩
          · skip
            refine g_not rfl rfl rfl ?_
            refine g_not rfl rfl rfl ?_
            refine g_not rfl rfl rfl ?_
            refine g_val rfl rfl rfl (y_pick_f rfl rfl) ?_
            refine g_val rfl rfl rfl (y_assign rfl) ?_
            refine g_nil (g_then (g_ret ?_))
            refine g_end1 Try.results39 rfl ?_
            exact fun w hS => ⟨⟨_, fun _ => by simp⟩, rfl, (hS.sub (List.nil_sublist _)).below⟩
        · skip
          refine g_not rfl rfl rfl ?_
          refine g_not rfl rfl rfl ?_
          refine g_not rfl rfl rfl ?_
          refine g_val rfl rfl rfl (y_pick_f rfl rfl) ?_
          refine g_val rfl rfl rfl (y_move rfl) ?_
          refine g_not rfl rfl rfl ?_
          refine g_not rfl rfl rfl ?_
          refine g_not rfl rfl rfl ?_
          refine g_val rfl rfl rfl (y_pick_f rfl rfl) ?_
          refine g_val rfl rfl rfl (y_assign rfl) ?_
          refine g_nil (g_then (g_ret ?_))
          refine g_end1 Try.results39 rfl ?_
          exact fun w hS => ⟨⟨_, fun _ => by simp⟩, rfl, (hS.sub (List.nil_sublist _)).below⟩

set_option maxHeartbeats 1000000 in
set_option maxRecDepth 100000 in
theorem named_any (s : ByteArray) (w : World) :
    Calls Try.prog 37 #[.string s] w fun e w' => ∃ x : (Nat → Int) × Bool, e = .returned (.tuple #[.agg (s4C x.1).toArray, .bool x.2]) ∧ Below w.heap.size w w' := by
  refine fn_intro Try.func37 rfl Try.ntmps37 rfl rfl ?_
  refine g_seq (g_ops ?_)
  refine g_alloc rfl rfl Try.zeroValue27 rfl (fun b1 => ?_)
  refine g_val rfl rfl rfl (y_assign rfl) ?_
  refine g_nil (g_then (g_seq (g_ops ?_)))
  refine g_alloc rfl rfl Try.zeroValue27 rfl (fun b2 => ?_)
  refine g_nil (g_then (g_seq ?_))
  refine g_join (α := Nat × Nat × Nat) (fun x => [(0, .string s), (2, .pointer (some ⟨b1, 0, none⟩)), (3, .bool false), (4, .pointer (some ⟨b2, 0, none⟩)), (5, .pointer (some ⟨x.1, 0, none⟩)), (6, .pointer (some ⟨x.2.1, 0, none⟩)), (7, .pointer (some ⟨x.2.2, 0, none⟩))]) (fun x => [.cells x.1 27 (s4C (withS s0 65 (90 + 1 - 65))), .cells x.2.1 27 (s4C (withS s0 97 (122 + 1 - 97))), .cells x.2.2 27 (s4C (withS s0 48 (57 + 1 - 48))), .cells b2 27 (s4C s0), .cells b1 27 (s4C s0)]) ?_ ?_
  · skip
    rintro ⟨p5, p6, p7⟩
    try dsimp only
    refine g_then (g_seq ?_)
    refine g_join (α := (Nat → Int) × Nat) (fun x => [(0, .string s), (2, .pointer (some ⟨b1, 0, none⟩)), (3, .bool false), (4, .pointer (some ⟨b2, 0, none⟩)), (5, .pointer (some ⟨p5, 0, none⟩)), (6, .pointer (some ⟨p6, 0, none⟩)), (7, .pointer (some ⟨p7, 0, none⟩)), (8, .pointer (some ⟨x.2, 0, none⟩))]) (fun x => [.cells x.2 27 (s4C x.1), .cells p5 27 (s4C (withS s0 65 (90 + 1 - 65))), .cells p6 27 (s4C (withS s0 97 (122 + 1 - 97))), .cells p7 27 (s4C (withS s0 48 (57 + 1 - 48))), .cells b2 27 (s4C s0), .cells b1 27 (s4C s0)]) ?_ ?_
    · skip
      rintro ⟨s8, p8⟩
      try dsimp only
      refine g_then (g_seq (g_seq (g_ops ?_)))
      refine g_val rfl rfl rfl (y_move rfl) ?_
      refine g_nil (g_then (g_block (g_seq (g_ops ?_))))
      refine g_val rfl rfl rfl (y_seq rfl rfl) ?_
      refine g_val rfl rfl rfl (y_assign rfl) ?_
      refine g_nil (g_then ?_)
      first | refine g_casep 21 rfl (fun h1 => ?_) (fun h1 => ?_) | refine g_caseb 21 rfl (fun h1 => ?_) (fun h1 => ?_)
      · skip
        refine g_cond_t rfl (g_ops ?_)
        refine g_val rfl rfl rfl (y_ldN (vs := (s4C (withS s0 65 (90 + 1 - 65)))) 1 rfl Try.isAgg27 Try.sizeOf27 rfl rfl rfl) ?_
        refine g_val rfl rfl rfl (y_ldN (vs := (s4C (withS s0 97 (122 + 1 - 97)))) 2 rfl Try.isAgg27 Try.sizeOf27 rfl rfl rfl) ?_
        refine g_callE (fun s' : Nat → Int => .agg (s4C s').toArray) rfl rfl rfl Try.call38 (fun w hS => both_any (withS s0 65 (90 + 1 - 65)) (withS s0 97 (122 + 1 - 97)) w) (fun u2 => ?_)
        refine g_stN 4 rfl rfl rfl (by kernel_rfl) rfl rfl rfl rfl ?_
        simp only [List.set_cons_zero, List.set_cons_succ]
        refine g_nil (g_in_normal (g_then (g_seq ?_)))
        refine a_start (by kernel_rfl) ?_
        refine a_take (v := .agg (s4C s0).toArray) 2 rfl (by kernel_rfl) (by kernel_rfl) (by kernel_rfl) (fun _ _ _ _ _ h => h) rfl rfl rfl (y_build (offs := []) rfl Try.zeroValue27 (by kernel_rfl)) ?_
        refine a_do2 0 1 (by kernel_rfl) ?_ ?_
        · skip
          refine a_op 0 rfl ?_
          refine g_val rfl rfl rfl (y_ldN (vs := (s4C u2)) 4 rfl Try.isAgg27 Try.sizeOf27 rfl rfl rfl) ?_
          refine g_nil ?_
          refine a_do2 1 4 (by kernel_rfl) ?_ ?_
          · skip
            refine a_op 1 rfl ?_
            refine g_val rfl rfl rfl (y_ldN (vs := (s4C u2)) 4 rfl Try.isAgg27 Try.sizeOf27 rfl rfl rfl) ?_
            refine g_nil ?_
            refine a_take 3 rfl (by kernel_rfl) (by kernel_rfl) (by kernel_rfl) (fun _ _ _ _ _ h => h) rfl rfl rfl (y_setNe u2 s0 rfl rfl) ?_
            refine a_do1 4 (by kernel_rfl) ?_
            refine a_op 4 rfl ?_
            refine g_stN 5 rfl rfl rfl (by kernel_rfl) rfl rfl rfl rfl ?_
            simp only [List.set_cons_zero, List.set_cons_succ]
            refine g_nil ?_
            refine a_take 5 rfl (by kernel_rfl) (by kernel_rfl) (by kernel_rfl) (fun _ _ _ _ _ h => h) rfl rfl rfl (y_assign rfl) ?_
            refine a_done (by kernel_rfl) ?_
            refine g_then (g_ret ?_)
            refine g_end_cell2 5 Try.results37 rfl rfl rfl Try.isAgg27 Try.sizeOf27 rfl ?_
            exact fun w hS => ⟨(u2, _), rfl, (hS.sub (List.nil_sublist _)).below⟩
          · skip
            refine a_op 4 rfl ?_
            refine g_stN 5 rfl rfl rfl (by kernel_rfl) rfl rfl rfl rfl ?_
            simp only [List.set_cons_zero, List.set_cons_succ]
            refine g_nil ?_
            refine a_do1 1 (by kernel_rfl) ?_
            refine a_op 1 rfl ?_
            refine g_val rfl rfl rfl (y_ldN (vs := (s4C u2)) 4 rfl Try.isAgg27 Try.sizeOf27 rfl rfl rfl) ?_
            refine g_nil ?_
            refine a_take 3 rfl (by kernel_rfl) (by kernel_rfl) (by kernel_rfl) (fun _ _ _ _ _ h => h) rfl rfl rfl (y_setNe u2 s0 rfl rfl) ?_
            refine a_take 5 rfl (by kernel_rfl) (by kernel_rfl) (by kernel_rfl) (fun _ _ _ _ _ h => h) rfl rfl rfl (y_assign rfl) ?_
            refine a_done (by kernel_rfl) ?_
            refine g_then (g_ret ?_)
            refine g_end_cell2 5 Try.results37 rfl rfl rfl Try.isAgg27 Try.sizeOf27 rfl ?_
            exact fun w hS => ⟨(u2, _), rfl, (hS.sub (List.nil_sublist _)).below⟩
        · skip
          refine a_op 1 rfl ?_
          refine g_val rfl rfl rfl (y_ldN (vs := (s4C u2)) 4 rfl Try.isAgg27 Try.sizeOf27 rfl rfl rfl) ?_
          refine g_nil ?_
          refine a_take 3 rfl (by kernel_rfl) (by kernel_rfl) (by kernel_rfl) (fun _ _ _ _ _ h => h) rfl rfl rfl (y_setNe u2 s0 rfl rfl) ?_
          refine a_do1 0 (by kernel_rfl) ?_
          refine a_op 0 rfl ?_
          refine g_val rfl rfl rfl (y_ldN (vs := (s4C u2)) 4 rfl Try.isAgg27 Try.sizeOf27 rfl rfl rfl) ?_
          refine g_nil ?_
          refine a_do1 4 (by kernel_rfl) ?_
          refine a_op 4 rfl ?_
          refine g_stN 5 rfl rfl rfl (by kernel_rfl) rfl rfl rfl rfl ?_
          simp only [List.set_cons_zero, List.set_cons_succ]
          refine g_nil ?_
          refine a_take 5 rfl (by kernel_rfl) (by kernel_rfl) (by kernel_rfl) (fun _ _ _ _ _ h => h) rfl rfl rfl (y_assign rfl) ?_
          refine a_done (by kernel_rfl) ?_
          refine g_then (g_ret ?_)
          refine g_end_cell2 5 Try.results37 rfl rfl rfl Try.isAgg27 Try.sizeOf27 rfl ?_
          exact fun w hS => ⟨(u2, _), rfl, (hS.sub (List.nil_sublist _)).below⟩
      · skip
        refine g_cond_f rfl (g_seq (g_ops ?_))
        refine g_val rfl rfl rfl (y_seq rfl rfl) ?_
        refine g_val rfl rfl rfl (y_assign rfl) ?_
        refine g_nil (g_then ?_)
        first | refine g_casep 26 rfl (fun h3 => ?_) (fun h3 => ?_) | refine g_caseb 26 rfl (fun h3 => ?_) (fun h3 => ?_)
        · skip
          refine g_cond_t rfl (g_ops ?_)
          refine g_val rfl rfl rfl (y_ldN (vs := (s4C (withS s0 48 (57 + 1 - 48)))) 3 rfl Try.isAgg27 Try.sizeOf27 rfl rfl rfl) ?_
          refine g_stN 4 rfl rfl rfl (by kernel_rfl) rfl rfl rfl rfl ?_
          simp only [List.set_cons_zero, List.set_cons_succ]
          refine g_nil (g_in_normal (g_then (g_seq ?_)))
          refine a_start (by kernel_rfl) ?_
          refine a_take (v := .agg (s4C s0).toArray) 2 rfl (by kernel_rfl) (by kernel_rfl) (by kernel_rfl) (fun _ _ _ _ _ h => h) rfl rfl rfl (y_build (offs := []) rfl Try.zeroValue27 (by kernel_rfl)) ?_
          refine a_do2 0 1 (by kernel_rfl) ?_ ?_
          · skip
            refine a_op 0 rfl ?_
            refine g_val rfl rfl rfl (y_ldN (vs := (s4C (withS s0 48 (57 + 1 - 48)))) 4 rfl Try.isAgg27 Try.sizeOf27 rfl rfl rfl) ?_
            refine g_nil ?_
            refine a_do2 1 4 (by kernel_rfl) ?_ ?_
            · skip
              refine a_op 1 rfl ?_
              refine g_val rfl rfl rfl (y_ldN (vs := (s4C (withS s0 48 (57 + 1 - 48)))) 4 rfl Try.isAgg27 Try.sizeOf27 rfl rfl rfl) ?_
              refine g_nil ?_
              refine a_take 3 rfl (by kernel_rfl) (by kernel_rfl) (by kernel_rfl) (fun _ _ _ _ _ h => h) rfl rfl rfl (y_setNe (withS s0 48 (57 + 1 - 48)) s0 rfl rfl) ?_
              refine a_do1 4 (by kernel_rfl) ?_
              refine a_op 4 rfl ?_
              refine g_stN 5 rfl rfl rfl (by kernel_rfl) rfl rfl rfl rfl ?_
              simp only [List.set_cons_zero, List.set_cons_succ]
              refine g_nil ?_
              refine a_take 5 rfl (by kernel_rfl) (by kernel_rfl) (by kernel_rfl) (fun _ _ _ _ _ h => h) rfl rfl rfl (y_assign rfl) ?_
              refine a_done (by kernel_rfl) ?_
              refine g_then (g_ret ?_)
              refine g_end_cell2 5 Try.results37 rfl rfl rfl Try.isAgg27 Try.sizeOf27 rfl ?_
              exact fun w hS => ⟨((withS s0 48 (57 + 1 - 48)), _), rfl, (hS.sub (List.nil_sublist _)).below⟩
            · skip
              refine a_op 4 rfl ?_
              refine g_stN 5 rfl rfl rfl (by kernel_rfl) rfl rfl rfl rfl ?_
              simp only [List.set_cons_zero, List.set_cons_succ]
              refine g_nil ?_
              refine a_do1 1 (by kernel_rfl) ?_
              refine a_op 1 rfl ?_
              refine g_val rfl rfl rfl (y_ldN (vs := (s4C (withS s0 48 (57 + 1 - 48)))) 4 rfl Try.isAgg27 Try.sizeOf27 rfl rfl rfl) ?_
              refine g_nil ?_
              refine a_take 3 rfl (by kernel_rfl) (by kernel_rfl) (by kernel_rfl) (fun _ _ _ _ _ h => h) rfl rfl rfl (y_setNe (withS s0 48 (57 + 1 - 48)) s0 rfl rfl) ?_
              refine a_take 5 rfl (by kernel_rfl) (by kernel_rfl) (by kernel_rfl) (fun _ _ _ _ _ h => h) rfl rfl rfl (y_assign rfl) ?_
              refine a_done (by kernel_rfl) ?_
              refine g_then (g_ret ?_)
              refine g_end_cell2 5 Try.results37 rfl rfl rfl Try.isAgg27 Try.sizeOf27 rfl ?_
              exact fun w hS => ⟨((withS s0 48 (57 + 1 - 48)), _), rfl, (hS.sub (List.nil_sublist _)).below⟩
          · skip
            refine a_op 1 rfl ?_
            refine g_val rfl rfl rfl (y_ldN (vs := (s4C (withS s0 48 (57 + 1 - 48)))) 4 rfl Try.isAgg27 Try.sizeOf27 rfl rfl rfl) ?_
            refine g_nil ?_
            refine a_take 3 rfl (by kernel_rfl) (by kernel_rfl) (by kernel_rfl) (fun _ _ _ _ _ h => h) rfl rfl rfl (y_setNe (withS s0 48 (57 + 1 - 48)) s0 rfl rfl) ?_
            refine a_do1 0 (by kernel_rfl) ?_
            refine a_op 0 rfl ?_
            refine g_val rfl rfl rfl (y_ldN (vs := (s4C (withS s0 48 (57 + 1 - 48)))) 4 rfl Try.isAgg27 Try.sizeOf27 rfl rfl rfl) ?_
            refine g_nil ?_
            refine a_do1 4 (by kernel_rfl) ?_
            refine a_op 4 rfl ?_
            refine g_stN 5 rfl rfl rfl (by kernel_rfl) rfl rfl rfl rfl ?_
            simp only [List.set_cons_zero, List.set_cons_succ]
            refine g_nil ?_
            refine a_take 5 rfl (by kernel_rfl) (by kernel_rfl) (by kernel_rfl) (fun _ _ _ _ _ h => h) rfl rfl rfl (y_assign rfl) ?_
            refine a_done (by kernel_rfl) ?_
            refine g_then (g_ret ?_)
            refine g_end_cell2 5 Try.results37 rfl rfl rfl Try.isAgg27 Try.sizeOf27 rfl ?_
            exact fun w hS => ⟨((withS s0 48 (57 + 1 - 48)), _), rfl, (hS.sub (List.nil_sublist _)).below⟩
        · skip
          refine g_cond_f rfl (g_seq (g_ops ?_))
          refine g_val rfl rfl rfl (y_seq rfl rfl) ?_
          refine g_val rfl rfl rfl (y_assign rfl) ?_
          refine g_nil (g_then ?_)
          first | refine g_casep 29 rfl (fun h4 => ?_) (fun h4 => ?_) | refine g_caseb 29 rfl (fun h4 => ?_) (fun h4 => ?_)
          · skip
            refine g_cond_t rfl (g_ops ?_)
            refine g_val rfl rfl rfl (y_ldN (vs := (s4C s8)) 0 rfl Try.isAgg27 Try.sizeOf27 rfl rfl rfl) ?_
            refine g_stN 4 rfl rfl rfl (by kernel_rfl) rfl rfl rfl rfl ?_
            simp only [List.set_cons_zero, List.set_cons_succ]
            refine g_nil (g_in_normal (g_then (g_seq ?_)))
            refine a_start (by kernel_rfl) ?_
            refine a_take (v := .agg (s4C s0).toArray) 2 rfl (by kernel_rfl) (by kernel_rfl) (by kernel_rfl) (fun _ _ _ _ _ h => h) rfl rfl rfl (y_build (offs := []) rfl Try.zeroValue27 (by kernel_rfl)) ?_
            refine a_do2 0 1 (by kernel_rfl) ?_ ?_
            · skip
              refine a_op 0 rfl ?_
              refine g_val rfl rfl rfl (y_ldN (vs := (s4C s8)) 4 rfl Try.isAgg27 Try.sizeOf27 rfl rfl rfl) ?_
              refine g_nil ?_
              refine a_do2 1 4 (by kernel_rfl) ?_ ?_
              · skip
                refine a_op 1 rfl ?_
                refine g_val rfl rfl rfl (y_ldN (vs := (s4C s8)) 4 rfl Try.isAgg27 Try.sizeOf27 rfl rfl rfl) ?_
                refine g_nil ?_
                refine a_take 3 rfl (by kernel_rfl) (by kernel_rfl) (by kernel_rfl) (fun _ _ _ _ _ h => h) rfl rfl rfl (y_setNe s8 s0 rfl rfl) ?_
                refine a_do1 4 (by kernel_rfl) ?_
                refine a_op 4 rfl ?_
                refine g_stN 5 rfl rfl rfl (by kernel_rfl) rfl rfl rfl rfl ?_
                simp only [List.set_cons_zero, List.set_cons_succ]
                refine g_nil ?_
                refine a_take 5 rfl (by kernel_rfl) (by kernel_rfl) (by kernel_rfl) (fun _ _ _ _ _ h => h) rfl rfl rfl (y_assign rfl) ?_
                refine a_done (by kernel_rfl) ?_
                refine g_then (g_ret ?_)
                refine g_end_cell2 5 Try.results37 rfl rfl rfl Try.isAgg27 Try.sizeOf27 rfl ?_
                exact fun w hS => ⟨(s8, _), rfl, (hS.sub (List.nil_sublist _)).below⟩
              · skip
                refine a_op 4 rfl ?_
                refine g_stN 5 rfl rfl rfl (by kernel_rfl) rfl rfl rfl rfl ?_
                simp only [List.set_cons_zero, List.set_cons_succ]
                refine g_nil ?_
                refine a_do1 1 (by kernel_rfl) ?_
                refine a_op 1 rfl ?_
                refine g_val rfl rfl rfl (y_ldN (vs := (s4C s8)) 4 rfl Try.isAgg27 Try.sizeOf27 rfl rfl rfl) ?_
                refine g_nil ?_
                refine a_take 3 rfl (by kernel_rfl) (by kernel_rfl) (by kernel_rfl) (fun _ _ _ _ _ h => h) rfl rfl rfl (y_setNe s8 s0 rfl rfl) ?_
                refine a_take 5 rfl (by kernel_rfl) (by kernel_rfl) (by kernel_rfl) (fun _ _ _ _ _ h => h) rfl rfl rfl (y_assign rfl) ?_
                refine a_done (by kernel_rfl) ?_
                refine g_then (g_ret ?_)
                refine g_end_cell2 5 Try.results37 rfl rfl rfl Try.isAgg27 Try.sizeOf27 rfl ?_
                exact fun w hS => ⟨(s8, _), rfl, (hS.sub (List.nil_sublist _)).below⟩
            · skip
              refine a_op 1 rfl ?_
              refine g_val rfl rfl rfl (y_ldN (vs := (s4C s8)) 4 rfl Try.isAgg27 Try.sizeOf27 rfl rfl rfl) ?_
              refine g_nil ?_
              refine a_take 3 rfl (by kernel_rfl) (by kernel_rfl) (by kernel_rfl) (fun _ _ _ _ _ h => h) rfl rfl rfl (y_setNe s8 s0 rfl rfl) ?_
              refine a_do1 0 (by kernel_rfl) ?_
              refine a_op 0 rfl ?_
              refine g_val rfl rfl rfl (y_ldN (vs := (s4C s8)) 4 rfl Try.isAgg27 Try.sizeOf27 rfl rfl rfl) ?_
              refine g_nil ?_
              refine a_do1 4 (by kernel_rfl) ?_
              refine a_op 4 rfl ?_
              refine g_stN 5 rfl rfl rfl (by kernel_rfl) rfl rfl rfl rfl ?_
              simp only [List.set_cons_zero, List.set_cons_succ]
              refine g_nil ?_
              refine a_take 5 rfl (by kernel_rfl) (by kernel_rfl) (by kernel_rfl) (fun _ _ _ _ _ h => h) rfl rfl rfl (y_assign rfl) ?_
              refine a_done (by kernel_rfl) ?_
              refine g_then (g_ret ?_)
              refine g_end_cell2 5 Try.results37 rfl rfl rfl Try.isAgg27 Try.sizeOf27 rfl ?_
              exact fun w hS => ⟨(s8, _), rfl, (hS.sub (List.nil_sublist _)).below⟩
          · skip
            refine g_cond_f rfl (g_seq (g_ops ?_))
            refine g_val rfl rfl rfl (y_seq rfl rfl) ?_
            refine g_val rfl rfl rfl (y_assign rfl) ?_
            refine g_nil (g_then ?_)
            first | refine g_casep 32 rfl (fun h5 => ?_) (fun h5 => ?_) | refine g_caseb 32 rfl (fun h5 => ?_) (fun h5 => ?_)
            · skip
              refine g_cond_t rfl (g_ops ?_)
              refine g_val rfl rfl rfl (y_ldN (vs := (s4C (withS s0 65 (90 + 1 - 65)))) 1 rfl Try.isAgg27 Try.sizeOf27 rfl rfl rfl) ?_
              refine g_stN 4 rfl rfl rfl (by kernel_rfl) rfl rfl rfl rfl ?_
              simp only [List.set_cons_zero, List.set_cons_succ]
              refine g_nil (g_in_normal (g_then (g_seq ?_)))
              refine a_start (by kernel_rfl) ?_
              refine a_take (v := .agg (s4C s0).toArray) 2 rfl (by kernel_rfl) (by kernel_rfl) (by kernel_rfl) (fun _ _ _ _ _ h => h) rfl rfl rfl (y_build (offs := []) rfl Try.zeroValue27 (by kernel_rfl)) ?_
              refine a_do2 0 1 (by kernel_rfl) ?_ ?_
              · skip
                refine a_op 0 rfl ?_
                refine g_val rfl rfl rfl (y_ldN (vs := (s4C (withS s0 65 (90 + 1 - 65)))) 4 rfl Try.isAgg27 Try.sizeOf27 rfl rfl rfl) ?_
                refine g_nil ?_
                refine a_do2 1 4 (by kernel_rfl) ?_ ?_
                · skip
                  refine a_op 1 rfl ?_
                  refine g_val rfl rfl rfl (y_ldN (vs := (s4C (withS s0 65 (90 + 1 - 65)))) 4 rfl Try.isAgg27 Try.sizeOf27 rfl rfl rfl) ?_
                  refine g_nil ?_
                  refine a_take 3 rfl (by kernel_rfl) (by kernel_rfl) (by kernel_rfl) (fun _ _ _ _ _ h => h) rfl rfl rfl (y_setNe (withS s0 65 (90 + 1 - 65)) s0 rfl rfl) ?_
                  refine a_do1 4 (by kernel_rfl) ?_
                  refine a_op 4 rfl ?_
                  refine g_stN 5 rfl rfl rfl (by kernel_rfl) rfl rfl rfl rfl ?_
                  simp only [List.set_cons_zero, List.set_cons_succ]
                  refine g_nil ?_
                  refine a_take 5 rfl (by kernel_rfl) (by kernel_rfl) (by kernel_rfl) (fun _ _ _ _ _ h => h) rfl rfl rfl (y_assign rfl) ?_
                  refine a_done (by kernel_rfl) ?_
                  refine g_then (g_ret ?_)
                  refine g_end_cell2 5 Try.results37 rfl rfl rfl Try.isAgg27 Try.sizeOf27 rfl ?_
                  exact fun w hS => ⟨((withS s0 65 (90 + 1 - 65)), _), rfl, (hS.sub (List.nil_sublist _)).below⟩
                · skip
                  refine a_op 4 rfl ?_
                  refine g_stN 5 rfl rfl rfl (by kernel_rfl) rfl rfl rfl rfl ?_
                  simp only [List.set_cons_zero, List.set_cons_succ]
                  refine g_nil ?_
                  refine a_do1 1 (by kernel_rfl) ?_
                  refine a_op 1 rfl ?_
                  refine g_val rfl rfl rfl (y_ldN (vs := (s4C (withS s0 65 (90 + 1 - 65)))) 4 rfl Try.isAgg27 Try.sizeOf27 rfl rfl rfl) ?_
                  refine g_nil ?_
                  refine a_take 3 rfl (by kernel_rfl) (by kernel_rfl) (by kernel_rfl) (fun _ _ _ _ _ h => h) rfl rfl rfl (y_setNe (withS s0 65 (90 + 1 - 65)) s0 rfl rfl) ?_
                  refine a_take 5 rfl (by kernel_rfl) (by kernel_rfl) (by kernel_rfl) (fun _ _ _ _ _ h => h) rfl rfl rfl (y_assign rfl) ?_
                  refine a_done (by kernel_rfl) ?_
                  refine g_then (g_ret ?_)
                  refine g_end_cell2 5 Try.results37 rfl rfl rfl Try.isAgg27 Try.sizeOf27 rfl ?_
                  exact fun w hS => ⟨((withS s0 65 (90 + 1 - 65)), _), rfl, (hS.sub (List.nil_sublist _)).below⟩
              · skip
                refine a_op 1 rfl ?_
                refine g_val rfl rfl rfl (y_ldN (vs := (s4C (withS s0 65 (90 + 1 - 65)))) 4 rfl Try.isAgg27 Try.sizeOf27 rfl rfl rfl) ?_
                refine g_nil ?_
                refine a_take 3 rfl (by kernel_rfl) (by kernel_rfl) (by kernel_rfl) (fun _ _ _ _ _ h => h) rfl rfl rfl (y_setNe (withS s0 65 (90 + 1 - 65)) s0 rfl rfl) ?_
                refine a_do1 0 (by kernel_rfl) ?_
                refine a_op 0 rfl ?_
                refine g_val rfl rfl rfl (y_ldN (vs := (s4C (withS s0 65 (90 + 1 - 65)))) 4 rfl Try.isAgg27 Try.sizeOf27 rfl rfl rfl) ?_
                refine g_nil ?_
                refine a_do1 4 (by kernel_rfl) ?_
                refine a_op 4 rfl ?_
                refine g_stN 5 rfl rfl rfl (by kernel_rfl) rfl rfl rfl rfl ?_
                simp only [List.set_cons_zero, List.set_cons_succ]
                refine g_nil ?_
                refine a_take 5 rfl (by kernel_rfl) (by kernel_rfl) (by kernel_rfl) (fun _ _ _ _ _ h => h) rfl rfl rfl (y_assign rfl) ?_
                refine a_done (by kernel_rfl) ?_
                refine g_then (g_ret ?_)
                refine g_end_cell2 5 Try.results37 rfl rfl rfl Try.isAgg27 Try.sizeOf27 rfl ?_
                exact fun w hS => ⟨((withS s0 65 (90 + 1 - 65)), _), rfl, (hS.sub (List.nil_sublist _)).below⟩
            · skip
              refine g_cond_f rfl (g_seq (g_ops ?_))
              refine g_val rfl rfl rfl (y_seq rfl rfl) ?_
              refine g_val rfl rfl rfl (y_assign rfl) ?_
              refine g_nil (g_then ?_)
              first | refine g_casep 35 rfl (fun h6 => ?_) (fun h6 => ?_) | refine g_caseb 35 rfl (fun h6 => ?_) (fun h6 => ?_)
              · skip
                refine g_cond_t rfl (g_ops ?_)
                refine g_val rfl rfl rfl (y_ldN (vs := (s4C (withS s0 97 (122 + 1 - 97)))) 2 rfl Try.isAgg27 Try.sizeOf27 rfl rfl rfl) ?_
                refine g_stN 4 rfl rfl rfl (by kernel_rfl) rfl rfl rfl rfl ?_
                simp only [List.set_cons_zero, List.set_cons_succ]
                refine g_nil (g_in_normal (g_then (g_seq ?_)))
                refine a_start (by kernel_rfl) ?_
                refine a_take (v := .agg (s4C s0).toArray) 2 rfl (by kernel_rfl) (by kernel_rfl) (by kernel_rfl) (fun _ _ _ _ _ h => h) rfl rfl rfl (y_build (offs := []) rfl Try.zeroValue27 (by kernel_rfl)) ?_
                refine a_do2 0 1 (by kernel_rfl) ?_ ?_
                · skip
                  refine a_op 0 rfl ?_
                  refine g_val rfl rfl rfl (y_ldN (vs := (s4C (withS s0 97 (122 + 1 - 97)))) 4 rfl Try.isAgg27 Try.sizeOf27 rfl rfl rfl) ?_
                  refine g_nil ?_
                  refine a_do2 1 4 (by kernel_rfl) ?_ ?_
                  · skip
                    refine a_op 1 rfl ?_
                    refine g_val rfl rfl rfl (y_ldN (vs := (s4C (withS s0 97 (122 + 1 - 97)))) 4 rfl Try.isAgg27 Try.sizeOf27 rfl rfl rfl) ?_
                    refine g_nil ?_
                    refine a_take 3 rfl (by kernel_rfl) (by kernel_rfl) (by kernel_rfl) (fun _ _ _ _ _ h => h) rfl rfl rfl (y_setNe (withS s0 97 (122 + 1 - 97)) s0 rfl rfl) ?_
                    refine a_do1 4 (by kernel_rfl) ?_
                    refine a_op 4 rfl ?_
                    refine g_stN 5 rfl rfl rfl (by kernel_rfl) rfl rfl rfl rfl ?_
                    simp only [List.set_cons_zero, List.set_cons_succ]
                    refine g_nil ?_
                    refine a_take 5 rfl (by kernel_rfl) (by kernel_rfl) (by kernel_rfl) (fun _ _ _ _ _ h => h) rfl rfl rfl (y_assign rfl) ?_
                    refine a_done (by kernel_rfl) ?_
                    refine g_then (g_ret ?_)
                    refine g_end_cell2 5 Try.results37 rfl rfl rfl Try.isAgg27 Try.sizeOf27 rfl ?_
                    exact fun w hS => ⟨((withS s0 97 (122 + 1 - 97)), _), rfl, (hS.sub (List.nil_sublist _)).below⟩
                  · skip
                    refine a_op 4 rfl ?_
                    refine g_stN 5 rfl rfl rfl (by kernel_rfl) rfl rfl rfl rfl ?_
                    simp only [List.set_cons_zero, List.set_cons_succ]
                    refine g_nil ?_
                    refine a_do1 1 (by kernel_rfl) ?_
                    refine a_op 1 rfl ?_
                    refine g_val rfl rfl rfl (y_ldN (vs := (s4C (withS s0 97 (122 + 1 - 97)))) 4 rfl Try.isAgg27 Try.sizeOf27 rfl rfl rfl) ?_
                    refine g_nil ?_
                    refine a_take 3 rfl (by kernel_rfl) (by kernel_rfl) (by kernel_rfl) (fun _ _ _ _ _ h => h) rfl rfl rfl (y_setNe (withS s0 97 (122 + 1 - 97)) s0 rfl rfl) ?_
                    refine a_take 5 rfl (by kernel_rfl) (by kernel_rfl) (by kernel_rfl) (fun _ _ _ _ _ h => h) rfl rfl rfl (y_assign rfl) ?_
                    refine a_done (by kernel_rfl) ?_
                    refine g_then (g_ret ?_)
                    refine g_end_cell2 5 Try.results37 rfl rfl rfl Try.isAgg27 Try.sizeOf27 rfl ?_
                    exact fun w hS => ⟨((withS s0 97 (122 + 1 - 97)), _), rfl, (hS.sub (List.nil_sublist _)).below⟩
                · skip
                  refine a_op 1 rfl ?_
                  refine g_val rfl rfl rfl (y_ldN (vs := (s4C (withS s0 97 (122 + 1 - 97)))) 4 rfl Try.isAgg27 Try.sizeOf27 rfl rfl rfl) ?_
                  refine g_nil ?_
                  refine a_take 3 rfl (by kernel_rfl) (by kernel_rfl) (by kernel_rfl) (fun _ _ _ _ _ h => h) rfl rfl rfl (y_setNe (withS s0 97 (122 + 1 - 97)) s0 rfl rfl) ?_
                  refine a_do1 0 (by kernel_rfl) ?_
                  refine a_op 0 rfl ?_
                  refine g_val rfl rfl rfl (y_ldN (vs := (s4C (withS s0 97 (122 + 1 - 97)))) 4 rfl Try.isAgg27 Try.sizeOf27 rfl rfl rfl) ?_
                  refine g_nil ?_
                  refine a_do1 4 (by kernel_rfl) ?_
                  refine a_op 4 rfl ?_
                  refine g_stN 5 rfl rfl rfl (by kernel_rfl) rfl rfl rfl rfl ?_
                  simp only [List.set_cons_zero, List.set_cons_succ]
                  refine g_nil ?_
                  refine a_take 5 rfl (by kernel_rfl) (by kernel_rfl) (by kernel_rfl) (fun _ _ _ _ _ h => h) rfl rfl rfl (y_assign rfl) ?_
                  refine a_done (by kernel_rfl) ?_
                  refine g_then (g_ret ?_)
                  refine g_end_cell2 5 Try.results37 rfl rfl rfl Try.isAgg27 Try.sizeOf27 rfl ?_
                  exact fun w hS => ⟨((withS s0 97 (122 + 1 - 97)), _), rfl, (hS.sub (List.nil_sublist _)).below⟩
              · skip
                refine g_cond_f rfl (g_seq (g_ops ?_))
                refine g_val rfl rfl rfl (y_seq rfl rfl) ?_
                refine g_val rfl rfl rfl (y_assign rfl) ?_
                refine g_nil (g_then ?_)
                first | refine g_casep 38 rfl (fun h7 => ?_) (fun h7 => ?_) | refine g_caseb 38 rfl (fun h7 => ?_) (fun h7 => ?_)
                · skip
                  refine g_cond_t rfl (g_ops ?_)
                  refine g_val rfl rfl rfl (y_ldN (vs := (s4C s0)) 4 rfl Try.isAgg27 Try.sizeOf27 rfl rfl rfl) ?_
                  refine g_call1 rfl rfl rfl Try.call24 (fun w hS => cwith_any s0 9 13 (by decide) (by decide) w) ?_
                  refine g_call1 rfl rfl rfl Try.call24 (fun w hS => cwith_any (withS s0 9 (13 + 1 - 9)) 32 32 (by decide) (by decide) w) ?_
                  refine g_stN 4 rfl rfl rfl (by kernel_rfl) rfl rfl rfl rfl ?_
                  simp only [List.set_cons_zero, List.set_cons_succ]
                  refine g_nil (g_in_normal (g_then (g_seq ?_)))
                  refine a_start (by kernel_rfl) ?_
                  refine a_take (v := .agg (s4C s0).toArray) 2 rfl (by kernel_rfl) (by kernel_rfl) (by kernel_rfl) (fun _ _ _ _ _ h => h) rfl rfl rfl (y_build (offs := []) rfl Try.zeroValue27 (by kernel_rfl)) ?_
                  refine a_do2 0 1 (by kernel_rfl) ?_ ?_
                  · skip
                    refine a_op 0 rfl ?_
                    refine g_val rfl rfl rfl (y_ldN (vs := (s4C (withS (withS s0 9 (13 + 1 - 9)) 32 (32 + 1 - 32)))) 4 rfl Try.isAgg27 Try.sizeOf27 rfl rfl rfl) ?_
                    refine g_nil ?_
                    refine a_do2 1 4 (by kernel_rfl) ?_ ?_
                    · skip
                      refine a_op 1 rfl ?_
                      refine g_val rfl rfl rfl (y_ldN (vs := (s4C (withS (withS s0 9 (13 + 1 - 9)) 32 (32 + 1 - 32)))) 4 rfl Try.isAgg27 Try.sizeOf27 rfl rfl rfl) ?_
                      refine g_nil ?_
                      refine a_take 3 rfl (by kernel_rfl) (by kernel_rfl) (by kernel_rfl) (fun _ _ _ _ _ h => h) rfl rfl rfl (y_setNe (withS (withS s0 9 (13 + 1 - 9)) 32 (32 + 1 - 32)) s0 rfl rfl) ?_
                      refine a_do1 4 (by kernel_rfl) ?_
                      refine a_op 4 rfl ?_
                      refine g_stN 5 rfl rfl rfl (by kernel_rfl) rfl rfl rfl rfl ?_
                      simp only [List.set_cons_zero, List.set_cons_succ]
                      refine g_nil ?_
                      refine a_take 5 rfl (by kernel_rfl) (by kernel_rfl) (by kernel_rfl) (fun _ _ _ _ _ h => h) rfl rfl rfl (y_assign rfl) ?_
                      refine a_done (by kernel_rfl) ?_
                      refine g_then (g_ret ?_)
                      refine g_end_cell2 5 Try.results37 rfl rfl rfl Try.isAgg27 Try.sizeOf27 rfl ?_
                      exact fun w hS => ⟨((withS (withS s0 9 (13 + 1 - 9)) 32 (32 + 1 - 32)), _), rfl, (hS.sub (List.nil_sublist _)).below⟩
                    · skip
                      refine a_op 4 rfl ?_
                      refine g_stN 5 rfl rfl rfl (by kernel_rfl) rfl rfl rfl rfl ?_
                      simp only [List.set_cons_zero, List.set_cons_succ]
                      refine g_nil ?_
                      refine a_do1 1 (by kernel_rfl) ?_
                      refine a_op 1 rfl ?_
                      refine g_val rfl rfl rfl (y_ldN (vs := (s4C (withS (withS s0 9 (13 + 1 - 9)) 32 (32 + 1 - 32)))) 4 rfl Try.isAgg27 Try.sizeOf27 rfl rfl rfl) ?_
                      refine g_nil ?_
                      refine a_take 3 rfl (by kernel_rfl) (by kernel_rfl) (by kernel_rfl) (fun _ _ _ _ _ h => h) rfl rfl rfl (y_setNe (withS (withS s0 9 (13 + 1 - 9)) 32 (32 + 1 - 32)) s0 rfl rfl) ?_
                      refine a_take 5 rfl (by kernel_rfl) (by kernel_rfl) (by kernel_rfl) (fun _ _ _ _ _ h => h) rfl rfl rfl (y_assign rfl) ?_
                      refine a_done (by kernel_rfl) ?_
                      refine g_then (g_ret ?_)
                      refine g_end_cell2 5 Try.results37 rfl rfl rfl Try.isAgg27 Try.sizeOf27 rfl ?_
                      exact fun w hS => ⟨((withS (withS s0 9 (13 + 1 - 9)) 32 (32 + 1 - 32)), _), rfl, (hS.sub (List.nil_sublist _)).below⟩
                  · skip
                    refine a_op 1 rfl ?_
                    refine g_val rfl rfl rfl (y_ldN (vs := (s4C (withS (withS s0 9 (13 + 1 - 9)) 32 (32 + 1 - 32)))) 4 rfl Try.isAgg27 Try.sizeOf27 rfl rfl rfl) ?_
                    refine g_nil ?_
                    refine a_take 3 rfl (by kernel_rfl) (by kernel_rfl) (by kernel_rfl) (fun _ _ _ _ _ h => h) rfl rfl rfl (y_setNe (withS (withS s0 9 (13 + 1 - 9)) 32 (32 + 1 - 32)) s0 rfl rfl) ?_
                    refine a_do1 0 (by kernel_rfl) ?_
                    refine a_op 0 rfl ?_
                    refine g_val rfl rfl rfl (y_ldN (vs := (s4C (withS (withS s0 9 (13 + 1 - 9)) 32 (32 + 1 - 32)))) 4 rfl Try.isAgg27 Try.sizeOf27 rfl rfl rfl) ?_
                    refine g_nil ?_
                    refine a_do1 4 (by kernel_rfl) ?_
                    refine a_op 4 rfl ?_
                    refine g_stN 5 rfl rfl rfl (by kernel_rfl) rfl rfl rfl rfl ?_
                    simp only [List.set_cons_zero, List.set_cons_succ]
                    refine g_nil ?_
                    refine a_take 5 rfl (by kernel_rfl) (by kernel_rfl) (by kernel_rfl) (fun _ _ _ _ _ h => h) rfl rfl rfl (y_assign rfl) ?_
                    refine a_done (by kernel_rfl) ?_
                    refine g_then (g_ret ?_)
                    refine g_end_cell2 5 Try.results37 rfl rfl rfl Try.isAgg27 Try.sizeOf27 rfl ?_
                    exact fun w hS => ⟨((withS (withS s0 9 (13 + 1 - 9)) 32 (32 + 1 - 32)), _), rfl, (hS.sub (List.nil_sublist _)).below⟩
                · skip
                  refine g_cond_f rfl (g_seq (g_ops ?_))
                  refine g_val rfl rfl rfl (y_seq rfl rfl) ?_
                  refine g_val rfl rfl rfl (y_assign rfl) ?_
                  refine g_nil (g_then ?_)
                  first | refine g_casep 43 rfl (fun h8 => ?_) (fun h8 => ?_) | refine g_caseb 43 rfl (fun h8 => ?_) (fun h8 => ?_)
                  · skip
                    refine g_cond_t rfl (g_ops ?_)
                    refine g_val rfl rfl rfl (y_ldN (vs := (s4C s0)) 4 rfl Try.isAgg27 Try.sizeOf27 rfl rfl rfl) ?_
                    refine g_call1 rfl rfl rfl Try.call24 (fun w hS => cwith_any s0 9 9 (by decide) (by decide) w) ?_
                    refine g_call1 rfl rfl rfl Try.call24 (fun w hS => cwith_any (withS s0 9 (9 + 1 - 9)) 32 32 (by decide) (by decide) w) ?_
                    refine g_stN 4 rfl rfl rfl (by kernel_rfl) rfl rfl rfl rfl ?_
                    simp only [List.set_cons_zero, List.set_cons_succ]
                    refine g_nil (g_in_normal (g_then (g_seq ?_)))
                    refine a_start (by kernel_rfl) ?_
                    refine a_take (v := .agg (s4C s0).toArray) 2 rfl (by kernel_rfl) (by kernel_rfl) (by kernel_rfl) (fun _ _ _ _ _ h => h) rfl rfl rfl (y_build (offs := []) rfl Try.zeroValue27 (by kernel_rfl)) ?_
                    refine a_do2 0 1 (by kernel_rfl) ?_ ?_
                    · skip
                      refine a_op 0 rfl ?_
                      refine g_val rfl rfl rfl (y_ldN (vs := (s4C (withS (withS s0 9 (9 + 1 - 9)) 32 (32 + 1 - 32)))) 4 rfl Try.isAgg27 Try.sizeOf27 rfl rfl rfl) ?_
                      refine g_nil ?_
                      refine a_do2 1 4 (by kernel_rfl) ?_ ?_
                      · skip
                        refine a_op 1 rfl ?_
                        refine g_val rfl rfl rfl (y_ldN (vs := (s4C (withS (withS s0 9 (9 + 1 - 9)) 32 (32 + 1 - 32)))) 4 rfl Try.isAgg27 Try.sizeOf27 rfl rfl rfl) ?_
                        refine g_nil ?_
                        refine a_take 3 rfl (by kernel_rfl) (by kernel_rfl) (by kernel_rfl) (fun _ _ _ _ _ h => h) rfl rfl rfl (y_setNe (withS (withS s0 9 (9 + 1 - 9)) 32 (32 + 1 - 32)) s0 rfl rfl) ?_
                        refine a_do1 4 (by kernel_rfl) ?_
                        refine a_op 4 rfl ?_
                        refine g_stN 5 rfl rfl rfl (by kernel_rfl) rfl rfl rfl rfl ?_
                        simp only [List.set_cons_zero, List.set_cons_succ]
                        refine g_nil ?_
                        refine a_take 5 rfl (by kernel_rfl) (by kernel_rfl) (by kernel_rfl) (fun _ _ _ _ _ h => h) rfl rfl rfl (y_assign rfl) ?_
                        refine a_done (by kernel_rfl) ?_
                        refine g_then (g_ret ?_)
                        refine g_end_cell2 5 Try.results37 rfl rfl rfl Try.isAgg27 Try.sizeOf27 rfl ?_
                        exact fun w hS => ⟨((withS (withS s0 9 (9 + 1 - 9)) 32 (32 + 1 - 32)), _), rfl, (hS.sub (List.nil_sublist _)).below⟩
                      · skip
                        refine a_op 4 rfl ?_
                        refine g_stN 5 rfl rfl rfl (by kernel_rfl) rfl rfl rfl rfl ?_
                        simp only [List.set_cons_zero, List.set_cons_succ]
                        refine g_nil ?_
                        refine a_do1 1 (by kernel_rfl) ?_
                        refine a_op 1 rfl ?_
                        refine g_val rfl rfl rfl (y_ldN (vs := (s4C (withS (withS s0 9 (9 + 1 - 9)) 32 (32 + 1 - 32)))) 4 rfl Try.isAgg27 Try.sizeOf27 rfl rfl rfl) ?_
                        refine g_nil ?_
                        refine a_take 3 rfl (by kernel_rfl) (by kernel_rfl) (by kernel_rfl) (fun _ _ _ _ _ h => h) rfl rfl rfl (y_setNe (withS (withS s0 9 (9 + 1 - 9)) 32 (32 + 1 - 32)) s0 rfl rfl) ?_
                        refine a_take 5 rfl (by kernel_rfl) (by kernel_rfl) (by kernel_rfl) (fun _ _ _ _ _ h => h) rfl rfl rfl (y_assign rfl) ?_
                        refine a_done (by kernel_rfl) ?_
                        refine g_then (g_ret ?_)
                        refine g_end_cell2 5 Try.results37 rfl rfl rfl Try.isAgg27 Try.sizeOf27 rfl ?_
                        exact fun w hS => ⟨((withS (withS s0 9 (9 + 1 - 9)) 32 (32 + 1 - 32)), _), rfl, (hS.sub (List.nil_sublist _)).below⟩
                    · skip
                      refine a_op 1 rfl ?_
                      refine g_val rfl rfl rfl (y_ldN (vs := (s4C (withS (withS s0 9 (9 + 1 - 9)) 32 (32 + 1 - 32)))) 4 rfl Try.isAgg27 Try.sizeOf27 rfl rfl rfl) ?_
                      refine g_nil ?_
                      refine a_take 3 rfl (by kernel_rfl) (by kernel_rfl) (by kernel_rfl) (fun _ _ _ _ _ h => h) rfl rfl rfl (y_setNe (withS (withS s0 9 (9 + 1 - 9)) 32 (32 + 1 - 32)) s0 rfl rfl) ?_
                      refine a_do1 0 (by kernel_rfl) ?_
                      refine a_op 0 rfl ?_
                      refine g_val rfl rfl rfl (y_ldN (vs := (s4C (withS (withS s0 9 (9 + 1 - 9)) 32 (32 + 1 - 32)))) 4 rfl Try.isAgg27 Try.sizeOf27 rfl rfl rfl) ?_
                      refine g_nil ?_
                      refine a_do1 4 (by kernel_rfl) ?_
                      refine a_op 4 rfl ?_
                      refine g_stN 5 rfl rfl rfl (by kernel_rfl) rfl rfl rfl rfl ?_
                      simp only [List.set_cons_zero, List.set_cons_succ]
                      refine g_nil ?_
                      refine a_take 5 rfl (by kernel_rfl) (by kernel_rfl) (by kernel_rfl) (fun _ _ _ _ _ h => h) rfl rfl rfl (y_assign rfl) ?_
                      refine a_done (by kernel_rfl) ?_
                      refine g_then (g_ret ?_)
                      refine g_end_cell2 5 Try.results37 rfl rfl rfl Try.isAgg27 Try.sizeOf27 rfl ?_
                      exact fun w hS => ⟨((withS (withS s0 9 (9 + 1 - 9)) 32 (32 + 1 - 32)), _), rfl, (hS.sub (List.nil_sublist _)).below⟩
                  · skip
                    refine g_cond_f rfl (g_seq (g_ops ?_))
                    refine g_val rfl rfl rfl (y_seq rfl rfl) ?_
                    refine g_val rfl rfl rfl (y_assign rfl) ?_
                    refine g_nil (g_then ?_)
                    first | refine g_casep 48 rfl (fun h9 => ?_) (fun h9 => ?_) | refine g_caseb 48 rfl (fun h9 => ?_) (fun h9 => ?_)
                    · skip
                      refine g_cond_t rfl ?_
                      refine a_start (by kernel_rfl) ?_
                      refine a_do2 0 1 (by kernel_rfl) ?_ ?_
                      · skip
                        refine a_op 0 rfl ?_
                        refine g_val rfl rfl rfl (y_ldN (vs := (s4C s8)) 0 rfl Try.isAgg27 Try.sizeOf27 rfl rfl rfl) ?_
                        refine g_nil ?_
                        refine a_do1 1 (by kernel_rfl) ?_
                        refine a_op 1 rfl ?_
                        refine g_val rfl rfl rfl (y_ldN (vs := (s4C s0)) 4 rfl Try.isAgg27 Try.sizeOf27 rfl rfl rfl) ?_
                        refine g_nil ?_
                        refine a_do1 2 (by kernel_rfl) ?_
                        refine a_op 2 rfl ?_
                        refine g_call1 rfl rfl rfl Try.call24 (fun w hS => cwith_any s0 33 126 (by decide) (by decide) w) ?_
                        refine g_nil ?_
                        refine a_do1 3 (by kernel_rfl) ?_
                        refine a_op 3 rfl ?_
                        refine g_callE (fun s' : Nat → Int => .agg (s4C s').toArray) rfl rfl rfl Try.call40 (fun w hS => not_any (withS s0 33 (126 + 1 - 33)) w) (fun u10 => ?_)
                        refine g_nil ?_
                        refine a_do1 4 (by kernel_rfl) ?_
                        refine a_op 4 rfl ?_
                        refine g_callE (fun s' : Nat → Int => .agg (s4C s').toArray) rfl rfl rfl Try.call38 (fun w hS => both_any s8 u10 w) (fun u11 => ?_)
                        refine g_nil ?_
                        refine a_do1 5 (by kernel_rfl) ?_
                        refine a_op 5 rfl ?_
                        refine g_callE (fun s' : Nat → Int => .agg (s4C s').toArray) rfl rfl rfl Try.call40 (fun w hS => not_any u11 w) (fun u12 => ?_)
                        refine g_nil ?_
                        refine a_do1 6 (by kernel_rfl) ?_
                        refine a_op 6 rfl ?_
                        refine g_stN 4 rfl rfl rfl (by kernel_rfl) rfl rfl rfl rfl ?_
                        simp only [List.set_cons_zero, List.set_cons_succ]
                        refine g_nil ?_
                        refine a_done (by kernel_rfl) ?_
                        refine g_in_normal (g_then (g_seq ?_))
                        refine a_start (by kernel_rfl) ?_
                        refine a_take (v := .agg (s4C s0).toArray) 2 rfl (by kernel_rfl) (by kernel_rfl) (by kernel_rfl) (fun _ _ _ _ _ h => h) rfl rfl rfl (y_build (offs := []) rfl Try.zeroValue27 (by kernel_rfl)) ?_
                        refine a_do2 0 1 (by kernel_rfl) ?_ ?_
                        · skip
                          refine a_op 0 rfl ?_
                          refine g_val rfl rfl rfl (y_ldN (vs := (s4C u12)) 4 rfl Try.isAgg27 Try.sizeOf27 rfl rfl rfl) ?_
                          refine g_nil ?_
                          refine a_do2 1 4 (by kernel_rfl) ?_ ?_
                          · skip
                            refine a_op 1 rfl ?_
                            refine g_val rfl rfl rfl (y_ldN (vs := (s4C u12)) 4 rfl Try.isAgg27 Try.sizeOf27 rfl rfl rfl) ?_
                            refine g_nil ?_
                            refine a_take 3 rfl (by kernel_rfl) (by kernel_rfl) (by kernel_rfl) (fun _ _ _ _ _ h => h) rfl rfl rfl (y_setNe u12 s0 rfl rfl) ?_
                            refine a_do1 4 (by kernel_rfl) ?_
                            refine a_op 4 rfl ?_
                            refine g_stN 5 rfl rfl rfl (by kernel_rfl) rfl rfl rfl rfl ?_
                            simp only [List.set_cons_zero, List.set_cons_succ]
                            refine g_nil ?_
                            refine a_take 5 rfl (by kernel_rfl) (by kernel_rfl) (by kernel_rfl) (fun _ _ _ _ _ h => h) rfl rfl rfl (y_assign rfl) ?_
                            refine a_done (by kernel_rfl) ?_
                            refine g_then (g_ret ?_)
                            refine g_end_cell2 5 Try.results37 rfl rfl rfl Try.isAgg27 Try.sizeOf27 rfl ?_
                            exact fun w hS => ⟨(u12, _), rfl, (hS.sub (List.nil_sublist _)).below⟩
                          · skip
                            refine a_op 4 rfl ?_
                            refine g_stN 5 rfl rfl rfl (by kernel_rfl) rfl rfl rfl rfl ?_
                            simp only [List.set_cons_zero, List.set_cons_succ]
                            refine g_nil ?_
                            refine a_do1 1 (by kernel_rfl) ?_
                            refine a_op 1 rfl ?_
                            refine g_val rfl rfl rfl (y_ldN (vs := (s4C u12)) 4 rfl Try.isAgg27 Try.sizeOf27 rfl rfl rfl) ?_
                            refine g_nil ?_
                            refine a_take 3 rfl (by kernel_rfl) (by kernel_rfl) (by kernel_rfl) (fun _ _ _ _ _ h => h) rfl rfl rfl (y_setNe u12 s0 rfl rfl) ?_
                            refine a_take 5 rfl (by kernel_rfl) (by kernel_rfl) (by kernel_rfl) (fun _ _ _ _ _ h => h) rfl rfl rfl (y_assign rfl) ?_
                            refine a_done (by kernel_rfl) ?_
                            refine g_then (g_ret ?_)
                            refine g_end_cell2 5 Try.results37 rfl rfl rfl Try.isAgg27 Try.sizeOf27 rfl ?_
                            exact fun w hS => ⟨(u12, _), rfl, (hS.sub (List.nil_sublist _)).below⟩
                        · skip
                          refine a_op 1 rfl ?_
                          refine g_val rfl rfl rfl (y_ldN (vs := (s4C u12)) 4 rfl Try.isAgg27 Try.sizeOf27 rfl rfl rfl) ?_
                          refine g_nil ?_
                          refine a_take 3 rfl (by kernel_rfl) (by kernel_rfl) (by kernel_rfl) (fun _ _ _ _ _ h => h) rfl rfl rfl (y_setNe u12 s0 rfl rfl) ?_
                          refine a_do1 0 (by kernel_rfl) ?_
                          refine a_op 0 rfl ?_
                          refine g_val rfl rfl rfl (y_ldN (vs := (s4C u12)) 4 rfl Try.isAgg27 Try.sizeOf27 rfl rfl rfl) ?_
                          refine g_nil ?_
                          refine a_do1 4 (by kernel_rfl) ?_
                          refine a_op 4 rfl ?_
                          refine g_stN 5 rfl rfl rfl (by kernel_rfl) rfl rfl rfl rfl ?_
                          simp only [List.set_cons_zero, List.set_cons_succ]
                          refine g_nil ?_
                          refine a_take 5 rfl (by kernel_rfl) (by kernel_rfl) (by kernel_rfl) (fun _ _ _ _ _ h => h) rfl rfl rfl (y_assign rfl) ?_
                          refine a_done (by kernel_rfl) ?_
                          refine g_then (g_ret ?_)
                          refine g_end_cell2 5 Try.results37 rfl rfl rfl Try.isAgg27 Try.sizeOf27 rfl ?_
                          exact fun w hS => ⟨(u12, _), rfl, (hS.sub (List.nil_sublist _)).below⟩
                      · skip
                        refine a_op 1 rfl ?_
                        refine g_val rfl rfl rfl (y_ldN (vs := (s4C s0)) 4 rfl Try.isAgg27 Try.sizeOf27 rfl rfl rfl) ?_
                        refine g_nil ?_
                        refine a_do2 0 2 (by kernel_rfl) ?_ ?_
                        · skip
                          refine a_op 0 rfl ?_
                          refine g_val rfl rfl rfl (y_ldN (vs := (s4C s8)) 0 rfl Try.isAgg27 Try.sizeOf27 rfl rfl rfl) ?_
                          refine g_nil ?_
                          refine a_do1 2 (by kernel_rfl) ?_
                          refine a_op 2 rfl ?_
                          refine g_call1 rfl rfl rfl Try.call24 (fun w hS => cwith_any s0 33 126 (by decide) (by decide) w) ?_
                          refine g_nil ?_
                          refine a_do1 3 (by kernel_rfl) ?_
                          refine a_op 3 rfl ?_
                          refine g_callE (fun s' : Nat → Int => .agg (s4C s').toArray) rfl rfl rfl Try.call40 (fun w hS => not_any (withS s0 33 (126 + 1 - 33)) w) (fun u13 => ?_)
                          refine g_nil ?_
                          refine a_do1 4 (by kernel_rfl) ?_
                          refine a_op 4 rfl ?_
                          refine g_callE (fun s' : Nat → Int => .agg (s4C s').toArray) rfl rfl rfl Try.call38 (fun w hS => both_any s8 u13 w) (fun u14 => ?_)
                          refine g_nil ?_
                          refine a_do1 5 (by kernel_rfl) ?_
                          refine a_op 5 rfl ?_
                          refine g_callE (fun s' : Nat → Int => .agg (s4C s').toArray) rfl rfl rfl Try.call40 (fun w hS => not_any u14 w) (fun u15 => ?_)
                          refine g_nil ?_
                          refine a_do1 6 (by kernel_rfl) ?_
                          refine a_op 6 rfl ?_
                          refine g_stN 4 rfl rfl rfl (by kernel_rfl) rfl rfl rfl rfl ?_
                          simp only [List.set_cons_zero, List.set_cons_succ]
                          refine g_nil ?_
                          refine a_done (by kernel_rfl) ?_
                          refine g_in_normal (g_then (g_seq ?_))
                          refine a_start (by kernel_rfl) ?_
                          refine a_take (v := .agg (s4C s0).toArray) 2 rfl (by kernel_rfl) (by kernel_rfl) (by kernel_rfl) (fun _ _ _ _ _ h => h) rfl rfl rfl (y_build (offs := []) rfl Try.zeroValue27 (by kernel_rfl)) ?_
                          refine a_do2 0 1 (by kernel_rfl) ?_ ?_
                          · skip
                            refine a_op 0 rfl ?_
                            refine g_val rfl rfl rfl (y_ldN (vs := (s4C u15)) 4 rfl Try.isAgg27 Try.sizeOf27 rfl rfl rfl) ?_
                            refine g_nil ?_
                            refine a_do2 1 4 (by kernel_rfl) ?_ ?_
                            · skip
                              refine a_op 1 rfl ?_
                              refine g_val rfl rfl rfl (y_ldN (vs := (s4C u15)) 4 rfl Try.isAgg27 Try.sizeOf27 rfl rfl rfl) ?_
                              refine g_nil ?_
                              refine a_take 3 rfl (by kernel_rfl) (by kernel_rfl) (by kernel_rfl) (fun _ _ _ _ _ h => h) rfl rfl rfl (y_setNe u15 s0 rfl rfl) ?_
                              refine a_do1 4 (by kernel_rfl) ?_
                              refine a_op 4 rfl ?_
                              refine g_stN 5 rfl rfl rfl (by kernel_rfl) rfl rfl rfl rfl ?_
                              simp only [List.set_cons_zero, List.set_cons_succ]
                              refine g_nil ?_
                              refine a_take 5 rfl (by kernel_rfl) (by kernel_rfl) (by kernel_rfl) (fun _ _ _ _ _ h => h) rfl rfl rfl (y_assign rfl) ?_
                              refine a_done (by kernel_rfl) ?_
                              refine g_then (g_ret ?_)
                              refine g_end_cell2 5 Try.results37 rfl rfl rfl Try.isAgg27 Try.sizeOf27 rfl ?_
                              exact fun w hS => ⟨(u15, _), rfl, (hS.sub (List.nil_sublist _)).below⟩
                            · skip
                              refine a_op 4 rfl ?_
                              refine g_stN 5 rfl rfl rfl (by kernel_rfl) rfl rfl rfl rfl ?_
                              simp only [List.set_cons_zero, List.set_cons_succ]
                              refine g_nil ?_
                              refine a_do1 1 (by kernel_rfl) ?_
                              refine a_op 1 rfl ?_
                              refine g_val rfl rfl rfl (y_ldN (vs := (s4C u15)) 4 rfl Try.isAgg27 Try.sizeOf27 rfl rfl rfl) ?_
                              refine g_nil ?_
                              refine a_take 3 rfl (by kernel_rfl) (by kernel_rfl) (by kernel_rfl) (fun _ _ _ _ _ h => h) rfl rfl rfl (y_setNe u15 s0 rfl rfl) ?_
                              refine a_take 5 rfl (by kernel_rfl) (by kernel_rfl) (by kernel_rfl) (fun _ _ _ _ _ h => h) rfl rfl rfl (y_assign rfl) ?_
                              refine a_done (by kernel_rfl) ?_
                              refine g_then (g_ret ?_)
                              refine g_end_cell2 5 Try.results37 rfl rfl rfl Try.isAgg27 Try.sizeOf27 rfl ?_
                              exact fun w hS => ⟨(u15, _), rfl, (hS.sub (List.nil_sublist _)).below⟩
                          · skip
                            refine a_op 1 rfl ?_
                            refine g_val rfl rfl rfl (y_ldN (vs := (s4C u15)) 4 rfl Try.isAgg27 Try.sizeOf27 rfl rfl rfl) ?_
                            refine g_nil ?_
                            refine a_take 3 rfl (by kernel_rfl) (by kernel_rfl) (by kernel_rfl) (fun _ _ _ _ _ h => h) rfl rfl rfl (y_setNe u15 s0 rfl rfl) ?_
                            refine a_do1 0 (by kernel_rfl) ?_
                            refine a_op 0 rfl ?_
                            refine g_val rfl rfl rfl (y_ldN (vs := (s4C u15)) 4 rfl Try.isAgg27 Try.sizeOf27 rfl rfl rfl) ?_
                            refine g_nil ?_
                            refine a_do1 4 (by kernel_rfl) ?_
                            refine a_op 4 rfl ?_
                            refine g_stN 5 rfl rfl rfl (by kernel_rfl) rfl rfl rfl rfl ?_
                            simp only [List.set_cons_zero, List.set_cons_succ]
                            refine g_nil ?_
                            refine a_take 5 rfl (by kernel_rfl) (by kernel_rfl) (by kernel_rfl) (fun _ _ _ _ _ h => h) rfl rfl rfl (y_assign rfl) ?_
                            refine a_done (by kernel_rfl) ?_
                            refine g_then (g_ret ?_)
                            refine g_end_cell2 5 Try.results37 rfl rfl rfl Try.isAgg27 Try.sizeOf27 rfl ?_
                            exact fun w hS => ⟨(u15, _), rfl, (hS.sub (List.nil_sublist _)).below⟩
                        · skip
                          refine a_op 2 rfl ?_
                          refine g_call1 rfl rfl rfl Try.call24 (fun w hS => cwith_any s0 33 126 (by decide) (by decide) w) ?_
                          refine g_nil ?_
                          refine a_do2 0 3 (by kernel_rfl) ?_ ?_
                          · skip
                            refine a_op 0 rfl ?_
                            refine g_val rfl rfl rfl (y_ldN (vs := (s4C s8)) 0 rfl Try.isAgg27 Try.sizeOf27 rfl rfl rfl) ?_
                            refine g_nil ?_
                            refine a_do1 3 (by kernel_rfl) ?_
                            refine a_op 3 rfl ?_
                            refine g_callE (fun s' : Nat → Int => .agg (s4C s').toArray) rfl rfl rfl Try.call40 (fun w hS => not_any (withS s0 33 (126 + 1 - 33)) w) (fun u16 => ?_)
                            refine g_nil ?_
                            refine a_do1 4 (by kernel_rfl) ?_
                            refine a_op 4 rfl ?_
                            refine g_callE (fun s' : Nat → Int => .agg (s4C s').toArray) rfl rfl rfl Try.call38 (fun w hS => both_any s8 u16 w) (fun u17 => ?_)
                            refine g_nil ?_
                            refine a_do1 5 (by kernel_rfl) ?_
                            refine a_op 5 rfl ?_
                            refine g_callE (fun s' : Nat → Int => .agg (s4C s').toArray) rfl rfl rfl Try.call40 (fun w hS => not_any u17 w) (fun u18 => ?_)
                            refine g_nil ?_
                            refine a_do1 6 (by kernel_rfl) ?_
                            refine a_op 6 rfl ?_
                            refine g_stN 4 rfl rfl rfl (by kernel_rfl) rfl rfl rfl rfl ?_
                            simp only [List.set_cons_zero, List.set_cons_succ]
                            refine g_nil ?_
                            refine a_done (by kernel_rfl) ?_
                            refine g_in_normal (g_then (g_seq ?_))
                            refine a_start (by kernel_rfl) ?_
                            refine a_take (v := .agg (s4C s0).toArray) 2 rfl (by kernel_rfl) (by kernel_rfl) (by kernel_rfl) (fun _ _ _ _ _ h => h) rfl rfl rfl (y_build (offs := []) rfl Try.zeroValue27 (by kernel_rfl)) ?_
                            refine a_do2 0 1 (by kernel_rfl) ?_ ?_
                            · skip
                              refine a_op 0 rfl ?_
                              refine g_val rfl rfl rfl (y_ldN (vs := (s4C u18)) 4 rfl Try.isAgg27 Try.sizeOf27 rfl rfl rfl) ?_
                              refine g_nil ?_
                              refine a_do2 1 4 (by kernel_rfl) ?_ ?_
                              · skip
                                refine a_op 1 rfl ?_
                                refine g_val rfl rfl rfl (y_ldN (vs := (s4C u18)) 4 rfl Try.isAgg27 Try.sizeOf27 rfl rfl rfl) ?_
                                refine g_nil ?_
                                refine a_take 3 rfl (by kernel_rfl) (by kernel_rfl) (by kernel_rfl) (fun _ _ _ _ _ h => h) rfl rfl rfl (y_setNe u18 s0 rfl rfl) ?_
                                refine a_do1 4 (by kernel_rfl) ?_
                                refine a_op 4 rfl ?_
                                refine g_stN 5 rfl rfl rfl (by kernel_rfl) rfl rfl rfl rfl ?_
                                simp only [List.set_cons_zero, List.set_cons_succ]
                                refine g_nil ?_
                                refine a_take 5 rfl (by kernel_rfl) (by kernel_rfl) (by kernel_rfl) (fun _ _ _ _ _ h => h) rfl rfl rfl (y_assign rfl) ?_
                                refine a_done (by kernel_rfl) ?_
                                refine g_then (g_ret ?_)
                                refine g_end_cell2 5 Try.results37 rfl rfl rfl Try.isAgg27 Try.sizeOf27 rfl ?_
                                exact fun w hS => ⟨(u18, _), rfl, (hS.sub (List.nil_sublist _)).below⟩
                              · skip
                                refine a_op 4 rfl ?_
                                refine g_stN 5 rfl rfl rfl (by kernel_rfl) rfl rfl rfl rfl ?_
                                simp only [List.set_cons_zero, List.set_cons_succ]
                                refine g_nil ?_
                                refine a_do1 1 (by kernel_rfl) ?_
                                refine a_op 1 rfl ?_
                                refine g_val rfl rfl rfl (y_ldN (vs := (s4C u18)) 4 rfl Try.isAgg27 Try.sizeOf27 rfl rfl rfl) ?_
                                refine g_nil ?_
                                refine a_take 3 rfl (by kernel_rfl) (by kernel_rfl) (by kernel_rfl) (fun _ _ _ _ _ h => h) rfl rfl rfl (y_setNe u18 s0 rfl rfl) ?_
                                refine a_take 5 rfl (by kernel_rfl) (by kernel_rfl) (by kernel_rfl) (fun _ _ _ _ _ h => h) rfl rfl rfl (y_assign rfl) ?_
                                refine a_done (by kernel_rfl) ?_
                                refine g_then (g_ret ?_)
                                refine g_end_cell2 5 Try.results37 rfl rfl rfl Try.isAgg27 Try.sizeOf27 rfl ?_
                                exact fun w hS => ⟨(u18, _), rfl, (hS.sub (List.nil_sublist _)).below⟩
                            · skip
                              refine a_op 1 rfl ?_
                              refine g_val rfl rfl rfl (y_ldN (vs := (s4C u18)) 4 rfl Try.isAgg27 Try.sizeOf27 rfl rfl rfl) ?_
                              refine g_nil ?_
                              refine a_take 3 rfl (by kernel_rfl) (by kernel_rfl) (by kernel_rfl) (fun _ _ _ _ _ h => h) rfl rfl rfl (y_setNe u18 s0 rfl rfl) ?_
                              refine a_do1 0 (by kernel_rfl) ?_
                              refine a_op 0 rfl ?_
                              refine g_val rfl rfl rfl (y_ldN (vs := (s4C u18)) 4 rfl Try.isAgg27 Try.sizeOf27 rfl rfl rfl) ?_
                              refine g_nil ?_
                              refine a_do1 4 (by kernel_rfl) ?_
                              refine a_op 4 rfl ?_
                              refine g_stN 5 rfl rfl rfl (by kernel_rfl) rfl rfl rfl rfl ?_
                              simp only [List.set_cons_zero, List.set_cons_succ]
                              refine g_nil ?_
                              refine a_take 5 rfl (by kernel_rfl) (by kernel_rfl) (by kernel_rfl) (fun _ _ _ _ _ h => h) rfl rfl rfl (y_assign rfl) ?_
                              refine a_done (by kernel_rfl) ?_
                              refine g_then (g_ret ?_)
                              refine g_end_cell2 5 Try.results37 rfl rfl rfl Try.isAgg27 Try.sizeOf27 rfl ?_
                              exact fun w hS => ⟨(u18, _), rfl, (hS.sub (List.nil_sublist _)).below⟩
                          · skip
                            refine a_op 3 rfl ?_
                            refine g_callE (fun s' : Nat → Int => .agg (s4C s').toArray) rfl rfl rfl Try.call40 (fun w hS => not_any (withS s0 33 (126 + 1 - 33)) w) (fun u19 => ?_)
                            refine g_nil ?_
                            refine a_do1 0 (by kernel_rfl) ?_
                            refine a_op 0 rfl ?_
                            refine g_val rfl rfl rfl (y_ldN (vs := (s4C s8)) 0 rfl Try.isAgg27 Try.sizeOf27 rfl rfl rfl) ?_
                            refine g_nil ?_
                            refine a_do1 4 (by kernel_rfl) ?_
                            refine a_op 4 rfl ?_
                            refine g_callE (fun s' : Nat → Int => .agg (s4C s').toArray) rfl rfl rfl Try.call38 (fun w hS => both_any s8 u19 w) (fun u20 => ?_)
                            refine g_nil ?_
                            refine a_do1 5 (by kernel_rfl) ?_
                            refine a_op 5 rfl ?_
                            refine g_callE (fun s' : Nat → Int => .agg (s4C s').toArray) rfl rfl rfl Try.call40 (fun w hS => not_any u20 w) (fun u21 => ?_)
                            refine g_nil ?_
                            refine a_do1 6 (by kernel_rfl) ?_
                            refine a_op 6 rfl ?_
                            refine g_stN 4 rfl rfl rfl (by kernel_rfl) rfl rfl rfl rfl ?_
                            simp only [List.set_cons_zero, List.set_cons_succ]
                            refine g_nil ?_
                            refine a_done (by kernel_rfl) ?_
                            refine g_in_normal (g_then (g_seq ?_))
                            refine a_start (by kernel_rfl) ?_
                            refine a_take (v := .agg (s4C s0).toArray) 2 rfl (by kernel_rfl) (by kernel_rfl) (by kernel_rfl) (fun _ _ _ _ _ h => h) rfl rfl rfl (y_build (offs := []) rfl Try.zeroValue27 (by kernel_rfl)) ?_
                            refine a_do2 0 1 (by kernel_rfl) ?_ ?_
                            · skip
                              refine a_op 0 rfl ?_
                              refine g_val rfl rfl rfl (y_ldN (vs := (s4C u21)) 4 rfl Try.isAgg27 Try.sizeOf27 rfl rfl rfl) ?_
                              refine g_nil ?_
                              refine a_do2 1 4 (by kernel_rfl) ?_ ?_
                              · skip
                                refine a_op 1 rfl ?_
                                refine g_val rfl rfl rfl (y_ldN (vs := (s4C u21)) 4 rfl Try.isAgg27 Try.sizeOf27 rfl rfl rfl) ?_
                                refine g_nil ?_
                                refine a_take 3 rfl (by kernel_rfl) (by kernel_rfl) (by kernel_rfl) (fun _ _ _ _ _ h => h) rfl rfl rfl (y_setNe u21 s0 rfl rfl) ?_
                                refine a_do1 4 (by kernel_rfl) ?_
                                refine a_op 4 rfl ?_
                                refine g_stN 5 rfl rfl rfl (by kernel_rfl) rfl rfl rfl rfl ?_
                                simp only [List.set_cons_zero, List.set_cons_succ]
                                refine g_nil ?_
                                refine a_take 5 rfl (by kernel_rfl) (by kernel_rfl) (by kernel_rfl) (fun _ _ _ _ _ h => h) rfl rfl rfl (y_assign rfl) ?_
                                refine a_done (by kernel_rfl) ?_
                                refine g_then (g_ret ?_)
                                refine g_end_cell2 5 Try.results37 rfl rfl rfl Try.isAgg27 Try.sizeOf27 rfl ?_
                                exact fun w hS => ⟨(u21, _), rfl, (hS.sub (List.nil_sublist _)).below⟩
                              · skip
                                refine a_op 4 rfl ?_
                                refine g_stN 5 rfl rfl rfl (by kernel_rfl) rfl rfl rfl rfl ?_
                                simp only [List.set_cons_zero, List.set_cons_succ]
                                refine g_nil ?_
                                refine a_do1 1 (by kernel_rfl) ?_
                                refine a_op 1 rfl ?_
                                refine g_val rfl rfl rfl (y_ldN (vs := (s4C u21)) 4 rfl Try.isAgg27 Try.sizeOf27 rfl rfl rfl) ?_
                                refine g_nil ?_
                                refine a_take 3 rfl (by kernel_rfl) (by kernel_rfl) (by kernel_rfl) (fun _ _ _ _ _ h => h) rfl rfl rfl (y_setNe u21 s0 rfl rfl) ?_
                                refine a_take 5 rfl (by kernel_rfl) (by kernel_rfl) (by kernel_rfl) (fun _ _ _ _ _ h => h) rfl rfl rfl (y_assign rfl) ?_
                                refine a_done (by kernel_rfl) ?_
                                refine g_then (g_ret ?_)
                                refine g_end_cell2 5 Try.results37 rfl rfl rfl Try.isAgg27 Try.sizeOf27 rfl ?_
                                exact fun w hS => ⟨(u21, _), rfl, (hS.sub (List.nil_sublist _)).below⟩
                            · skip
                              refine a_op 1 rfl ?_
                              refine g_val rfl rfl rfl (y_ldN (vs := (s4C u21)) 4 rfl Try.isAgg27 Try.sizeOf27 rfl rfl rfl) ?_
                              refine g_nil ?_
                              refine a_take 3 rfl (by kernel_rfl) (by kernel_rfl) (by kernel_rfl) (fun _ _ _ _ _ h => h) rfl rfl rfl (y_setNe u21 s0 rfl rfl) ?_
                              refine a_do1 0 (by kernel_rfl) ?_
                              refine a_op 0 rfl ?_
                              refine g_val rfl rfl rfl (y_ldN (vs := (s4C u21)) 4 rfl Try.isAgg27 Try.sizeOf27 rfl rfl rfl) ?_
                              refine g_nil ?_
                              refine a_do1 4 (by kernel_rfl) ?_
                              refine a_op 4 rfl ?_
                              refine g_stN 5 rfl rfl rfl (by kernel_rfl) rfl rfl rfl rfl ?_
                              simp only [List.set_cons_zero, List.set_cons_succ]
                              refine g_nil ?_
                              refine a_take 5 rfl (by kernel_rfl) (by kernel_rfl) (by kernel_rfl) (fun _ _ _ _ _ h => h) rfl rfl rfl (y_assign rfl) ?_
                              refine a_done (by kernel_rfl) ?_
                              refine g_then (g_ret ?_)
                              refine g_end_cell2 5 Try.results37 rfl rfl rfl Try.isAgg27 Try.sizeOf27 rfl ?_
                              exact fun w hS => ⟨(u21, _), rfl, (hS.sub (List.nil_sublist _)).below⟩
                    · skip
                      refine g_cond_f rfl (g_seq (g_ops ?_))
                      refine g_val rfl rfl rfl (y_seq rfl rfl) ?_
                      refine g_val rfl rfl rfl (y_assign rfl) ?_
                      refine g_nil (g_then ?_)
                      first | refine g_casep 56 rfl (fun h22 => ?_) (fun h22 => ?_) | refine g_caseb 56 rfl (fun h22 => ?_) (fun h22 => ?_)
                      · skip
                        refine g_cond_t rfl (g_ops ?_)
                        refine g_val rfl rfl rfl (y_ldN (vs := (s4C s0)) 4 rfl Try.isAgg27 Try.sizeOf27 rfl rfl rfl) ?_
                        refine g_call1 rfl rfl rfl Try.call24 (fun w hS => cwith_any s0 32 126 (by decide) (by decide) w) ?_
                        refine g_stN 4 rfl rfl rfl (by kernel_rfl) rfl rfl rfl rfl ?_
                        simp only [List.set_cons_zero, List.set_cons_succ]
                        refine g_nil (g_in_normal (g_then (g_seq ?_)))
                        refine a_start (by kernel_rfl) ?_
                        refine a_take (v := .agg (s4C s0).toArray) 2 rfl (by kernel_rfl) (by kernel_rfl) (by kernel_rfl) (fun _ _ _ _ _ h => h) rfl rfl rfl (y_build (offs := []) rfl Try.zeroValue27 (by kernel_rfl)) ?_
                        refine a_do2 0 1 (by kernel_rfl) ?_ ?_
                        · skip
                          refine a_op 0 rfl ?_
                          refine g_val rfl rfl rfl (y_ldN (vs := (s4C (withS s0 32 (126 + 1 - 32)))) 4 rfl Try.isAgg27 Try.sizeOf27 rfl rfl rfl) ?_
                          refine g_nil ?_
                          refine a_do2 1 4 (by kernel_rfl) ?_ ?_
                          · skip
                            refine a_op 1 rfl ?_
                            refine g_val rfl rfl rfl (y_ldN (vs := (s4C (withS s0 32 (126 + 1 - 32)))) 4 rfl Try.isAgg27 Try.sizeOf27 rfl rfl rfl) ?_
                            refine g_nil ?_
                            refine a_take 3 rfl (by kernel_rfl) (by kernel_rfl) (by kernel_rfl) (fun _ _ _ _ _ h => h) rfl rfl rfl (y_setNe (withS s0 32 (126 + 1 - 32)) s0 rfl rfl) ?_
                            refine a_do1 4 (by kernel_rfl) ?_
                            refine a_op 4 rfl ?_
                            refine g_stN 5 rfl rfl rfl (by kernel_rfl) rfl rfl rfl rfl ?_
                            simp only [List.set_cons_zero, List.set_cons_succ]
                            refine g_nil ?_
                            refine a_take 5 rfl (by kernel_rfl) (by kernel_rfl) (by kernel_rfl) (fun _ _ _ _ _ h => h) rfl rfl rfl (y_assign rfl) ?_
                            refine a_done (by kernel_rfl) ?_
                            refine g_then (g_ret ?_)
                            refine g_end_cell2 5 Try.results37 rfl rfl rfl Try.isAgg27 Try.sizeOf27 rfl ?_
                            exact fun w hS => ⟨((withS s0 32 (126 + 1 - 32)), _), rfl, (hS.sub (List.nil_sublist _)).below⟩
                          · skip
                            refine a_op 4 rfl ?_
                            refine g_stN 5 rfl rfl rfl (by kernel_rfl) rfl rfl rfl rfl ?_
                            simp only [List.set_cons_zero, List.set_cons_succ]
                            refine g_nil ?_
                            refine a_do1 1 (by kernel_rfl) ?_
                            refine a_op 1 rfl ?_
                            refine g_val rfl rfl rfl (y_ldN (vs := (s4C (withS s0 32 (126 + 1 - 32)))) 4 rfl Try.isAgg27 Try.sizeOf27 rfl rfl rfl) ?_
                            refine g_nil ?_
                            refine a_take 3 rfl (by kernel_rfl) (by kernel_rfl) (by kernel_rfl) (fun _ _ _ _ _ h => h) rfl rfl rfl (y_setNe (withS s0 32 (126 + 1 - 32)) s0 rfl rfl) ?_
                            refine a_take 5 rfl (by kernel_rfl) (by kernel_rfl) (by kernel_rfl) (fun _ _ _ _ _ h => h) rfl rfl rfl (y_assign rfl) ?_
                            refine a_done (by kernel_rfl) ?_
                            refine g_then (g_ret ?_)
                            refine g_end_cell2 5 Try.results37 rfl rfl rfl Try.isAgg27 Try.sizeOf27 rfl ?_
                            exact fun w hS => ⟨((withS s0 32 (126 + 1 - 32)), _), rfl, (hS.sub (List.nil_sublist _)).below⟩
                        · skip
                          refine a_op 1 rfl ?_
                          refine g_val rfl rfl rfl (y_ldN (vs := (s4C (withS s0 32 (126 + 1 - 32)))) 4 rfl Try.isAgg27 Try.sizeOf27 rfl rfl rfl) ?_
                          refine g_nil ?_
                          refine a_take 3 rfl (by kernel_rfl) (by kernel_rfl) (by kernel_rfl) (fun _ _ _ _ _ h => h) rfl rfl rfl (y_setNe (withS s0 32 (126 + 1 - 32)) s0 rfl rfl) ?_
                          refine a_do1 0 (by kernel_rfl) ?_
                          refine a_op 0 rfl ?_
                          refine g_val rfl rfl rfl (y_ldN (vs := (s4C (withS s0 32 (126 + 1 - 32)))) 4 rfl Try.isAgg27 Try.sizeOf27 rfl rfl rfl) ?_
                          refine g_nil ?_
                          refine a_do1 4 (by kernel_rfl) ?_
                          refine a_op 4 rfl ?_
                          refine g_stN 5 rfl rfl rfl (by kernel_rfl) rfl rfl rfl rfl ?_
                          simp only [List.set_cons_zero, List.set_cons_succ]
                          refine g_nil ?_
                          refine a_take 5 rfl (by kernel_rfl) (by kernel_rfl) (by kernel_rfl) (fun _ _ _ _ _ h => h) rfl rfl rfl (y_assign rfl) ?_
                          refine a_done (by kernel_rfl) ?_
                          refine g_then (g_ret ?_)
                          refine g_end_cell2 5 Try.results37 rfl rfl rfl Try.isAgg27 Try.sizeOf27 rfl ?_
                          exact fun w hS => ⟨((withS s0 32 (126 + 1 - 32)), _), rfl, (hS.sub (List.nil_sublist _)).below⟩
                      · skip
                        refine g_cond_f rfl (g_seq (g_ops ?_))
                        refine g_val rfl rfl rfl (y_seq rfl rfl) ?_
                        refine g_val rfl rfl rfl (y_assign rfl) ?_
                        refine g_nil (g_then ?_)
                        first | refine g_casep 60 rfl (fun h23 => ?_) (fun h23 => ?_) | refine g_caseb 60 rfl (fun h23 => ?_) (fun h23 => ?_)
                        · skip
                          refine g_cond_t rfl (g_ops ?_)
                          refine g_val rfl rfl rfl (y_ldN (vs := (s4C s0)) 4 rfl Try.isAgg27 Try.sizeOf27 rfl rfl rfl) ?_
                          refine g_call1 rfl rfl rfl Try.call24 (fun w hS => cwith_any s0 33 126 (by decide) (by decide) w) ?_
                          refine g_stN 4 rfl rfl rfl (by kernel_rfl) rfl rfl rfl rfl ?_
                          simp only [List.set_cons_zero, List.set_cons_succ]
                          refine g_nil (g_in_normal (g_then (g_seq ?_)))
                          refine a_start (by kernel_rfl) ?_
                          refine a_take (v := .agg (s4C s0).toArray) 2 rfl (by kernel_rfl) (by kernel_rfl) (by kernel_rfl) (fun _ _ _ _ _ h => h) rfl rfl rfl (y_build (offs := []) rfl Try.zeroValue27 (by kernel_rfl)) ?_
                          refine a_do2 0 1 (by kernel_rfl) ?_ ?_
                          · skip
                            refine a_op 0 rfl ?_
                            refine g_val rfl rfl rfl (y_ldN (vs := (s4C (withS s0 33 (126 + 1 - 33)))) 4 rfl Try.isAgg27 Try.sizeOf27 rfl rfl rfl) ?_
                            refine g_nil ?_
                            refine a_do2 1 4 (by kernel_rfl) ?_ ?_
                            · skip
                              refine a_op 1 rfl ?_
                              refine g_val rfl rfl rfl (y_ldN (vs := (s4C (withS s0 33 (126 + 1 - 33)))) 4 rfl Try.isAgg27 Try.sizeOf27 rfl rfl rfl) ?_
                              refine g_nil ?_
                              refine a_take 3 rfl (by kernel_rfl) (by kernel_rfl) (by kernel_rfl) (fun _ _ _ _ _ h => h) rfl rfl rfl (y_setNe (withS s0 33 (126 + 1 - 33)) s0 rfl rfl) ?_
                              refine a_do1 4 (by kernel_rfl) ?_
                              refine a_op 4 rfl ?_
                              refine g_stN 5 rfl rfl rfl (by kernel_rfl) rfl rfl rfl rfl ?_
                              simp only [List.set_cons_zero, List.set_cons_succ]
                              refine g_nil ?_
                              refine a_take 5 rfl (by kernel_rfl) (by kernel_rfl) (by kernel_rfl) (fun _ _ _ _ _ h => h) rfl rfl rfl (y_assign rfl) ?_
                              refine a_done (by kernel_rfl) ?_
                              refine g_then (g_ret ?_)
                              refine g_end_cell2 5 Try.results37 rfl rfl rfl Try.isAgg27 Try.sizeOf27 rfl ?_
                              exact fun w hS => ⟨((withS s0 33 (126 + 1 - 33)), _), rfl, (hS.sub (List.nil_sublist _)).below⟩
                            · skip
                              refine a_op 4 rfl ?_
                              refine g_stN 5 rfl rfl rfl (by kernel_rfl) rfl rfl rfl rfl ?_
                              simp only [List.set_cons_zero, List.set_cons_succ]
                              refine g_nil ?_
                              refine a_do1 1 (by kernel_rfl) ?_
                              refine a_op 1 rfl ?_
                              refine g_val rfl rfl rfl (y_ldN (vs := (s4C (withS s0 33 (126 + 1 - 33)))) 4 rfl Try.isAgg27 Try.sizeOf27 rfl rfl rfl) ?_
                              refine g_nil ?_
                              refine a_take 3 rfl (by kernel_rfl) (by kernel_rfl) (by kernel_rfl) (fun _ _ _ _ _ h => h) rfl rfl rfl (y_setNe (withS s0 33 (126 + 1 - 33)) s0 rfl rfl) ?_
                              refine a_take 5 rfl (by kernel_rfl) (by kernel_rfl) (by kernel_rfl) (fun _ _ _ _ _ h => h) rfl rfl rfl (y_assign rfl) ?_
                              refine a_done (by kernel_rfl) ?_
                              refine g_then (g_ret ?_)
                              refine g_end_cell2 5 Try.results37 rfl rfl rfl Try.isAgg27 Try.sizeOf27 rfl ?_
                              exact fun w hS => ⟨((withS s0 33 (126 + 1 - 33)), _), rfl, (hS.sub (List.nil_sublist _)).below⟩
                          · skip
                            refine a_op 1 rfl ?_
                            refine g_val rfl rfl rfl (y_ldN (vs := (s4C (withS s0 33 (126 + 1 - 33)))) 4 rfl Try.isAgg27 Try.sizeOf27 rfl rfl rfl) ?_
                            refine g_nil ?_
                            refine a_take 3 rfl (by kernel_rfl) (by kernel_rfl) (by kernel_rfl) (fun _ _ _ _ _ h => h) rfl rfl rfl (y_setNe (withS s0 33 (126 + 1 - 33)) s0 rfl rfl) ?_
                            refine a_do1 0 (by kernel_rfl) ?_
                            refine a_op 0 rfl ?_
                            refine g_val rfl rfl rfl (y_ldN (vs := (s4C (withS s0 33 (126 + 1 - 33)))) 4 rfl Try.isAgg27 Try.sizeOf27 rfl rfl rfl) ?_
                            refine g_nil ?_
                            refine a_do1 4 (by kernel_rfl) ?_
                            refine a_op 4 rfl ?_
                            refine g_stN 5 rfl rfl rfl (by kernel_rfl) rfl rfl rfl rfl ?_
                            simp only [List.set_cons_zero, List.set_cons_succ]
                            refine g_nil ?_
                            refine a_take 5 rfl (by kernel_rfl) (by kernel_rfl) (by kernel_rfl) (fun _ _ _ _ _ h => h) rfl rfl rfl (y_assign rfl) ?_
                            refine a_done (by kernel_rfl) ?_
                            refine g_then (g_ret ?_)
                            refine g_end_cell2 5 Try.results37 rfl rfl rfl Try.isAgg27 Try.sizeOf27 rfl ?_
                            exact fun w hS => ⟨((withS s0 33 (126 + 1 - 33)), _), rfl, (hS.sub (List.nil_sublist _)).below⟩
                        · skip
                          refine g_cond_f rfl (g_seq (g_ops ?_))
                          refine g_val rfl rfl rfl (y_seq rfl rfl) ?_
                          refine g_val rfl rfl rfl (y_assign rfl) ?_
                          refine g_nil (g_then ?_)
                          first | refine g_casep 64 rfl (fun h24 => ?_) (fun h24 => ?_) | refine g_caseb 64 rfl (fun h24 => ?_) (fun h24 => ?_)
                          · skip
                            refine g_cond_t rfl (g_ops ?_)
                            refine g_val rfl rfl rfl (y_ldN (vs := (s4C s0)) 4 rfl Try.isAgg27 Try.sizeOf27 rfl rfl rfl) ?_
                            refine g_call1 rfl rfl rfl Try.call24 (fun w hS => cwith_any s0 0 31 (by decide) (by decide) w) ?_
                            refine g_call1 rfl rfl rfl Try.call24 (fun w hS => cwith_any (withS s0 0 (31 + 1 - 0)) 127 127 (by decide) (by decide) w) ?_
                            refine g_stN 4 rfl rfl rfl (by kernel_rfl) rfl rfl rfl rfl ?_
                            simp only [List.set_cons_zero, List.set_cons_succ]
                            refine g_nil (g_in_normal (g_then (g_seq ?_)))
                            refine a_start (by kernel_rfl) ?_
                            refine a_take (v := .agg (s4C s0).toArray) 2 rfl (by kernel_rfl) (by kernel_rfl) (by kernel_rfl) (fun _ _ _ _ _ h => h) rfl rfl rfl (y_build (offs := []) rfl Try.zeroValue27 (by kernel_rfl)) ?_
                            refine a_do2 0 1 (by kernel_rfl) ?_ ?_
                            · skip
                              refine a_op 0 rfl ?_
                              refine g_val rfl rfl rfl (y_ldN (vs := (s4C (withS (withS s0 0 (31 + 1 - 0)) 127 (127 + 1 - 127)))) 4 rfl Try.isAgg27 Try.sizeOf27 rfl rfl rfl) ?_
                              refine g_nil ?_
                              refine a_do2 1 4 (by kernel_rfl) ?_ ?_
                              · skip
                                refine a_op 1 rfl ?_
                                refine g_val rfl rfl rfl (y_ldN (vs := (s4C (withS (withS s0 0 (31 + 1 - 0)) 127 (127 + 1 - 127)))) 4 rfl Try.isAgg27 Try.sizeOf27 rfl rfl rfl) ?_
                                refine g_nil ?_
                                refine a_take 3 rfl (by kernel_rfl) (by kernel_rfl) (by kernel_rfl) (fun _ _ _ _ _ h => h) rfl rfl rfl (y_setNe (withS (withS s0 0 (31 + 1 - 0)) 127 (127 + 1 - 127)) s0 rfl rfl) ?_
                                refine a_do1 4 (by kernel_rfl) ?_
                                refine a_op 4 rfl ?_
                                refine g_stN 5 rfl rfl rfl (by kernel_rfl) rfl rfl rfl rfl ?_
                                simp only [List.set_cons_zero, List.set_cons_succ]
                                refine g_nil ?_
                                refine a_take 5 rfl (by kernel_rfl) (by kernel_rfl) (by kernel_rfl) (fun _ _ _ _ _ h => h) rfl rfl rfl (y_assign rfl) ?_
                                refine a_done (by kernel_rfl) ?_
                                refine g_then (g_ret ?_)
                                refine g_end_cell2 5 Try.results37 rfl rfl rfl Try.isAgg27 Try.sizeOf27 rfl ?_
                                exact fun w hS => ⟨((withS (withS s0 0 (31 + 1 - 0)) 127 (127 + 1 - 127)), _), rfl, (hS.sub (List.nil_sublist _)).below⟩
                              · skip
                                refine a_op 4 rfl ?_
                                refine g_stN 5 rfl rfl rfl (by kernel_rfl) rfl rfl rfl rfl ?_
                                simp only [List.set_cons_zero, List.set_cons_succ]
                                refine g_nil ?_
                                refine a_do1 1 (by kernel_rfl) ?_
                                refine a_op 1 rfl ?_
                                refine g_val rfl rfl rfl (y_ldN (vs := (s4C (withS (withS s0 0 (31 + 1 - 0)) 127 (127 + 1 - 127)))) 4 rfl Try.isAgg27 Try.sizeOf27 rfl rfl rfl) ?_
                                refine g_nil ?_
                                refine a_take 3 rfl (by kernel_rfl) (by kernel_rfl) (by kernel_rfl) (fun _ _ _ _ _ h => h) rfl rfl rfl (y_setNe (withS (withS s0 0 (31 + 1 - 0)) 127 (127 + 1 - 127)) s0 rfl rfl) ?_
                                refine a_take 5 rfl (by kernel_rfl) (by kernel_rfl) (by kernel_rfl) (fun _ _ _ _ _ h => h) rfl rfl rfl (y_assign rfl) ?_
                                refine a_done (by kernel_rfl) ?_
                                refine g_then (g_ret ?_)
                                refine g_end_cell2 5 Try.results37 rfl rfl rfl Try.isAgg27 Try.sizeOf27 rfl ?_
                                exact fun w hS => ⟨((withS (withS s0 0 (31 + 1 - 0)) 127 (127 + 1 - 127)), _), rfl, (hS.sub (List.nil_sublist _)).below⟩
                            · skip
                              refine a_op 1 rfl ?_
                              refine g_val rfl rfl rfl (y_ldN (vs := (s4C (withS (withS s0 0 (31 + 1 - 0)) 127 (127 + 1 - 127)))) 4 rfl Try.isAgg27 Try.sizeOf27 rfl rfl rfl) ?_
                              refine g_nil ?_
                              refine a_take 3 rfl (by kernel_rfl) (by kernel_rfl) (by kernel_rfl) (fun _ _ _ _ _ h => h) rfl rfl rfl (y_setNe (withS (withS s0 0 (31 + 1 - 0)) 127 (127 + 1 - 127)) s0 rfl rfl) ?_
                              refine a_do1 0 (by kernel_rfl) ?_
                              refine a_op 0 rfl ?_
                              refine g_val rfl rfl rfl (y_ldN (vs := (s4C (withS (withS s0 0 (31 + 1 - 0)) 127 (127 + 1 - 127)))) 4 rfl Try.isAgg27 Try.sizeOf27 rfl rfl rfl) ?_
                              refine g_nil ?_
                              refine a_do1 4 (by kernel_rfl) ?_
                              refine a_op 4 rfl ?_
                              refine g_stN 5 rfl rfl rfl (by kernel_rfl) rfl rfl rfl rfl ?_
                              simp only [List.set_cons_zero, List.set_cons_succ]
                              refine g_nil ?_
                              refine a_take 5 rfl (by kernel_rfl) (by kernel_rfl) (by kernel_rfl) (fun _ _ _ _ _ h => h) rfl rfl rfl (y_assign rfl) ?_
                              refine a_done (by kernel_rfl) ?_
                              refine g_then (g_ret ?_)
                              refine g_end_cell2 5 Try.results37 rfl rfl rfl Try.isAgg27 Try.sizeOf27 rfl ?_
                              exact fun w hS => ⟨((withS (withS s0 0 (31 + 1 - 0)) 127 (127 + 1 - 127)), _), rfl, (hS.sub (List.nil_sublist _)).below⟩
                          · skip
                            refine g_cond_f rfl (g_seq (g_ops ?_))
                            refine g_val rfl rfl rfl (y_seq rfl rfl) ?_
                            refine g_val rfl rfl rfl (y_assign rfl) ?_
                            refine g_nil (g_then ?_)
                            first | refine g_casep 69 rfl (fun h25 => ?_) (fun h25 => ?_) | refine g_caseb 69 rfl (fun h25 => ?_) (fun h25 => ?_)
                            · skip
                              refine g_cond_t rfl (g_ops ?_)
                              refine g_val rfl rfl rfl (y_ldN (vs := (s4C (withS s0 48 (57 + 1 - 48)))) 3 rfl Try.isAgg27 Try.sizeOf27 rfl rfl rfl) ?_
                              refine g_call1 rfl rfl rfl Try.call24 (fun w hS => cwith_any (withS s0 48 (57 + 1 - 48)) 65 70 (by decide) (by decide) w) ?_
                              refine g_call1 rfl rfl rfl Try.call24 (fun w hS => cwith_any (withS (withS s0 48 (57 + 1 - 48)) 65 (70 + 1 - 65)) 97 102 (by decide) (by decide) w) ?_
                              refine g_stN 4 rfl rfl rfl (by kernel_rfl) rfl rfl rfl rfl ?_
                              simp only [List.set_cons_zero, List.set_cons_succ]
                              refine g_nil (g_in_normal (g_then (g_seq ?_)))
                              refine a_start (by kernel_rfl) ?_
                              refine a_take (v := .agg (s4C s0).toArray) 2 rfl (by kernel_rfl) (by kernel_rfl) (by kernel_rfl) (fun _ _ _ _ _ h => h) rfl rfl rfl (y_build (offs := []) rfl Try.zeroValue27 (by kernel_rfl)) ?_
                              refine a_do2 0 1 (by kernel_rfl) ?_ ?_
                              · skip
                                refine a_op 0 rfl ?_
                                refine g_val rfl rfl rfl (y_ldN (vs := (s4C (withS (withS (withS s0 48 (57 + 1 - 48)) 65 (70 + 1 - 65)) 97 (102 + 1 - 97)))) 4 rfl Try.isAgg27 Try.sizeOf27 rfl rfl rfl) ?_
                                refine g_nil ?_
                                refine a_do2 1 4 (by kernel_rfl) ?_ ?_
                                · skip
                                  refine a_op 1 rfl ?_
                                  refine g_val rfl rfl rfl (y_ldN (vs := (s4C (withS (withS (withS s0 48 (57 + 1 - 48)) 65 (70 + 1 - 65)) 97 (102 + 1 - 97)))) 4 rfl Try.isAgg27 Try.sizeOf27 rfl rfl rfl) ?_
                                  refine g_nil ?_
                                  refine a_take 3 rfl (by kernel_rfl) (by kernel_rfl) (by kernel_rfl) (fun _ _ _ _ _ h => h) rfl rfl rfl (y_setNe (withS (withS (withS s0 48 (57 + 1 - 48)) 65 (70 + 1 - 65)) 97 (102 + 1 - 97)) s0 rfl rfl) ?_
                                  refine a_do1 4 (by kernel_rfl) ?_
                                  refine a_op 4 rfl ?_
                                  refine g_stN 5 rfl rfl rfl (by kernel_rfl) rfl rfl rfl rfl ?_
                                  simp only [List.set_cons_zero, List.set_cons_succ]
                                  refine g_nil ?_
                                  refine a_take 5 rfl (by kernel_rfl) (by kernel_rfl) (by kernel_rfl) (fun _ _ _ _ _ h => h) rfl rfl rfl (y_assign rfl) ?_
                                  refine a_done (by kernel_rfl) ?_
                                  refine g_then (g_ret ?_)
                                  refine g_end_cell2 5 Try.results37 rfl rfl rfl Try.isAgg27 Try.sizeOf27 rfl ?_
                                  exact fun w hS => ⟨((withS (withS (withS s0 48 (57 + 1 - 48)) 65 (70 + 1 - 65)) 97 (102 + 1 - 97)), _), rfl, (hS.sub (List.nil_sublist _)).below⟩
                                · skip
                                  refine a_op 4 rfl ?_
                                  refine g_stN 5 rfl rfl rfl (by kernel_rfl) rfl rfl rfl rfl ?_
                                  simp only [List.set_cons_zero, List.set_cons_succ]
                                  refine g_nil ?_
                                  refine a_do1 1 (by kernel_rfl) ?_
                                  refine a_op 1 rfl ?_
                                  refine g_val rfl rfl rfl (y_ldN (vs := (s4C (withS (withS (withS s0 48 (57 + 1 - 48)) 65 (70 + 1 - 65)) 97 (102 + 1 - 97)))) 4 rfl Try.isAgg27 Try.sizeOf27 rfl rfl rfl) ?_
                                  refine g_nil ?_
                                  refine a_take 3 rfl (by kernel_rfl) (by kernel_rfl) (by kernel_rfl) (fun _ _ _ _ _ h => h) rfl rfl rfl (y_setNe (withS (withS (withS s0 48 (57 + 1 - 48)) 65 (70 + 1 - 65)) 97 (102 + 1 - 97)) s0 rfl rfl) ?_
                                  refine a_take 5 rfl (by kernel_rfl) (by kernel_rfl) (by kernel_rfl) (fun _ _ _ _ _ h => h) rfl rfl rfl (y_assign rfl) ?_
                                  refine a_done (by kernel_rfl) ?_
                                  refine g_then (g_ret ?_)
                                  refine g_end_cell2 5 Try.results37 rfl rfl rfl Try.isAgg27 Try.sizeOf27 rfl ?_
                                  exact fun w hS => ⟨((withS (withS (withS s0 48 (57 + 1 - 48)) 65 (70 + 1 - 65)) 97 (102 + 1 - 97)), _), rfl, (hS.sub (List.nil_sublist _)).below⟩
                              · skip
                                refine a_op 1 rfl ?_
                                refine g_val rfl rfl rfl (y_ldN (vs := (s4C (withS (withS (withS s0 48 (57 + 1 - 48)) 65 (70 + 1 - 65)) 97 (102 + 1 - 97)))) 4 rfl Try.isAgg27 Try.sizeOf27 rfl rfl rfl) ?_
                                refine g_nil ?_
                                refine a_take 3 rfl (by kernel_rfl) (by kernel_rfl) (by kernel_rfl) (fun _ _ _ _ _ h => h) rfl rfl rfl (y_setNe (withS (withS (withS s0 48 (57 + 1 - 48)) 65 (70 + 1 - 65)) 97 (102 + 1 - 97)) s0 rfl rfl) ?_
                                refine a_do1 0 (by kernel_rfl) ?_
                                refine a_op 0 rfl ?_
                                refine g_val rfl rfl rfl (y_ldN (vs := (s4C (withS (withS (withS s0 48 (57 + 1 - 48)) 65 (70 + 1 - 65)) 97 (102 + 1 - 97)))) 4 rfl Try.isAgg27 Try.sizeOf27 rfl rfl rfl) ?_
                                refine g_nil ?_
                                refine a_do1 4 (by kernel_rfl) ?_
                                refine a_op 4 rfl ?_
                                refine g_stN 5 rfl rfl rfl (by kernel_rfl) rfl rfl rfl rfl ?_
                                simp only [List.set_cons_zero, List.set_cons_succ]
                                refine g_nil ?_
                                refine a_take 5 rfl (by kernel_rfl) (by kernel_rfl) (by kernel_rfl) (fun _ _ _ _ _ h => h) rfl rfl rfl (y_assign rfl) ?_
                                refine a_done (by kernel_rfl) ?_
                                refine g_then (g_ret ?_)
                                refine g_end_cell2 5 Try.results37 rfl rfl rfl Try.isAgg27 Try.sizeOf27 rfl ?_
                                exact fun w hS => ⟨((withS (withS (withS s0 48 (57 + 1 - 48)) 65 (70 + 1 - 65)) 97 (102 + 1 - 97)), _), rfl, (hS.sub (List.nil_sublist _)).below⟩
                            · skip
                              refine g_cond_f rfl (g_skip (g_in_normal (g_then (g_seq ?_))))
                              refine a_start (by kernel_rfl) ?_
                              refine a_take (v := .agg (s4C s0).toArray) 2 rfl (by kernel_rfl) (by kernel_rfl) (by kernel_rfl) (fun _ _ _ _ _ h => h) rfl rfl rfl (y_build (offs := []) rfl Try.zeroValue27 (by kernel_rfl)) ?_
                              refine a_do2 0 1 (by kernel_rfl) ?_ ?_
                              · skip
                                refine a_op 0 rfl ?_
                                refine g_val rfl rfl rfl (y_ldN (vs := (s4C s0)) 4 rfl Try.isAgg27 Try.sizeOf27 rfl rfl rfl) ?_
                                refine g_nil ?_
                                refine a_do2 1 4 (by kernel_rfl) ?_ ?_
                                · skip
                                  refine a_op 1 rfl ?_
                                  refine g_val rfl rfl rfl (y_ldN (vs := (s4C s0)) 4 rfl Try.isAgg27 Try.sizeOf27 rfl rfl rfl) ?_
                                  refine g_nil ?_
                                  refine a_take 3 rfl (by kernel_rfl) (by kernel_rfl) (by kernel_rfl) (fun _ _ _ _ _ h => h) rfl rfl rfl (y_setNe s0 s0 rfl rfl) ?_
                                  refine a_do1 4 (by kernel_rfl) ?_
                                  refine a_op 4 rfl ?_
                                  refine g_stN 5 rfl rfl rfl (by kernel_rfl) rfl rfl rfl rfl ?_
                                  simp only [List.set_cons_zero, List.set_cons_succ]
                                  refine g_nil ?_
                                  refine a_take 5 rfl (by kernel_rfl) (by kernel_rfl) (by kernel_rfl) (fun _ _ _ _ _ h => h) rfl rfl rfl (y_assign rfl) ?_
                                  refine a_done (by kernel_rfl) ?_
                                  refine g_then (g_ret ?_)
                                  refine g_end_cell2 5 Try.results37 rfl rfl rfl Try.isAgg27 Try.sizeOf27 rfl ?_
                                  exact fun w hS => ⟨(s0, _), rfl, (hS.sub (List.nil_sublist _)).below⟩
                                · skip
                                  refine a_op 4 rfl ?_
                                  refine g_stN 5 rfl rfl rfl (by kernel_rfl) rfl rfl rfl rfl ?_
                                  simp only [List.set_cons_zero, List.set_cons_succ]
                                  refine g_nil ?_
                                  refine a_do1 1 (by kernel_rfl) ?_
                                  refine a_op 1 rfl ?_
                                  refine g_val rfl rfl rfl (y_ldN (vs := (s4C s0)) 4 rfl Try.isAgg27 Try.sizeOf27 rfl rfl rfl) ?_
                                  refine g_nil ?_
                                  refine a_take 3 rfl (by kernel_rfl) (by kernel_rfl) (by kernel_rfl) (fun _ _ _ _ _ h => h) rfl rfl rfl (y_setNe s0 s0 rfl rfl) ?_
                                  refine a_take 5 rfl (by kernel_rfl) (by kernel_rfl) (by kernel_rfl) (fun _ _ _ _ _ h => h) rfl rfl rfl (y_assign rfl) ?_
                                  refine a_done (by kernel_rfl) ?_
                                  refine g_then (g_ret ?_)
                                  refine g_end_cell2 5 Try.results37 rfl rfl rfl Try.isAgg27 Try.sizeOf27 rfl ?_
                                  exact fun w hS => ⟨(s0, _), rfl, (hS.sub (List.nil_sublist _)).below⟩
                              · skip
                                refine a_op 1 rfl ?_
                                refine g_val rfl rfl rfl (y_ldN (vs := (s4C s0)) 4 rfl Try.isAgg27 Try.sizeOf27 rfl rfl rfl) ?_
                                refine g_nil ?_
                                refine a_take 3 rfl (by kernel_rfl) (by kernel_rfl) (by kernel_rfl) (fun _ _ _ _ _ h => h) rfl rfl rfl (y_setNe s0 s0 rfl rfl) ?_
                                refine a_do1 0 (by kernel_rfl) ?_
                                refine a_op 0 rfl ?_
                                refine g_val rfl rfl rfl (y_ldN (vs := (s4C s0)) 4 rfl Try.isAgg27 Try.sizeOf27 rfl rfl rfl) ?_
                                refine g_nil ?_
                                refine a_do1 4 (by kernel_rfl) ?_
                                refine a_op 4 rfl ?_
                                refine g_stN 5 rfl rfl rfl (by kernel_rfl) rfl rfl rfl rfl ?_
                                simp only [List.set_cons_zero, List.set_cons_succ]
                                refine g_nil ?_
                                refine a_take 5 rfl (by kernel_rfl) (by kernel_rfl) (by kernel_rfl) (fun _ _ _ _ _ h => h) rfl rfl rfl (y_assign rfl) ?_
                                refine a_done (by kernel_rfl) ?_
                                refine g_then (g_ret ?_)
                                refine g_end_cell2 5 Try.results37 rfl rfl rfl Try.isAgg27 Try.sizeOf27 rfl ?_
                                exact fun w hS => ⟨(s0, _), rfl, (hS.sub (List.nil_sublist _)).below⟩
    · intro hj
      refine h_start (St w [] [.cells p5 27 (s4C (withS s0 65 (90 + 1 - 65))), .cells p6 27 (s4C (withS s0 97 (122 + 1 - 97))), .cells p7 27 (s4C (withS s0 48 (57 + 1 - 48)))]) (by kernel_rfl) ?_
      refine h_take 0 rfl (by kernel_rfl) (by kernel_rfl) (by kernel_rfl) (fun _ _ _ _ _ h => h) rfl rfl rfl (fun w h => h.sub (.cons_cons _ (.cons_cons _ (.cons_cons _ (.cons _ (.cons _ .slnil)))))) (y_ldN (vs := (s4C (withS s0 65 (90 + 1 - 65)))) 0 rfl Try.isAgg27 Try.sizeOf27 rfl rfl rfl) ?_
      refine h_take 1 rfl (by kernel_rfl) (by kernel_rfl) (by kernel_rfl) (fun _ _ _ _ _ h => h) rfl rfl rfl (fun w h => h.sub (.cons_cons _ (.cons_cons _ (.cons_cons _ (.cons _ (.cons _ .slnil)))))) (y_ldN (vs := (s4C (withS s0 97 (122 + 1 - 97)))) 1 rfl Try.isAgg27 Try.sizeOf27 rfl rfl rfl) ?_
      refine h_take 3 rfl (by kernel_rfl) (by kernel_rfl) (by kernel_rfl) (fun _ _ _ _ _ h => h) rfl rfl rfl (fun w h => h.sub (.cons_cons _ (.cons_cons _ (.cons_cons _ (.cons _ (.cons _ .slnil)))))) (y_ldN (vs := (s4C (withS s0 48 (57 + 1 - 48)))) 2 rfl Try.isAgg27 Try.sizeOf27 rfl rfl rfl) ?_
      refine h_doN [2, 5] (by kernel_rfl) (by simp) ⟨?_, ?_, trivial⟩
      · skip
        refine w_op 2 rfl ?_
        refine g_callE (fun s' : Nat → Int => .agg (s4C s').toArray) rfl rfl rfl Try.call38 (fun w hS => both_any (withS s0 65 (90 + 1 - 65)) (withS s0 97 (122 + 1 - 97)) w) (fun u26 => ?_)
        refine g_nil ?_
        refine h_and (fun w h => h.sub (.cons_cons _ (.cons_cons _ (.cons_cons _ (.cons _ (.cons _ .slnil)))))) ?_
        refine h_doN [4, 5] (by kernel_rfl) (by simp) ⟨?_, ?_, trivial⟩
        · skip
          refine w_op 4 rfl ?_
          refine g_callE (fun s' : Nat → Int => .agg (s4C s').toArray) rfl rfl rfl Try.call38 (fun w hS => both_any u26 (withS s0 48 (57 + 1 - 48)) w) (fun u27 => ?_)
          refine g_nil ?_
          refine h_and (fun w h => h.sub (.cons_cons _ (.cons_cons _ (.cons_cons _ (.cons _ (.cons _ .slnil)))))) ?_
          refine h_do 5 rfl (by kernel_rfl) ?_
          refine g_alloc rfl rfl Try.zeroValue27 rfl (fun b3 => ?_)
          refine g_nil ?_
          refine h_and (fun w h => h.sub (.cons _ (.cons_cons _ (.cons_cons _ (.cons_cons _ (.cons _ (.cons _ .slnil))))))) ?_
          refine h_do 6 rfl (by kernel_rfl) ?_
          refine g_stN 0 rfl rfl rfl (by kernel_rfl) rfl rfl rfl rfl ?_
          simp only [List.set_cons_zero]
          refine g_nil ?_
          refine h_and (fun w h => h.sub (.cons _ (.cons_cons _ (.cons_cons _ (.cons_cons _ (.cons _ (.cons _ .slnil))))))) ?_
          refine h_done (by kernel_rfl) ?_
          exact g_fall (hj (u27, b3)) [0, 2, 3, 4, 5, 6, 7, 8] rfl (fun w h => h.sub (.cons_cons _ (.cons_cons _ (.cons_cons _ (.cons_cons _ (.cons_cons _ (.cons_cons _ .slnil)))))))
        · skip
          refine w_op 5 rfl ?_
          refine g_alloc rfl rfl Try.zeroValue27 rfl (fun b4 => ?_)
          refine g_nil ?_
          refine h_and (fun w h => h.sub (.cons _ (.cons_cons _ (.cons_cons _ (.cons_cons _ (.cons _ (.cons _ .slnil))))))) ?_
          refine h_do 4 rfl (by kernel_rfl) ?_
          refine g_callE (fun s' : Nat → Int => .agg (s4C s').toArray) rfl rfl rfl Try.call38 (fun w hS => both_any u26 (withS s0 48 (57 + 1 - 48)) w) (fun u28 => ?_)
          refine g_nil ?_
          refine h_and (fun w h => h.sub (.cons _ (.cons_cons _ (.cons_cons _ (.cons_cons _ (.cons _ (.cons _ .slnil))))))) ?_
          refine h_do 6 rfl (by kernel_rfl) ?_
          refine g_stN 0 rfl rfl rfl (by kernel_rfl) rfl rfl rfl rfl ?_
          simp only [List.set_cons_zero]
          refine g_nil ?_
          refine h_and (fun w h => h.sub (.cons _ (.cons_cons _ (.cons_cons _ (.cons_cons _ (.cons _ (.cons _ .slnil))))))) ?_
          refine h_done (by kernel_rfl) ?_
          exact g_fall (hj (u28, b4)) [0, 2, 3, 4, 5, 6, 7, 8] rfl (fun w h => h.sub (.cons_cons _ (.cons_cons _ (.cons_cons _ (.cons_cons _ (.cons_cons _ (.cons_cons _ .slnil)))))))
      · skip
        refine w_op 5 rfl ?_
        refine g_alloc rfl rfl Try.zeroValue27 rfl (fun b5 => ?_)
        refine g_nil ?_
        refine h_and (fun w h => h.sub (.cons _ (.cons_cons _ (.cons_cons _ (.cons_cons _ (.cons _ (.cons _ .slnil))))))) ?_
        refine h_do 2 rfl (by kernel_rfl) ?_
        refine g_callE (fun s' : Nat → Int => .agg (s4C s').toArray) rfl rfl rfl Try.call38 (fun w hS => both_any (withS s0 65 (90 + 1 - 65)) (withS s0 97 (122 + 1 - 97)) w) (fun u29 => ?_)
        refine g_nil ?_
        refine h_and (fun w h => h.sub (.cons _ (.cons_cons _ (.cons_cons _ (.cons_cons _ (.cons _ (.cons _ .slnil))))))) ?_
        refine h_do 4 rfl (by kernel_rfl) ?_
        refine g_callE (fun s' : Nat → Int => .agg (s4C s').toArray) rfl rfl rfl Try.call38 (fun w hS => both_any u29 (withS s0 48 (57 + 1 - 48)) w) (fun u30 => ?_)
        refine g_nil ?_
        refine h_and (fun w h => h.sub (.cons _ (.cons_cons _ (.cons_cons _ (.cons_cons _ (.cons _ (.cons _ .slnil))))))) ?_
        refine h_do 6 rfl (by kernel_rfl) ?_
        refine g_stN 0 rfl rfl rfl (by kernel_rfl) rfl rfl rfl rfl ?_
        simp only [List.set_cons_zero]
        refine g_nil ?_
        refine h_and (fun w h => h.sub (.cons _ (.cons_cons _ (.cons_cons _ (.cons_cons _ (.cons _ (.cons _ .slnil))))))) ?_
        refine h_done (by kernel_rfl) ?_
        exact g_fall (hj (u30, b5)) [0, 2, 3, 4, 5, 6, 7, 8] rfl (fun w h => h.sub (.cons_cons _ (.cons_cons _ (.cons_cons _ (.cons_cons _ (.cons_cons _ (.cons_cons _ .slnil)))))))
  · intro hj
    refine h_start (St w [] [.cells b2 27 (s4C s0)]) (by kernel_rfl) ?_
    refine h_take 0 rfl (by kernel_rfl) (by kernel_rfl) (by kernel_rfl) (fun _ _ _ _ _ h => h) rfl rfl rfl (fun w h => h.sub (.cons_cons _ (.cons _ .slnil))) (y_ldN (vs := (s4C s0)) 0 rfl Try.isAgg27 Try.sizeOf27 rfl rfl rfl) ?_
    refine h_take 2 rfl (by kernel_rfl) (by kernel_rfl) (by kernel_rfl) (fun _ _ _ _ _ h => h) rfl rfl rfl (fun w h => h.sub (.cons_cons _ (.cons _ .slnil))) (y_ldN (vs := (s4C s0)) 0 rfl Try.isAgg27 Try.sizeOf27 rfl rfl rfl) ?_
    refine h_take 4 rfl (by kernel_rfl) (by kernel_rfl) (by kernel_rfl) (fun _ _ _ _ _ h => h) rfl rfl rfl (fun w h => h.sub (.cons_cons _ (.cons _ .slnil))) (y_ldN (vs := (s4C s0)) 0 rfl Try.isAgg27 Try.sizeOf27 rfl rfl rfl) ?_
    refine h_meet (α := Nat × Nat × Nat) (fun x => [(0, .string s), (2, .pointer (some ⟨b1, 0, none⟩)), (3, .bool false), (4, .pointer (some ⟨b2, 0, none⟩)), (5, .pointer (some ⟨x.1, 0, none⟩)), (6, .pointer (some ⟨x.2.1, 0, none⟩)), (7, .pointer (some ⟨x.2.2, 0, none⟩)), (10, .agg (s4C (withS s0 65 (90 + 1 - 65))).toArray), (12, .agg (s4C (withS s0 97 (122 + 1 - 97))).toArray), (14, .agg (s4C (withS s0 48 (57 + 1 - 48))).toArray)]) (fun x => [.cells x.1 27 (s4C s0), .cells x.2.1 27 (s4C s0), .cells x.2.2 27 (s4C s0), .cells b2 27 (s4C s0), .cells b1 27 (s4C s0)]) 3 #[true, true, true, true, true, true, true, true, true, false, false, false] ?_ ?_
    · skip
      rintro ⟨p5, p6, p7⟩
      try dsimp only
      refine h_do 9 rfl (by kernel_rfl) ?_
      refine g_stN 0 rfl rfl rfl (by kernel_rfl) rfl rfl rfl rfl ?_
      simp only [List.set_cons_zero]
      refine g_nil ?_
      refine h_and (fun w h => h.sub (.cons _ (.cons _ (.cons _ (.cons_cons _ (.cons _ .slnil)))))) ?_
      refine h_do 10 rfl (by kernel_rfl) ?_
      refine g_stN 1 rfl rfl rfl (by kernel_rfl) rfl rfl rfl rfl ?_
      simp only [List.set_cons_zero, List.set_cons_succ]
      refine g_nil ?_
      refine h_and (fun w h => h.sub (.cons _ (.cons _ (.cons _ (.cons_cons _ (.cons _ .slnil)))))) ?_
      refine h_do 11 rfl (by kernel_rfl) ?_
      refine g_stN 2 rfl rfl rfl (by kernel_rfl) rfl rfl rfl rfl ?_
      simp only [List.set_cons_zero, List.set_cons_succ]
      refine g_nil ?_
      refine h_and (fun w h => h.sub (.cons _ (.cons _ (.cons _ (.cons_cons _ (.cons _ .slnil)))))) ?_
      refine h_done (by kernel_rfl) ?_
      exact g_fall (hj (p5, p6, p7)) [0, 2, 3, 4, 5, 6, 7] rfl (fun w h => h.sub (.cons_cons _ (.cons_cons _ (.cons_cons _ (.cons_cons _ (.cons_cons _ .slnil))))))
    · intro hm
      refine h_doN [1, 6, 7, 8] (by kernel_rfl) (by simp) ⟨?_, ?_, ?_, ?_, trivial⟩
      · skip
        refine w_op 1 rfl ?_
        refine g_call1 rfl rfl rfl Try.call24 (fun w hS => cwith_any s0 65 90 (by decide) (by decide) w) ?_
        refine g_nil ?_
        refine h_and (fun w h => h.sub (.cons_cons _ (.cons _ .slnil))) ?_
        refine h_doN [3, 6, 7, 8] (by kernel_rfl) (by simp) ⟨?_, ?_, ?_, ?_, trivial⟩
        · skip
          refine w_op 3 rfl ?_
          refine g_call1 rfl rfl rfl Try.call24 (fun w hS => cwith_any s0 97 122 (by decide) (by decide) w) ?_
          refine g_nil ?_
          refine h_and (fun w h => h.sub (.cons_cons _ (.cons _ .slnil))) ?_
          refine h_doN [5, 6, 7, 8] (by kernel_rfl) (by simp) ⟨?_, ?_, ?_, ?_, trivial⟩
          · skip
            refine w_op 5 rfl ?_
            refine g_call1 rfl rfl rfl Try.call24 (fun w hS => cwith_any s0 48 57 (by decide) (by decide) w) ?_
            refine g_nil ?_
            refine h_and (fun w h => h.sub (.cons_cons _ (.cons _ .slnil))) ?_
            refine h_doN [6, 7, 8] (by kernel_rfl) (by simp) ⟨?_, ?_, ?_, trivial⟩
            · skip
              refine w_op 6 rfl ?_
              refine g_alloc rfl rfl Try.zeroValue27 rfl (fun b6 => ?_)
              refine g_nil ?_
              refine h_and (fun w h => h.sub (.cons _ (.cons_cons _ (.cons _ .slnil)))) ?_
              refine h_doN [7, 8] (by kernel_rfl) (by simp) ⟨?_, ?_, trivial⟩
              · skip
                refine w_op 7 rfl ?_
                refine g_alloc rfl rfl Try.zeroValue27 rfl (fun b7 => ?_)
                refine g_nil ?_
                refine h_and (fun w h => h.sub (.cons _ (.cons _ (.cons_cons _ (.cons _ .slnil))))) ?_
                refine h_do 8 rfl (by kernel_rfl) ?_
                refine g_alloc rfl rfl Try.zeroValue27 rfl (fun b8 => ?_)
                refine g_nil ?_
                refine h_and (fun w h => h.sub (.cons _ (.cons _ (.cons _ (.cons_cons _ (.cons _ .slnil)))))) ?_
                refine g_perm (.trans (.cons _ (.swap _ _ _)) (.trans (.swap _ _ _) (.cons _ (.swap _ _ _)))) ?_
                exact h_fall (hm (b6, b7, b8)) [0, 2, 3, 4, 5, 6, 7, 10, 12, 14] (by kernel_rfl) rfl (fun w h => h.sub (.cons_cons _ (.cons_cons _ (.cons_cons _ (.cons_cons _ (.cons_cons _ .slnil))))))
              · skip
                refine w_op 8 rfl ?_
                refine g_alloc rfl rfl Try.zeroValue27 rfl (fun b9 => ?_)
                refine g_nil ?_
                refine h_and (fun w h => h.sub (.cons _ (.cons _ (.cons_cons _ (.cons _ .slnil))))) ?_
                refine h_do 7 rfl (by kernel_rfl) ?_
                refine g_alloc rfl rfl Try.zeroValue27 rfl (fun b10 => ?_)
                refine g_nil ?_
                refine h_and (fun w h => h.sub (.cons _ (.cons _ (.cons _ (.cons_cons _ (.cons _ .slnil)))))) ?_
                refine g_perm (.trans (.cons _ (.swap _ _ _)) (.swap _ _ _)) ?_
                exact h_fall (hm (b6, b10, b9)) [0, 2, 3, 4, 5, 6, 7, 10, 12, 14] (by kernel_rfl) rfl (fun w h => h.sub (.cons_cons _ (.cons_cons _ (.cons_cons _ (.cons_cons _ (.cons_cons _ .slnil))))))
            · skip
              refine w_op 7 rfl ?_
              refine g_alloc rfl rfl Try.zeroValue27 rfl (fun b11 => ?_)
              refine g_nil ?_
              refine h_and (fun w h => h.sub (.cons _ (.cons_cons _ (.cons _ .slnil)))) ?_
              refine h_doN [6, 8] (by kernel_rfl) (by simp) ⟨?_, ?_, trivial⟩
              · skip
                refine w_op 6 rfl ?_
                refine g_alloc rfl rfl Try.zeroValue27 rfl (fun b12 => ?_)
                refine g_nil ?_
                refine h_and (fun w h => h.sub (.cons _ (.cons _ (.cons_cons _ (.cons _ .slnil))))) ?_
                refine h_do 8 rfl (by kernel_rfl) ?_
                refine g_alloc rfl rfl Try.zeroValue27 rfl (fun b13 => ?_)
                refine g_nil ?_
                refine h_and (fun w h => h.sub (.cons _ (.cons _ (.cons _ (.cons_cons _ (.cons _ .slnil)))))) ?_
                refine g_perm (.trans (.swap _ _ _) (.cons _ (.swap _ _ _))) ?_
                exact h_fall (hm (b12, b11, b13)) [0, 2, 3, 4, 5, 6, 7, 10, 12, 14] (by kernel_rfl) rfl (fun w h => h.sub (.cons_cons _ (.cons_cons _ (.cons_cons _ (.cons_cons _ (.cons_cons _ .slnil))))))
              · skip
                refine w_op 8 rfl ?_
                refine g_alloc rfl rfl Try.zeroValue27 rfl (fun b14 => ?_)
                refine g_nil ?_
                refine h_and (fun w h => h.sub (.cons _ (.cons _ (.cons_cons _ (.cons _ .slnil))))) ?_
                refine h_do 6 rfl (by kernel_rfl) ?_
                refine g_alloc rfl rfl Try.zeroValue27 rfl (fun b15 => ?_)
                refine g_nil ?_
                refine h_and (fun w h => h.sub (.cons _ (.cons _ (.cons _ (.cons_cons _ (.cons _ .slnil)))))) ?_
                refine g_perm (.cons _ (.swap _ _ _)) ?_
                exact h_fall (hm (b15, b11, b14)) [0, 2, 3, 4, 5, 6, 7, 10, 12, 14] (by kernel_rfl) rfl (fun w h => h.sub (.cons_cons _ (.cons_cons _ (.cons_cons _ (.cons_cons _ (.cons_cons _ .slnil))))))
            · skip
              refine w_op 8 rfl ?_
              refine g_alloc rfl rfl Try.zeroValue27 rfl (fun b16 => ?_)
              refine g_nil ?_
              refine h_and (fun w h => h.sub (.cons _ (.cons_cons _ (.cons _ .slnil)))) ?_
              refine h_doN [6, 7] (by kernel_rfl) (by simp) ⟨?_, ?_, trivial⟩
              · skip
                refine w_op 6 rfl ?_
                refine g_alloc rfl rfl Try.zeroValue27 rfl (fun b17 => ?_)
                refine g_nil ?_
                refine h_and (fun w h => h.sub (.cons _ (.cons _ (.cons_cons _ (.cons _ .slnil))))) ?_
                refine h_do 7 rfl (by kernel_rfl) ?_
                refine g_alloc rfl rfl Try.zeroValue27 rfl (fun b18 => ?_)
                refine g_nil ?_
                refine h_and (fun w h => h.sub (.cons _ (.cons _ (.cons _ (.cons_cons _ (.cons _ .slnil)))))) ?_
                refine g_perm (.swap _ _ _) ?_
                exact h_fall (hm (b17, b18, b16)) [0, 2, 3, 4, 5, 6, 7, 10, 12, 14] (by kernel_rfl) rfl (fun w h => h.sub (.cons_cons _ (.cons_cons _ (.cons_cons _ (.cons_cons _ (.cons_cons _ .slnil))))))
              · skip
                refine w_op 7 rfl ?_
                refine g_alloc rfl rfl Try.zeroValue27 rfl (fun b19 => ?_)
                refine g_nil ?_
                refine h_and (fun w h => h.sub (.cons _ (.cons _ (.cons_cons _ (.cons _ .slnil))))) ?_
                refine h_do 6 rfl (by kernel_rfl) ?_
                refine g_alloc rfl rfl Try.zeroValue27 rfl (fun b20 => ?_)
                refine g_nil ?_
                refine h_and (fun w h => h.sub (.cons _ (.cons _ (.cons _ (.cons_cons _ (.cons _ .slnil)))))) ?_
                exact h_fall (hm (b20, b19, b16)) [0, 2, 3, 4, 5, 6, 7, 10, 12, 14] (by kernel_rfl) rfl (fun w h => h.sub (.cons_cons _ (.cons_cons _ (.cons_cons _ (.cons_cons _ (.cons_cons _ .slnil))))))
          · skip
            refine w_op 6 rfl ?_
            refine g_alloc rfl rfl Try.zeroValue27 rfl (fun b21 => ?_)
            refine g_nil ?_
            refine h_and (fun w h => h.sub (.cons _ (.cons_cons _ (.cons _ .slnil)))) ?_
            refine h_doN [5, 7, 8] (by kernel_rfl) (by simp) ⟨?_, ?_, ?_, trivial⟩
            · skip
              refine w_op 5 rfl ?_
              refine g_call1 rfl rfl rfl Try.call24 (fun w hS => cwith_any s0 48 57 (by decide) (by decide) w) ?_
              refine g_nil ?_
              refine h_and (fun w h => h.sub (.cons _ (.cons_cons _ (.cons _ .slnil)))) ?_
              refine h_doN [7, 8] (by kernel_rfl) (by simp) ⟨?_, ?_, trivial⟩
              · skip
                refine w_op 7 rfl ?_
                refine g_alloc rfl rfl Try.zeroValue27 rfl (fun b22 => ?_)
                refine g_nil ?_
                refine h_and (fun w h => h.sub (.cons _ (.cons _ (.cons_cons _ (.cons _ .slnil))))) ?_
                refine h_do 8 rfl (by kernel_rfl) ?_
                refine g_alloc rfl rfl Try.zeroValue27 rfl (fun b23 => ?_)
                refine g_nil ?_
                refine h_and (fun w h => h.sub (.cons _ (.cons _ (.cons _ (.cons_cons _ (.cons _ .slnil)))))) ?_
                refine g_perm (.trans (.cons _ (.swap _ _ _)) (.trans (.swap _ _ _) (.cons _ (.swap _ _ _)))) ?_
                exact h_fall (hm (b21, b22, b23)) [0, 2, 3, 4, 5, 6, 7, 10, 12, 14] (by kernel_rfl) rfl (fun w h => h.sub (.cons_cons _ (.cons_cons _ (.cons_cons _ (.cons_cons _ (.cons_cons _ .slnil))))))
              · skip
                refine w_op 8 rfl ?_
                refine g_alloc rfl rfl Try.zeroValue27 rfl (fun b24 => ?_)
                refine g_nil ?_
                refine h_and (fun w h => h.sub (.cons _ (.cons _ (.cons_cons _ (.cons _ .slnil))))) ?_
                refine h_do 7 rfl (by kernel_rfl) ?_
                refine g_alloc rfl rfl Try.zeroValue27 rfl (fun b25 => ?_)
                refine g_nil ?_
                refine h_and (fun w h => h.sub (.cons _ (.cons _ (.cons _ (.cons_cons _ (.cons _ .slnil)))))) ?_
                refine g_perm (.trans (.cons _ (.swap _ _ _)) (.swap _ _ _)) ?_
                exact h_fall (hm (b21, b25, b24)) [0, 2, 3, 4, 5, 6, 7, 10, 12, 14] (by kernel_rfl) rfl (fun w h => h.sub (.cons_cons _ (.cons_cons _ (.cons_cons _ (.cons_cons _ (.cons_cons _ .slnil))))))
            · skip
              refine w_op 7 rfl ?_
              refine g_alloc rfl rfl Try.zeroValue27 rfl (fun b26 => ?_)
              refine g_nil ?_
              refine h_and (fun w h => h.sub (.cons _ (.cons _ (.cons_cons _ (.cons _ .slnil))))) ?_
              refine h_doN [5, 8] (by kernel_rfl) (by simp) ⟨?_, ?_, trivial⟩
              · skip
                refine w_op 5 rfl ?_
                refine g_call1 rfl rfl rfl Try.call24 (fun w hS => cwith_any s0 48 57 (by decide) (by decide) w) ?_
                refine g_nil ?_
                refine h_and (fun w h => h.sub (.cons _ (.cons _ (.cons_cons _ (.cons _ .slnil))))) ?_
                refine h_do 8 rfl (by kernel_rfl) ?_
                refine g_alloc rfl rfl Try.zeroValue27 rfl (fun b27 => ?_)
                refine g_nil ?_
                refine h_and (fun w h => h.sub (.cons _ (.cons _ (.cons _ (.cons_cons _ (.cons _ .slnil)))))) ?_
                refine g_perm (.trans (.cons _ (.swap _ _ _)) (.trans (.swap _ _ _) (.cons _ (.swap _ _ _)))) ?_
                exact h_fall (hm (b21, b26, b27)) [0, 2, 3, 4, 5, 6, 7, 10, 12, 14] (by kernel_rfl) rfl (fun w h => h.sub (.cons_cons _ (.cons_cons _ (.cons_cons _ (.cons_cons _ (.cons_cons _ .slnil))))))
              · skip
                refine w_op 8 rfl ?_
                refine g_alloc rfl rfl Try.zeroValue27 rfl (fun b28 => ?_)
                refine g_nil ?_
                refine h_and (fun w h => h.sub (.cons _ (.cons _ (.cons _ (.cons_cons _ (.cons _ .slnil)))))) ?_
                refine h_do 5 rfl (by kernel_rfl) ?_
                refine g_call1 rfl rfl rfl Try.call24 (fun w hS => cwith_any s0 48 57 (by decide) (by decide) w) ?_
                refine g_nil ?_
                refine h_and (fun w h => h.sub (.cons _ (.cons _ (.cons _ (.cons_cons _ (.cons _ .slnil)))))) ?_
                refine g_perm (.trans (.cons _ (.swap _ _ _)) (.trans (.swap _ _ _) (.cons _ (.swap _ _ _)))) ?_
                exact h_fall (hm (b21, b26, b28)) [0, 2, 3, 4, 5, 6, 7, 10, 12, 14] (by kernel_rfl) rfl (fun w h => h.sub (.cons_cons _ (.cons_cons _ (.cons_cons _ (.cons_cons _ (.cons_cons _ .slnil))))))
            · skip
              refine w_op 8 rfl ?_
              refine g_alloc rfl rfl Try.zeroValue27 rfl (fun b29 => ?_)
              refine g_nil ?_
              refine h_and (fun w h => h.sub (.cons _ (.cons _ (.cons_cons _ (.cons _ .slnil))))) ?_
              refine h_doN [5, 7] (by kernel_rfl) (by simp) ⟨?_, ?_, trivial⟩
              · skip
                refine w_op 5 rfl ?_
                refine g_call1 rfl rfl rfl Try.call24 (fun w hS => cwith_any s0 48 57 (by decide) (by decide) w) ?_
                refine g_nil ?_
                refine h_and (fun w h => h.sub (.cons _ (.cons _ (.cons_cons _ (.cons _ .slnil))))) ?_
                refine h_do 7 rfl (by kernel_rfl) ?_
                refine g_alloc rfl rfl Try.zeroValue27 rfl (fun b30 => ?_)
                refine g_nil ?_
                refine h_and (fun w h => h.sub (.cons _ (.cons _ (.cons _ (.cons_cons _ (.cons _ .slnil)))))) ?_
                refine g_perm (.trans (.cons _ (.swap _ _ _)) (.swap _ _ _)) ?_
                exact h_fall (hm (b21, b30, b29)) [0, 2, 3, 4, 5, 6, 7, 10, 12, 14] (by kernel_rfl) rfl (fun w h => h.sub (.cons_cons _ (.cons_cons _ (.cons_cons _ (.cons_cons _ (.cons_cons _ .slnil))))))
              · skip
                refine w_op 7 rfl ?_
                refine g_alloc rfl rfl Try.zeroValue27 rfl (fun b31 => ?_)
                refine g_nil ?_
                refine h_and (fun w h => h.sub (.cons _ (.cons _ (.cons _ (.cons_cons _ (.cons _ .slnil)))))) ?_
                refine h_do 5 rfl (by kernel_rfl) ?_
                refine g_call1 rfl rfl rfl Try.call24 (fun w hS => cwith_any s0 48 57 (by decide) (by decide) w) ?_
                refine g_nil ?_
                refine h_and (fun w h => h.sub (.cons _ (.cons _ (.cons _ (.cons_cons _ (.cons _ .slnil)))))) ?_
                refine g_perm (.trans (.cons _ (.swap _ _ _)) (.swap _ _ _)) ?_
                exact h_fall (hm (b21, b31, b29)) [0, 2, 3, 4, 5, 6, 7, 10, 12, 14] (by kernel_rfl) rfl (fun w h => h.sub (.cons_cons _ (.cons_cons _ (.cons_cons _ (.cons_cons _ (.cons_cons _ .slnil))))))
          · skip
            refine w_op 7 rfl ?_
            refine g_alloc rfl rfl Try.zeroValue27 rfl (fun b32 => ?_)
            refine g_nil ?_
            refine h_and (fun w h => h.sub (.cons _ (.cons_cons _ (.cons _ .slnil)))) ?_
            refine h_doN [5, 6, 8] (by kernel_rfl) (by simp) ⟨?_, ?_, ?_, trivial⟩
            · skip
              refine w_op 5 rfl ?_
              refine g_call1 rfl rfl rfl Try.call24 (fun w hS => cwith_any s0 48 57 (by decide) (by decide) w) ?_
              refine g_nil ?_
              refine h_and (fun w h => h.sub (.cons _ (.cons_cons _ (.cons _ .slnil)))) ?_
              refine h_doN [6, 8] (by kernel_rfl) (by simp) ⟨?_, ?_, trivial⟩
              · skip
                refine w_op 6 rfl ?_
                refine g_alloc rfl rfl Try.zeroValue27 rfl (fun b33 => ?_)
                refine g_nil ?_
                refine h_and (fun w h => h.sub (.cons _ (.cons _ (.cons_cons _ (.cons _ .slnil))))) ?_
                refine h_do 8 rfl (by kernel_rfl) ?_
                refine g_alloc rfl rfl Try.zeroValue27 rfl (fun b34 => ?_)
                refine g_nil ?_
                refine h_and (fun w h => h.sub (.cons _ (.cons _ (.cons _ (.cons_cons _ (.cons _ .slnil)))))) ?_
                refine g_perm (.trans (.swap _ _ _) (.cons _ (.swap _ _ _))) ?_
                exact h_fall (hm (b33, b32, b34)) [0, 2, 3, 4, 5, 6, 7, 10, 12, 14] (by kernel_rfl) rfl (fun w h => h.sub (.cons_cons _ (.cons_cons _ (.cons_cons _ (.cons_cons _ (.cons_cons _ .slnil))))))
              · skip
                refine w_op 8 rfl ?_
                refine g_alloc rfl rfl Try.zeroValue27 rfl (fun b35 => ?_)
                refine g_nil ?_
                refine h_and (fun w h => h.sub (.cons _ (.cons _ (.cons_cons _ (.cons _ .slnil))))) ?_
                refine h_do 6 rfl (by kernel_rfl) ?_
                refine g_alloc rfl rfl Try.zeroValue27 rfl (fun b36 => ?_)
                refine g_nil ?_
                refine h_and (fun w h => h.sub (.cons _ (.cons _ (.cons _ (.cons_cons _ (.cons _ .slnil)))))) ?_
                refine g_perm (.cons _ (.swap _ _ _)) ?_
                exact h_fall (hm (b36, b32, b35)) [0, 2, 3, 4, 5, 6, 7, 10, 12, 14] (by kernel_rfl) rfl (fun w h => h.sub (.cons_cons _ (.cons_cons _ (.cons_cons _ (.cons_cons _ (.cons_cons _ .slnil))))))
            · skip
              refine w_op 6 rfl ?_
              refine g_alloc rfl rfl Try.zeroValue27 rfl (fun b37 => ?_)
              refine g_nil ?_
              refine h_and (fun w h => h.sub (.cons _ (.cons _ (.cons_cons _ (.cons _ .slnil))))) ?_
              refine h_doN [5, 8] (by kernel_rfl) (by simp) ⟨?_, ?_, trivial⟩
              · skip
                refine w_op 5 rfl ?_
                refine g_call1 rfl rfl rfl Try.call24 (fun w hS => cwith_any s0 48 57 (by decide) (by decide) w) ?_
                refine g_nil ?_
                refine h_and (fun w h => h.sub (.cons _ (.cons _ (.cons_cons _ (.cons _ .slnil))))) ?_
                refine h_do 8 rfl (by kernel_rfl) ?_
                refine g_alloc rfl rfl Try.zeroValue27 rfl (fun b38 => ?_)
                refine g_nil ?_
                refine h_and (fun w h => h.sub (.cons _ (.cons _ (.cons _ (.cons_cons _ (.cons _ .slnil)))))) ?_
                refine g_perm (.trans (.swap _ _ _) (.cons _ (.swap _ _ _))) ?_
                exact h_fall (hm (b37, b32, b38)) [0, 2, 3, 4, 5, 6, 7, 10, 12, 14] (by kernel_rfl) rfl (fun w h => h.sub (.cons_cons _ (.cons_cons _ (.cons_cons _ (.cons_cons _ (.cons_cons _ .slnil))))))
              · skip
                refine w_op 8 rfl ?_
                refine g_alloc rfl rfl Try.zeroValue27 rfl (fun b39 => ?_)
                refine g_nil ?_
                refine h_and (fun w h => h.sub (.cons _ (.cons _ (.cons _ (.cons_cons _ (.cons _ .slnil)))))) ?_
                refine h_do 5 rfl (by kernel_rfl) ?_
                refine g_call1 rfl rfl rfl Try.call24 (fun w hS => cwith_any s0 48 57 (by decide) (by decide) w) ?_
                refine g_nil ?_
                refine h_and (fun w h => h.sub (.cons _ (.cons _ (.cons _ (.cons_cons _ (.cons _ .slnil)))))) ?_
                refine g_perm (.trans (.swap _ _ _) (.cons _ (.swap _ _ _))) ?_
                exact h_fall (hm (b37, b32, b39)) [0, 2, 3, 4, 5, 6, 7, 10, 12, 14] (by kernel_rfl) rfl (fun w h => h.sub (.cons_cons _ (.cons_cons _ (.cons_cons _ (.cons_cons _ (.cons_cons _ .slnil))))))
            · skip
              refine w_op 8 rfl ?_
              refine g_alloc rfl rfl Try.zeroValue27 rfl (fun b40 => ?_)
              refine g_nil ?_
              refine h_and (fun w h => h.sub (.cons _ (.cons _ (.cons_cons _ (.cons _ .slnil))))) ?_
              refine h_doN [5, 6] (by kernel_rfl) (by simp) ⟨?_, ?_, trivial⟩
              · skip
                refine w_op 5 rfl ?_
                refine g_call1 rfl rfl rfl Try.call24 (fun w hS => cwith_any s0 48 57 (by decide) (by decide) w) ?_
                refine g_nil ?_
                refine h_and (fun w h => h.sub (.cons _ (.cons _ (.cons_cons _ (.cons _ .slnil))))) ?_
                refine h_do 6 rfl (by kernel_rfl) ?_
                refine g_alloc rfl rfl Try.zeroValue27 rfl (fun b41 => ?_)
                refine g_nil ?_
                refine h_and (fun w h => h.sub (.cons _ (.cons _ (.cons _ (.cons_cons _ (.cons _ .slnil)))))) ?_
                refine g_perm (.cons _ (.swap _ _ _)) ?_
                exact h_fall (hm (b41, b32, b40)) [0, 2, 3, 4, 5, 6, 7, 10, 12, 14] (by kernel_rfl) rfl (fun w h => h.sub (.cons_cons _ (.cons_cons _ (.cons_cons _ (.cons_cons _ (.cons_cons _ .slnil))))))
              · skip
                refine w_op 6 rfl ?_
                refine g_alloc rfl rfl Try.zeroValue27 rfl (fun b42 => ?_)
                refine g_nil ?_
                refine h_and (fun w h => h.sub (.cons _ (.cons _ (.cons _ (.cons_cons _ (.cons _ .slnil)))))) ?_
                refine h_do 5 rfl (by kernel_rfl) ?_
                refine g_call1 rfl rfl rfl Try.call24 (fun w hS => cwith_any s0 48 57 (by decide) (by decide) w) ?_
                refine g_nil ?_
                refine h_and (fun w h => h.sub (.cons _ (.cons _ (.cons _ (.cons_cons _ (.cons _ .slnil)))))) ?_
                refine g_perm (.cons _ (.swap _ _ _)) ?_
                exact h_fall (hm (b42, b32, b40)) [0, 2, 3, 4, 5, 6, 7, 10, 12, 14] (by kernel_rfl) rfl (fun w h => h.sub (.cons_cons _ (.cons_cons _ (.cons_cons _ (.cons_cons _ (.cons_cons _ .slnil))))))
          · skip
            refine w_op 8 rfl ?_
            refine g_alloc rfl rfl Try.zeroValue27 rfl (fun b43 => ?_)
            refine g_nil ?_
            refine h_and (fun w h => h.sub (.cons _ (.cons_cons _ (.cons _ .slnil)))) ?_
            refine h_doN [5, 6, 7] (by kernel_rfl) (by simp) ⟨?_, ?_, ?_, trivial⟩
            · skip
              refine w_op 5 rfl ?_
              refine g_call1 rfl rfl rfl Try.call24 (fun w hS => cwith_any s0 48 57 (by decide) (by decide) w) ?_
              refine g_nil ?_
              refine h_and (fun w h => h.sub (.cons _ (.cons_cons _ (.cons _ .slnil)))) ?_
              refine h_doN [6, 7] (by kernel_rfl) (by simp) ⟨?_, ?_, trivial⟩
              · skip
                refine w_op 6 rfl ?_
                refine g_alloc rfl rfl Try.zeroValue27 rfl (fun b44 => ?_)
                refine g_nil ?_
                refine h_and (fun w h => h.sub (.cons _ (.cons _ (.cons_cons _ (.cons _ .slnil))))) ?_
                refine h_do 7 rfl (by kernel_rfl) ?_
                refine g_alloc rfl rfl Try.zeroValue27 rfl (fun b45 => ?_)
                refine g_nil ?_
                refine h_and (fun w h => h.sub (.cons _ (.cons _ (.cons _ (.cons_cons _ (.cons _ .slnil)))))) ?_
                refine g_perm (.swap _ _ _) ?_
                exact h_fall (hm (b44, b45, b43)) [0, 2, 3, 4, 5, 6, 7, 10, 12, 14] (by kernel_rfl) rfl (fun w h => h.sub (.cons_cons _ (.cons_cons _ (.cons_cons _ (.cons_cons _ (.cons_cons _ .slnil))))))
              · skip
                refine w_op 7 rfl ?_
                refine g_alloc rfl rfl Try.zeroValue27 rfl (fun b46 => ?_)
                refine g_nil ?_
                refine h_and (fun w h => h.sub (.cons _ (.cons _ (.cons_cons _ (.cons _ .slnil))))) ?_
                refine h_do 6 rfl (by kernel_rfl) ?_
                refine g_alloc rfl rfl Try.zeroValue27 rfl (fun b47 => ?_)
                refine g_nil ?_
                refine h_and (fun w h => h.sub (.cons _ (.cons _ (.cons _ (.cons_cons _ (.cons _ .slnil)))))) ?_
                exact h_fall (hm (b47, b46, b43)) [0, 2, 3, 4, 5, 6, 7, 10, 12, 14] (by kernel_rfl) rfl (fun w h => h.sub (.cons_cons _ (.cons_cons _ (.cons_cons _ (.cons_cons _ (.cons_cons _ .slnil))))))
            · skip
              refine w_op 6 rfl ?_
              refine g_alloc rfl rfl Try.zeroValue27 rfl (fun b48 => ?_)
              refine g_nil ?_
              refine h_and (fun w h => h.sub (.cons _ (.cons _ (.cons_cons _ (.cons _ .slnil))))) ?_
              refine h_doN [5, 7] (by kernel_rfl) (by simp) ⟨?_, ?_, trivial⟩
              · skip
                refine w_op 5 rfl ?_
                refine g_call1 rfl rfl rfl Try.call24 (fun w hS => cwith_any s0 48 57 (by decide) (by decide) w) ?_
                refine g_nil ?_
                refine h_and (fun w h => h.sub (.cons _ (.cons _ (.cons_cons _ (.cons _ .slnil))))) ?_
                refine h_do 7 rfl (by kernel_rfl) ?_
                refine g_alloc rfl rfl Try.zeroValue27 rfl (fun b49 => ?_)
                refine g_nil ?_
                refine h_and (fun w h => h.sub (.cons _ (.cons _ (.cons _ (.cons_cons _ (.cons _ .slnil)))))) ?_
                refine g_perm (.swap _ _ _) ?_
                exact h_fall (hm (b48, b49, b43)) [0, 2, 3, 4, 5, 6, 7, 10, 12, 14] (by kernel_rfl) rfl (fun w h => h.sub (.cons_cons _ (.cons_cons _ (.cons_cons _ (.cons_cons _ (.cons_cons _ .slnil))))))
              · skip
                refine w_op 7 rfl ?_
                refine g_alloc rfl rfl Try.zeroValue27 rfl (fun b50 => ?_)
                refine g_nil ?_
                refine h_and (fun w h => h.sub (.cons _ (.cons _ (.cons _ (.cons_cons _ (.cons _ .slnil)))))) ?_
                refine h_do 5 rfl (by kernel_rfl) ?_
                refine g_call1 rfl rfl rfl Try.call24 (fun w hS => cwith_any s0 48 57 (by decide) (by decide) w) ?_
                refine g_nil ?_
                refine h_and (fun w h => h.sub (.cons _ (.cons _ (.cons _ (.cons_cons _ (.cons _ .slnil)))))) ?_
                refine g_perm (.swap _ _ _) ?_
                exact h_fall (hm (b48, b50, b43)) [0, 2, 3, 4, 5, 6, 7, 10, 12, 14] (by kernel_rfl) rfl (fun w h => h.sub (.cons_cons _ (.cons_cons _ (.cons_cons _ (.cons_cons _ (.cons_cons _ .slnil))))))
            · skip
              refine w_op 7 rfl ?_
              refine g_alloc rfl rfl Try.zeroValue27 rfl (fun b51 => ?_)
              refine g_nil ?_
              refine h_and (fun w h => h.sub (.cons _ (.cons _ (.cons_cons _ (.cons _ .slnil))))) ?_
              refine h_doN [5, 6] (by kernel_rfl) (by simp) ⟨?_, ?_, trivial⟩
              · skip
                refine w_op 5 rfl ?_
                refine g_call1 rfl rfl rfl Try.call24 (fun w hS => cwith_any s0 48 57 (by decide) (by decide) w) ?_
                refine g_nil ?_
                refine h_and (fun w h => h.sub (.cons _ (.cons _ (.cons_cons _ (.cons _ .slnil))))) ?_
                refine h_do 6 rfl (by kernel_rfl) ?_
                refine g_alloc rfl rfl Try.zeroValue27 rfl (fun b52 => ?_)
                refine g_nil ?_
                refine h_and (fun w h => h.sub (.cons _ (.cons _ (.cons _ (.cons_cons _ (.cons _ .slnil)))))) ?_
                exact h_fall (hm (b52, b51, b43)) [0, 2, 3, 4, 5, 6, 7, 10, 12, 14] (by kernel_rfl) rfl (fun w h => h.sub (.cons_cons _ (.cons_cons _ (.cons_cons _ (.cons_cons _ (.cons_cons _ .slnil))))))
              · skip
                refine w_op 6 rfl ?_
                refine g_alloc rfl rfl Try.zeroValue27 rfl (fun b53 => ?_)
                refine g_nil ?_
                refine h_and (fun w h => h.sub (.cons _ (.cons _ (.cons _ (.cons_cons _ (.cons _ .slnil)))))) ?_
                refine h_do 5 rfl (by kernel_rfl) ?_
                refine g_call1 rfl rfl rfl Try.call24 (fun w hS => cwith_any s0 48 57 (by decide) (by decide) w) ?_
                refine g_nil ?_
                refine h_and (fun w h => h.sub (.cons _ (.cons _ (.cons _ (.cons_cons _ (.cons _ .slnil)))))) ?_
                exact h_fall (hm (b53, b51, b43)) [0, 2, 3, 4, 5, 6, 7, 10, 12, 14] (by kernel_rfl) rfl (fun w h => h.sub (.cons_cons _ (.cons_cons _ (.cons_cons _ (.cons_cons _ (.cons_cons _ .slnil))))))
        · skip
          refine w_op 6 rfl ?_
          refine g_alloc rfl rfl Try.zeroValue27 rfl (fun b54 => ?_)
          refine g_nil ?_
          refine h_and (fun w h => h.sub (.cons _ (.cons_cons _ (.cons _ .slnil)))) ?_
          refine h_doN [3, 7, 8] (by kernel_rfl) (by simp) ⟨?_, ?_, ?_, trivial⟩
          · skip
            refine w_op 3 rfl ?_
            refine g_call1 rfl rfl rfl Try.call24 (fun w hS => cwith_any s0 97 122 (by decide) (by decide) w) ?_
            refine g_nil ?_
            refine h_and (fun w h => h.sub (.cons _ (.cons_cons _ (.cons _ .slnil)))) ?_
            refine h_doN [5, 7, 8] (by kernel_rfl) (by simp) ⟨?_, ?_, ?_, trivial⟩
            · skip
              refine w_op 5 rfl ?_
              refine g_call1 rfl rfl rfl Try.call24 (fun w hS => cwith_any s0 48 57 (by decide) (by decide) w) ?_
              refine g_nil ?_
              refine h_and (fun w h => h.sub (.cons _ (.cons_cons _ (.cons _ .slnil)))) ?_
              refine h_doN [7, 8] (by kernel_rfl) (by simp) ⟨?_, ?_, trivial⟩
              · skip
                refine w_op 7 rfl ?_
                refine g_alloc rfl rfl Try.zeroValue27 rfl (fun b55 => ?_)
                refine g_nil ?_
                refine h_and (fun w h => h.sub (.cons _ (.cons _ (.cons_cons _ (.cons _ .slnil))))) ?_
                refine h_do 8 rfl (by kernel_rfl) ?_
                refine g_alloc rfl rfl Try.zeroValue27 rfl (fun b56 => ?_)
                refine g_nil ?_
                refine h_and (fun w h => h.sub (.cons _ (.cons _ (.cons _ (.cons_cons _ (.cons _ .slnil)))))) ?_
                refine g_perm (.trans (.cons _ (.swap _ _ _)) (.trans (.swap _ _ _) (.cons _ (.swap _ _ _)))) ?_
                exact h_fall (hm (b54, b55, b56)) [0, 2, 3, 4, 5, 6, 7, 10, 12, 14] (by kernel_rfl) rfl (fun w h => h.sub (.cons_cons _ (.cons_cons _ (.cons_cons _ (.cons_cons _ (.cons_cons _ .slnil))))))
              · skip
                refine w_op 8 rfl ?_
                refine g_alloc rfl rfl Try.zeroValue27 rfl (fun b57 => ?_)
                refine g_nil ?_
                refine h_and (fun w h => h.sub (.cons _ (.cons _ (.cons_cons _ (.cons _ .slnil))))) ?_
                refine h_do 7 rfl (by kernel_rfl) ?_
                refine g_alloc rfl rfl Try.zeroValue27 rfl (fun b58 => ?_)
                refine g_nil ?_
                refine h_and (fun w h => h.sub (.cons _ (.cons _ (.cons _ (.cons_cons _ (.cons _ .slnil)))))) ?_
                refine g_perm (.trans (.cons _ (.swap _ _ _)) (.swap _ _ _)) ?_
                exact h_fall (hm (b54, b58, b57)) [0, 2, 3, 4, 5, 6, 7, 10, 12, 14] (by kernel_rfl) rfl (fun w h => h.sub (.cons_cons _ (.cons_cons _ (.cons_cons _ (.cons_cons _ (.cons_cons _ .slnil))))))
            · skip
              refine w_op 7 rfl ?_
              refine g_alloc rfl rfl Try.zeroValue27 rfl (fun b59 => ?_)
              refine g_nil ?_
              refine h_and (fun w h => h.sub (.cons _ (.cons _ (.cons_cons _ (.cons _ .slnil))))) ?_
              refine h_doN [5, 8] (by kernel_rfl) (by simp) ⟨?_, ?_, trivial⟩
              · skip
                refine w_op 5 rfl ?_
                refine g_call1 rfl rfl rfl Try.call24 (fun w hS => cwith_any s0 48 57 (by decide) (by decide) w) ?_
                refine g_nil ?_
                refine h_and (fun w h => h.sub (.cons _ (.cons _ (.cons_cons _ (.cons _ .slnil))))) ?_
                refine h_do 8 rfl (by kernel_rfl) ?_
                refine g_alloc rfl rfl Try.zeroValue27 rfl (fun b60 => ?_)
                refine g_nil ?_
                refine h_and (fun w h => h.sub (.cons _ (.cons _ (.cons _ (.cons_cons _ (.cons _ .slnil)))))) ?_
                refine g_perm (.trans (.cons _ (.swap _ _ _)) (.trans (.swap _ _ _) (.cons _ (.swap _ _ _)))) ?_
                exact h_fall (hm (b54, b59, b60)) [0, 2, 3, 4, 5, 6, 7, 10, 12, 14] (by kernel_rfl) rfl (fun w h => h.sub (.cons_cons _ (.cons_cons _ (.cons_cons _ (.cons_cons _ (.cons_cons _ .slnil))))))
              · skip
                refine w_op 8 rfl ?_
                refine g_alloc rfl rfl Try.zeroValue27 rfl (fun b61 => ?_)
                refine g_nil ?_
                refine h_and (fun w h => h.sub (.cons _ (.cons _ (.cons _ (.cons_cons _ (.cons _ .slnil)))))) ?_
                refine h_do 5 rfl (by kernel_rfl) ?_
                refine g_call1 rfl rfl rfl Try.call24 (fun w hS => cwith_any s0 48 57 (by decide) (by decide) w) ?_
                refine g_nil ?_
                refine h_and (fun w h => h.sub (.cons _ (.cons _ (.cons _ (.cons_cons _ (.cons _ .slnil)))))) ?_
                refine g_perm (.trans (.cons _ (.swap _ _ _)) (.trans (.swap _ _ _) (.cons _ (.swap _ _ _)))) ?_
                exact h_fall (hm (b54, b59, b61)) [0, 2, 3, 4, 5, 6, 7, 10, 12, 14] (by kernel_rfl) rfl (fun w h => h.sub (.cons_cons _ (.cons_cons _ (.cons_cons _ (.cons_cons _ (.cons_cons _ .slnil))))))
            · skip
              refine w_op 8 rfl ?_
              refine g_alloc rfl rfl Try.zeroValue27 rfl (fun b62 => ?_)
              refine g_nil ?_
              refine h_and (fun w h => h.sub (.cons _ (.cons _ (.cons_cons _ (.cons _ .slnil))))) ?_
              refine h_doN [5, 7] (by kernel_rfl) (by simp) ⟨?_, ?_, trivial⟩
              · skip
                refine w_op 5 rfl ?_
                refine g_call1 rfl rfl rfl Try.call24 (fun w hS => cwith_any s0 48 57 (by decide) (by decide) w) ?_
                refine g_nil ?_
                refine h_and (fun w h => h.sub (.cons _ (.cons _ (.cons_cons _ (.cons _ .slnil))))) ?_
                refine h_do 7 rfl (by kernel_rfl) ?_
                refine g_alloc rfl rfl Try.zeroValue27 rfl (fun b63 => ?_)
                refine g_nil ?_
                refine h_and (fun w h => h.sub (.cons _ (.cons _ (.cons _ (.cons_cons _ (.cons _ .slnil)))))) ?_
                refine g_perm (.trans (.cons _ (.swap _ _ _)) (.swap _ _ _)) ?_
                exact h_fall (hm (b54, b63, b62)) [0, 2, 3, 4, 5, 6, 7, 10, 12, 14] (by kernel_rfl) rfl (fun w h => h.sub (.cons_cons _ (.cons_cons _ (.cons_cons _ (.cons_cons _ (.cons_cons _ .slnil))))))
              · skip
                refine w_op 7 rfl ?_
                refine g_alloc rfl rfl Try.zeroValue27 rfl (fun b64 => ?_)
                refine g_nil ?_
                refine h_and (fun w h => h.sub (.cons _ (.cons _ (.cons _ (.cons_cons _ (.cons _ .slnil)))))) ?_
                refine h_do 5 rfl (by kernel_rfl) ?_
                refine g_call1 rfl rfl rfl Try.call24 (fun w hS => cwith_any s0 48 57 (by decide) (by decide) w) ?_
                refine g_nil ?_
                refine h_and (fun w h => h.sub (.cons _ (.cons _ (.cons _ (.cons_cons _ (.cons _ .slnil)))))) ?_
                refine g_perm (.trans (.cons _ (.swap _ _ _)) (.swap _ _ _)) ?_
                exact h_fall (hm (b54, b64, b62)) [0, 2, 3, 4, 5, 6, 7, 10, 12, 14] (by kernel_rfl) rfl (fun w h => h.sub (.cons_cons _ (.cons_cons _ (.cons_cons _ (.cons_cons _ (.cons_cons _ .slnil))))))
          · skip
            refine w_op 7 rfl ?_
            refine g_alloc rfl rfl Try.zeroValue27 rfl (fun b65 => ?_)
            refine g_nil ?_
            refine h_and (fun w h => h.sub (.cons _ (.cons _ (.cons_cons _ (.cons _ .slnil))))) ?_
            refine h_doN [3, 8] (by kernel_rfl) (by simp) ⟨?_, ?_, trivial⟩
            · skip
              refine w_op 3 rfl ?_
              refine g_call1 rfl rfl rfl Try.call24 (fun w hS => cwith_any s0 97 122 (by decide) (by decide) w) ?_
              refine g_nil ?_
              refine h_and (fun w h => h.sub (.cons _ (.cons _ (.cons_cons _ (.cons _ .slnil))))) ?_
              refine h_doN [5, 8] (by kernel_rfl) (by simp) ⟨?_, ?_, trivial⟩
              · skip
                refine w_op 5 rfl ?_
                refine g_call1 rfl rfl rfl Try.call24 (fun w hS => cwith_any s0 48 57 (by decide) (by decide) w) ?_
                refine g_nil ?_
                refine h_and (fun w h => h.sub (.cons _ (.cons _ (.cons_cons _ (.cons _ .slnil))))) ?_
                refine h_do 8 rfl (by kernel_rfl) ?_
                refine g_alloc rfl rfl Try.zeroValue27 rfl (fun b66 => ?_)
                refine g_nil ?_
                refine h_and (fun w h => h.sub (.cons _ (.cons _ (.cons _ (.cons_cons _ (.cons _ .slnil)))))) ?_
                refine g_perm (.trans (.cons _ (.swap _ _ _)) (.trans (.swap _ _ _) (.cons _ (.swap _ _ _)))) ?_
                exact h_fall (hm (b54, b65, b66)) [0, 2, 3, 4, 5, 6, 7, 10, 12, 14] (by kernel_rfl) rfl (fun w h => h.sub (.cons_cons _ (.cons_cons _ (.cons_cons _ (.cons_cons _ (.cons_cons _ .slnil))))))
              · skip
                refine w_op 8 rfl ?_
                refine g_alloc rfl rfl Try.zeroValue27 rfl (fun b67 => ?_)
                refine g_nil ?_
                refine h_and (fun w h => h.sub (.cons _ (.cons _ (.cons _ (.cons_cons _ (.cons _ .slnil)))))) ?_
                refine h_do 5 rfl (by kernel_rfl) ?_
                refine g_call1 rfl rfl rfl Try.call24 (fun w hS => cwith_any s0 48 57 (by decide) (by decide) w) ?_
                refine g_nil ?_
                refine h_and (fun w h => h.sub (.cons _ (.cons _ (.cons _ (.cons_cons _ (.cons _ .slnil)))))) ?_
                refine g_perm (.trans (.cons _ (.swap _ _ _)) (.trans (.swap _ _ _) (.cons _ (.swap _ _ _)))) ?_
                exact h_fall (hm (b54, b65, b67)) [0, 2, 3, 4, 5, 6, 7, 10, 12, 14] (by kernel_rfl) rfl (fun w h => h.sub (.cons_cons _ (.cons_cons _ (.cons_cons _ (.cons_cons _ (.cons_cons _ .slnil))))))
            · skip
              refine w_op 8 rfl ?_
              refine g_alloc rfl rfl Try.zeroValue27 rfl (fun b68 => ?_)
              refine g_nil ?_
              refine h_and (fun w h => h.sub (.cons _ (.cons _ (.cons _ (.cons_cons _ (.cons _ .slnil)))))) ?_
              refine h_do 3 rfl (by kernel_rfl) ?_
              refine g_call1 rfl rfl rfl Try.call24 (fun w hS => cwith_any s0 97 122 (by decide) (by decide) w) ?_
              refine g_nil ?_
              refine h_and (fun w h => h.sub (.cons _ (.cons _ (.cons _ (.cons_cons _ (.cons _ .slnil)))))) ?_
              refine h_do 5 rfl (by kernel_rfl) ?_
              refine g_call1 rfl rfl rfl Try.call24 (fun w hS => cwith_any s0 48 57 (by decide) (by decide) w) ?_
              refine g_nil ?_
              refine h_and (fun w h => h.sub (.cons _ (.cons _ (.cons _ (.cons_cons _ (.cons _ .slnil)))))) ?_
              refine g_perm (.trans (.cons _ (.swap _ _ _)) (.trans (.swap _ _ _) (.cons _ (.swap _ _ _)))) ?_
              exact h_fall (hm (b54, b65, b68)) [0, 2, 3, 4, 5, 6, 7, 10, 12, 14] (by kernel_rfl) rfl (fun w h => h.sub (.cons_cons _ (.cons_cons _ (.cons_cons _ (.cons_cons _ (.cons_cons _ .slnil))))))
          · skip
            refine w_op 8 rfl ?_
            refine g_alloc rfl rfl Try.zeroValue27 rfl (fun b69 => ?_)
            refine g_nil ?_
            refine h_and (fun w h => h.sub (.cons _ (.cons _ (.cons_cons _ (.cons _ .slnil))))) ?_
            refine h_doN [3, 7] (by kernel_rfl) (by simp) ⟨?_, ?_, trivial⟩
            · skip
              refine w_op 3 rfl ?_
              refine g_call1 rfl rfl rfl Try.call24 (fun w hS => cwith_any s0 97 122 (by decide) (by decide) w) ?_
              refine g_nil ?_
              refine h_and (fun w h => h.sub (.cons _ (.cons _ (.cons_cons _ (.cons _ .slnil))))) ?_
              refine h_doN [5, 7] (by kernel_rfl) (by simp) ⟨?_, ?_, trivial⟩
              · skip
                refine w_op 5 rfl ?_
                refine g_call1 rfl rfl rfl Try.call24 (fun w hS => cwith_any s0 48 57 (by decide) (by decide) w) ?_
                refine g_nil ?_
                refine h_and (fun w h => h.sub (.cons _ (.cons _ (.cons_cons _ (.cons _ .slnil))))) ?_
                refine h_do 7 rfl (by kernel_rfl) ?_
                refine g_alloc rfl rfl Try.zeroValue27 rfl (fun b70 => ?_)
                refine g_nil ?_
                refine h_and (fun w h => h.sub (.cons _ (.cons _ (.cons _ (.cons_cons _ (.cons _ .slnil)))))) ?_
                refine g_perm (.trans (.cons _ (.swap _ _ _)) (.swap _ _ _)) ?_
                exact h_fall (hm (b54, b70, b69)) [0, 2, 3, 4, 5, 6, 7, 10, 12, 14] (by kernel_rfl) rfl (fun w h => h.sub (.cons_cons _ (.cons_cons _ (.cons_cons _ (.cons_cons _ (.cons_cons _ .slnil))))))
              · skip
                refine w_op 7 rfl ?_
                refine g_alloc rfl rfl Try.zeroValue27 rfl (fun b71 => ?_)
                refine g_nil ?_
                refine h_and (fun w h => h.sub (.cons _ (.cons _ (.cons _ (.cons_cons _ (.cons _ .slnil)))))) ?_
                refine h_do 5 rfl (by kernel_rfl) ?_
                refine g_call1 rfl rfl rfl Try.call24 (fun w hS => cwith_any s0 48 57 (by decide) (by decide) w) ?_
                refine g_nil ?_
                refine h_and (fun w h => h.sub (.cons _ (.cons _ (.cons _ (.cons_cons _ (.cons _ .slnil)))))) ?_
                refine g_perm (.trans (.cons _ (.swap _ _ _)) (.swap _ _ _)) ?_
                exact h_fall (hm (b54, b71, b69)) [0, 2, 3, 4, 5, 6, 7, 10, 12, 14] (by kernel_rfl) rfl (fun w h => h.sub (.cons_cons _ (.cons_cons _ (.cons_cons _ (.cons_cons _ (.cons_cons _ .slnil))))))
            · skip
              refine w_op 7 rfl ?_
              refine g_alloc rfl rfl Try.zeroValue27 rfl (fun b72 => ?_)
              refine g_nil ?_
              refine h_and (fun w h => h.sub (.cons _ (.cons _ (.cons _ (.cons_cons _ (.cons _ .slnil)))))) ?_
              refine h_do 3 rfl (by kernel_rfl) ?_
              refine g_call1 rfl rfl rfl Try.call24 (fun w hS => cwith_any s0 97 122 (by decide) (by decide) w) ?_
              refine g_nil ?_
              refine h_and (fun w h => h.sub (.cons _ (.cons _ (.cons _ (.cons_cons _ (.cons _ .slnil)))))) ?_
              refine h_do 5 rfl (by kernel_rfl) ?_
              refine g_call1 rfl rfl rfl Try.call24 (fun w hS => cwith_any s0 48 57 (by decide) (by decide) w) ?_
              refine g_nil ?_
              refine h_and (fun w h => h.sub (.cons _ (.cons _ (.cons _ (.cons_cons _ (.cons _ .slnil)))))) ?_
              refine g_perm (.trans (.cons _ (.swap _ _ _)) (.swap _ _ _)) ?_
              exact h_fall (hm (b54, b72, b69)) [0, 2, 3, 4, 5, 6, 7, 10, 12, 14] (by kernel_rfl) rfl (fun w h => h.sub (.cons_cons _ (.cons_cons _ (.cons_cons _ (.cons_cons _ (.cons_cons _ .slnil))))))
        · skip
          refine w_op 7 rfl ?_
          refine g_alloc rfl rfl Try.zeroValue27 rfl (fun b73 => ?_)
          refine g_nil ?_
          refine h_and (fun w h => h.sub (.cons _ (.cons_cons _ (.cons _ .slnil)))) ?_
          refine h_doN [3, 6, 8] (by kernel_rfl) (by simp) ⟨?_, ?_, ?_, trivial⟩
          · skip
            refine w_op 3 rfl ?_
            refine g_call1 rfl rfl rfl Try.call24 (fun w hS => cwith_any s0 97 122 (by decide) (by decide) w) ?_
            refine g_nil ?_
            refine h_and (fun w h => h.sub (.cons _ (.cons_cons _ (.cons _ .slnil)))) ?_
            refine h_doN [5, 6, 8] (by kernel_rfl) (by simp) ⟨?_, ?_, ?_, trivial⟩
            · skip
              refine w_op 5 rfl ?_
              refine g_call1 rfl rfl rfl Try.call24 (fun w hS => cwith_any s0 48 57 (by decide) (by decide) w) ?_
              refine g_nil ?_
              refine h_and (fun w h => h.sub (.cons _ (.cons_cons _ (.cons _ .slnil)))) ?_
              refine h_doN [6, 8] (by kernel_rfl) (by simp) ⟨?_, ?_, trivial⟩
              · skip
                refine w_op 6 rfl ?_
                refine g_alloc rfl rfl Try.zeroValue27 rfl (fun b74 => ?_)
                refine g_nil ?_
                refine h_and (fun w h => h.sub (.cons _ (.cons _ (.cons_cons _ (.cons _ .slnil))))) ?_
                refine h_do 8 rfl (by kernel_rfl) ?_
                refine g_alloc rfl rfl Try.zeroValue27 rfl (fun b75 => ?_)
                refine g_nil ?_
                refine h_and (fun w h => h.sub (.cons _ (.cons _ (.cons _ (.cons_cons _ (.cons _ .slnil)))))) ?_
                refine g_perm (.trans (.swap _ _ _) (.cons _ (.swap _ _ _))) ?_
                exact h_fall (hm (b74, b73, b75)) [0, 2, 3, 4, 5, 6, 7, 10, 12, 14] (by kernel_rfl) rfl (fun w h => h.sub (.cons_cons _ (.cons_cons _ (.cons_cons _ (.cons_cons _ (.cons_cons _ .slnil))))))
              · skip
                refine w_op 8 rfl ?_
                refine g_alloc rfl rfl Try.zeroValue27 rfl (fun b76 => ?_)
                refine g_nil ?_
                refine h_and (fun w h => h.sub (.cons _ (.cons _ (.cons_cons _ (.cons _ .slnil))))) ?_
                refine h_do 6 rfl (by kernel_rfl) ?_
                refine g_alloc rfl rfl Try.zeroValue27 rfl (fun b77 => ?_)
                refine g_nil ?_
                refine h_and (fun w h => h.sub (.cons _ (.cons _ (.cons _ (.cons_cons _ (.cons _ .slnil)))))) ?_
                refine g_perm (.cons _ (.swap _ _ _)) ?_
                exact h_fall (hm (b77, b73, b76)) [0, 2, 3, 4, 5, 6, 7, 10, 12, 14] (by kernel_rfl) rfl (fun w h => h.sub (.cons_cons _ (.cons_cons _ (.cons_cons _ (.cons_cons _ (.cons_cons _ .slnil))))))
            · skip
              refine w_op 6 rfl ?_
              refine g_alloc rfl rfl Try.zeroValue27 rfl (fun b78 => ?_)
              refine g_nil ?_
              refine h_and (fun w h => h.sub (.cons _ (.cons _ (.cons_cons _ (.cons _ .slnil))))) ?_
              refine h_doN [5, 8] (by kernel_rfl) (by simp) ⟨?_, ?_, trivial⟩
              · skip
                refine w_op 5 rfl ?_
                refine g_call1 rfl rfl rfl Try.call24 (fun w hS => cwith_any s0 48 57 (by decide) (by decide) w) ?_
                refine g_nil ?_
                refine h_and (fun w h => h.sub (.cons _ (.cons _ (.cons_cons _ (.cons _ .slnil))))) ?_
                refine h_do 8 rfl (by kernel_rfl) ?_
                refine g_alloc rfl rfl Try.zeroValue27 rfl (fun b79 => ?_)
                refine g_nil ?_
                refine h_and (fun w h => h.sub (.cons _ (.cons _ (.cons _ (.cons_cons _ (.cons _ .slnil)))))) ?_
                refine g_perm (.trans (.swap _ _ _) (.cons _ (.swap _ _ _))) ?_
                exact h_fall (hm (b78, b73, b79)) [0, 2, 3, 4, 5, 6, 7, 10, 12, 14] (by kernel_rfl) rfl (fun w h => h.sub (.cons_cons _ (.cons_cons _ (.cons_cons _ (.cons_cons _ (.cons_cons _ .slnil))))))
              · skip
                refine w_op 8 rfl ?_
                refine g_alloc rfl rfl Try.zeroValue27 rfl (fun b80 => ?_)
                refine g_nil ?_
                refine h_and (fun w h => h.sub (.cons _ (.cons _ (.cons _ (.cons_cons _ (.cons _ .slnil)))))) ?_
                refine h_do 5 rfl (by kernel_rfl) ?_
                refine g_call1 rfl rfl rfl Try.call24 (fun w hS => cwith_any s0 48 57 (by decide) (by decide) w) ?_
                refine g_nil ?_
                refine h_and (fun w h => h.sub (.cons _ (.cons _ (.cons _ (.cons_cons _ (.cons _ .slnil)))))) ?_
                refine g_perm (.trans (.swap _ _ _) (.cons _ (.swap _ _ _))) ?_
                exact h_fall (hm (b78, b73, b80)) [0, 2, 3, 4, 5, 6, 7, 10, 12, 14] (by kernel_rfl) rfl (fun w h => h.sub (.cons_cons _ (.cons_cons _ (.cons_cons _ (.cons_cons _ (.cons_cons _ .slnil))))))
            · skip
              refine w_op 8 rfl ?_
              refine g_alloc rfl rfl Try.zeroValue27 rfl (fun b81 => ?_)
              refine g_nil ?_
              refine h_and (fun w h => h.sub (.cons _ (.cons _ (.cons_cons _ (.cons _ .slnil))))) ?_
              refine h_doN [5, 6] (by kernel_rfl) (by simp) ⟨?_, ?_, trivial⟩
              · skip
                refine w_op 5 rfl ?_
                refine g_call1 rfl rfl rfl Try.call24 (fun w hS => cwith_any s0 48 57 (by decide) (by decide) w) ?_
                refine g_nil ?_
                refine h_and (fun w h => h.sub (.cons _ (.cons _ (.cons_cons _ (.cons _ .slnil))))) ?_
                refine h_do 6 rfl (by kernel_rfl) ?_
                refine g_alloc rfl rfl Try.zeroValue27 rfl (fun b82 => ?_)
                refine g_nil ?_
                refine h_and (fun w h => h.sub (.cons _ (.cons _ (.cons _ (.cons_cons _ (.cons _ .slnil)))))) ?_
                refine g_perm (.cons _ (.swap _ _ _)) ?_
                exact h_fall (hm (b82, b73, b81)) [0, 2, 3, 4, 5, 6, 7, 10, 12, 14] (by kernel_rfl) rfl (fun w h => h.sub (.cons_cons _ (.cons_cons _ (.cons_cons _ (.cons_cons _ (.cons_cons _ .slnil))))))
              · skip
                refine w_op 6 rfl ?_
                refine g_alloc rfl rfl Try.zeroValue27 rfl (fun b83 => ?_)
                refine g_nil ?_
                refine h_and (fun w h => h.sub (.cons _ (.cons _ (.cons _ (.cons_cons _ (.cons _ .slnil)))))) ?_
                refine h_do 5 rfl (by kernel_rfl) ?_
                refine g_call1 rfl rfl rfl Try.call24 (fun w hS => cwith_any s0 48 57 (by decide) (by decide) w) ?_
                refine g_nil ?_
                refine h_and (fun w h => h.sub (.cons _ (.cons _ (.cons _ (.cons_cons _ (.cons _ .slnil)))))) ?_
                refine g_perm (.cons _ (.swap _ _ _)) ?_
                exact h_fall (hm (b83, b73, b81)) [0, 2, 3, 4, 5, 6, 7, 10, 12, 14] (by kernel_rfl) rfl (fun w h => h.sub (.cons_cons _ (.cons_cons _ (.cons_cons _ (.cons_cons _ (.cons_cons _ .slnil))))))
          · skip
            refine w_op 6 rfl ?_
            refine g_alloc rfl rfl Try.zeroValue27 rfl (fun b84 => ?_)
            refine g_nil ?_
            refine h_and (fun w h => h.sub (.cons _ (.cons _ (.cons_cons _ (.cons _ .slnil))))) ?_
            refine h_doN [3, 8] (by kernel_rfl) (by simp) ⟨?_, ?_, trivial⟩
            · skip
              refine w_op 3 rfl ?_
              refine g_call1 rfl rfl rfl Try.call24 (fun w hS => cwith_any s0 97 122 (by decide) (by decide) w) ?_
              refine g_nil ?_
              refine h_and (fun w h => h.sub (.cons _ (.cons _ (.cons_cons _ (.cons _ .slnil))))) ?_
              refine h_doN [5, 8] (by kernel_rfl) (by simp) ⟨?_, ?_, trivial⟩
              · skip
                refine w_op 5 rfl ?_
                refine g_call1 rfl rfl rfl Try.call24 (fun w hS => cwith_any s0 48 57 (by decide) (by decide) w) ?_
                refine g_nil ?_
                refine h_and (fun w h => h.sub (.cons _ (.cons _ (.cons_cons _ (.cons _ .slnil))))) ?_
                refine h_do 8 rfl (by kernel_rfl) ?_
                refine g_alloc rfl rfl Try.zeroValue27 rfl (fun b85 => ?_)
                refine g_nil ?_
                refine h_and (fun w h => h.sub (.cons _ (.cons _ (.cons _ (.cons_cons _ (.cons _ .slnil)))))) ?_
                refine g_perm (.trans (.swap _ _ _) (.cons _ (.swap _ _ _))) ?_
                exact h_fall (hm (b84, b73, b85)) [0, 2, 3, 4, 5, 6, 7, 10, 12, 14] (by kernel_rfl) rfl (fun w h => h.sub (.cons_cons _ (.cons_cons _ (.cons_cons _ (.cons_cons _ (.cons_cons _ .slnil))))))
              · skip
                refine w_op 8 rfl ?_
                refine g_alloc rfl rfl Try.zeroValue27 rfl (fun b86 => ?_)
                refine g_nil ?_
                refine h_and (fun w h => h.sub (.cons _ (.cons _ (.cons _ (.cons_cons _ (.cons _ .slnil)))))) ?_
                refine h_do 5 rfl (by kernel_rfl) ?_
                refine g_call1 rfl rfl rfl Try.call24 (fun w hS => cwith_any s0 48 57 (by decide) (by decide) w) ?_
                refine g_nil ?_
                refine h_and (fun w h => h.sub (.cons _ (.cons _ (.cons _ (.cons_cons _ (.cons _ .slnil)))))) ?_
                refine g_perm (.trans (.swap _ _ _) (.cons _ (.swap _ _ _))) ?_
                exact h_fall (hm (b84, b73, b86)) [0, 2, 3, 4, 5, 6, 7, 10, 12, 14] (by kernel_rfl) rfl (fun w h => h.sub (.cons_cons _ (.cons_cons _ (.cons_cons _ (.cons_cons _ (.cons_cons _ .slnil))))))
            · skip
              refine w_op 8 rfl ?_
              refine g_alloc rfl rfl Try.zeroValue27 rfl (fun b87 => ?_)
              refine g_nil ?_
              refine h_and (fun w h => h.sub (.cons _ (.cons _ (.cons _ (.cons_cons _ (.cons _ .slnil)))))) ?_
              refine h_do 3 rfl (by kernel_rfl) ?_
              refine g_call1 rfl rfl rfl Try.call24 (fun w hS => cwith_any s0 97 122 (by decide) (by decide) w) ?_
              refine g_nil ?_
              refine h_and (fun w h => h.sub (.cons _ (.cons _ (.cons _ (.cons_cons _ (.cons _ .slnil)))))) ?_
              refine h_do 5 rfl (by kernel_rfl) ?_
              refine g_call1 rfl rfl rfl Try.call24 (fun w hS => cwith_any s0 48 57 (by decide) (by decide) w) ?_
              refine g_nil ?_
              refine h_and (fun w h => h.sub (.cons _ (.cons _ (.cons _ (.cons_cons _ (.cons _ .slnil)))))) ?_
              refine g_perm (.trans (.swap _ _ _) (.cons _ (.swap _ _ _))) ?_
              exact h_fall (hm (b84, b73, b87)) [0, 2, 3, 4, 5, 6, 7, 10, 12, 14] (by kernel_rfl) rfl (fun w h => h.sub (.cons_cons _ (.cons_cons _ (.cons_cons _ (.cons_cons _ (.cons_cons _ .slnil))))))
          · skip
            refine w_op 8 rfl ?_
            refine g_alloc rfl rfl Try.zeroValue27 rfl (fun b88 => ?_)
            refine g_nil ?_
            refine h_and (fun w h => h.sub (.cons _ (.cons _ (.cons_cons _ (.cons _ .slnil))))) ?_
            refine h_doN [3, 6] (by kernel_rfl) (by simp) ⟨?_, ?_, trivial⟩
            · skip
              refine w_op 3 rfl ?_
              refine g_call1 rfl rfl rfl Try.call24 (fun w hS => cwith_any s0 97 122 (by decide) (by decide) w) ?_
              refine g_nil ?_
              refine h_and (fun w h => h.sub (.cons _ (.cons _ (.cons_cons _ (.cons _ .slnil))))) ?_
              refine h_doN [5, 6] (by kernel_rfl) (by simp) ⟨?_, ?_, trivial⟩
              · skip
                refine w_op 5 rfl ?_
                refine g_call1 rfl rfl rfl Try.call24 (fun w hS => cwith_any s0 48 57 (by decide) (by decide) w) ?_
                refine g_nil ?_
                refine h_and (fun w h => h.sub (.cons _ (.cons _ (.cons_cons _ (.cons _ .slnil))))) ?_
                refine h_do 6 rfl (by kernel_rfl) ?_
                refine g_alloc rfl rfl Try.zeroValue27 rfl (fun b89 => ?_)
                refine g_nil ?_
                refine h_and (fun w h => h.sub (.cons _ (.cons _ (.cons _ (.cons_cons _ (.cons _ .slnil)))))) ?_
                refine g_perm (.cons _ (.swap _ _ _)) ?_
                exact h_fall (hm (b89, b73, b88)) [0, 2, 3, 4, 5, 6, 7, 10, 12, 14] (by kernel_rfl) rfl (fun w h => h.sub (.cons_cons _ (.cons_cons _ (.cons_cons _ (.cons_cons _ (.cons_cons _ .slnil))))))
              · skip
                refine w_op 6 rfl ?_
                refine g_alloc rfl rfl Try.zeroValue27 rfl (fun b90 => ?_)
                refine g_nil ?_
                refine h_and (fun w h => h.sub (.cons _ (.cons _ (.cons _ (.cons_cons _ (.cons _ .slnil)))))) ?_
                refine h_do 5 rfl (by kernel_rfl) ?_
                refine g_call1 rfl rfl rfl Try.call24 (fun w hS => cwith_any s0 48 57 (by decide) (by decide) w) ?_
                refine g_nil ?_
                refine h_and (fun w h => h.sub (.cons _ (.cons _ (.cons _ (.cons_cons _ (.cons _ .slnil)))))) ?_
                refine g_perm (.cons _ (.swap _ _ _)) ?_
                exact h_fall (hm (b90, b73, b88)) [0, 2, 3, 4, 5, 6, 7, 10, 12, 14] (by kernel_rfl) rfl (fun w h => h.sub (.cons_cons _ (.cons_cons _ (.cons_cons _ (.cons_cons _ (.cons_cons _ .slnil))))))
            · skip
              refine w_op 6 rfl ?_
              refine g_alloc rfl rfl Try.zeroValue27 rfl (fun b91 => ?_)
              refine g_nil ?_
              refine h_and (fun w h => h.sub (.cons _ (.cons _ (.cons _ (.cons_cons _ (.cons _ .slnil)))))) ?_
              refine h_do 3 rfl (by kernel_rfl) ?_
              refine g_call1 rfl rfl rfl Try.call24 (fun w hS => cwith_any s0 97 122 (by decide) (by decide) w) ?_
              refine g_nil ?_
              refine h_and (fun w h => h.sub (.cons _ (.cons _ (.cons _ (.cons_cons _ (.cons _ .slnil)))))) ?_
              refine h_do 5 rfl (by kernel_rfl) ?_
              refine g_call1 rfl rfl rfl Try.call24 (fun w hS => cwith_any s0 48 57 (by decide) (by decide) w) ?_
              refine g_nil ?_
              refine h_and (fun w h => h.sub (.cons _ (.cons _ (.cons _ (.cons_cons _ (.cons _ .slnil)))))) ?_
              refine g_perm (.cons _ (.swap _ _ _)) ?_
              exact h_fall (hm (b91, b73, b88)) [0, 2, 3, 4, 5, 6, 7, 10, 12, 14] (by kernel_rfl) rfl (fun w h => h.sub (.cons_cons _ (.cons_cons _ (.cons_cons _ (.cons_cons _ (.cons_cons _ .slnil))))))
        · skip
          refine w_op 8 rfl ?_
          refine g_alloc rfl rfl Try.zeroValue27 rfl (fun b92 => ?_)
          refine g_nil ?_
          refine h_and (fun w h => h.sub (.cons _ (.cons_cons _ (.cons _ .slnil)))) ?_
          refine h_doN [3, 6, 7] (by kernel_rfl) (by simp) ⟨?_, ?_, ?_, trivial⟩
          · skip
            refine w_op 3 rfl ?_
            refine g_call1 rfl rfl rfl Try.call24 (fun w hS => cwith_any s0 97 122 (by decide) (by decide) w) ?_
            refine g_nil ?_
            refine h_and (fun w h => h.sub (.cons _ (.cons_cons _ (.cons _ .slnil)))) ?_
            refine h_doN [5, 6, 7] (by kernel_rfl) (by simp) ⟨?_, ?_, ?_, trivial⟩
            · skip
              refine w_op 5 rfl ?_
              refine g_call1 rfl rfl rfl Try.call24 (fun w hS => cwith_any s0 48 57 (by decide) (by decide) w) ?_
              refine g_nil ?_
              refine h_and (fun w h => h.sub (.cons _ (.cons_cons _ (.cons _ .slnil)))) ?_
              refine h_doN [6, 7] (by kernel_rfl) (by simp) ⟨?_, ?_, trivial⟩
              · skip
                refine w_op 6 rfl ?_
                refine g_alloc rfl rfl Try.zeroValue27 rfl (fun b93 => ?_)
                refine g_nil ?_
                refine h_and (fun w h => h.sub (.cons _ (.cons _ (.cons_cons _ (.cons _ .slnil))))) ?_
                refine h_do 7 rfl (by kernel_rfl) ?_
                refine g_alloc rfl rfl Try.zeroValue27 rfl (fun b94 => ?_)
                refine g_nil ?_
                refine h_and (fun w h => h.sub (.cons _ (.cons _ (.cons _ (.cons_cons _ (.cons _ .slnil)))))) ?_
                refine g_perm (.swap _ _ _) ?_
                exact h_fall (hm (b93, b94, b92)) [0, 2, 3, 4, 5, 6, 7, 10, 12, 14] (by kernel_rfl) rfl (fun w h => h.sub (.cons_cons _ (.cons_cons _ (.cons_cons _ (.cons_cons _ (.cons_cons _ .slnil))))))
              · skip
                refine w_op 7 rfl ?_
                refine g_alloc rfl rfl Try.zeroValue27 rfl (fun b95 => ?_)
                refine g_nil ?_
                refine h_and (fun w h => h.sub (.cons _ (.cons _ (.cons_cons _ (.cons _ .slnil))))) ?_
                refine h_do 6 rfl (by kernel_rfl) ?_
                refine g_alloc rfl rfl Try.zeroValue27 rfl (fun b96 => ?_)
                refine g_nil ?_
                refine h_and (fun w h => h.sub (.cons _ (.cons _ (.cons _ (.cons_cons _ (.cons _ .slnil)))))) ?_
                exact h_fall (hm (b96, b95, b92)) [0, 2, 3, 4, 5, 6, 7, 10, 12, 14] (by kernel_rfl) rfl (fun w h => h.sub (.cons_cons _ (.cons_cons _ (.cons_cons _ (.cons_cons _ (.cons_cons _ .slnil))))))
            · skip
              refine w_op 6 rfl ?_
              refine g_alloc rfl rfl Try.zeroValue27 rfl (fun b97 => ?_)
              refine g_nil ?_
              refine h_and (fun w h => h.sub (.cons _ (.cons _ (.cons_cons _ (.cons _ .slnil))))) ?_
              refine h_doN [5, 7] (by kernel_rfl) (by simp) ⟨?_, ?_, trivial⟩
              · skip
                refine w_op 5 rfl ?_
                refine g_call1 rfl rfl rfl Try.call24 (fun w hS => cwith_any s0 48 57 (by decide) (by decide) w) ?_
                refine g_nil ?_
                refine h_and (fun w h => h.sub (.cons _ (.cons _ (.cons_cons _ (.cons _ .slnil))))) ?_
                refine h_do 7 rfl (by kernel_rfl) ?_
                refine g_alloc rfl rfl Try.zeroValue27 rfl (fun b98 => ?_)
                refine g_nil ?_
                refine h_and (fun w h => h.sub (.cons _ (.cons _ (.cons _ (.cons_cons _ (.cons _ .slnil)))))) ?_
                refine g_perm (.swap _ _ _) ?_
                exact h_fall (hm (b97, b98, b92)) [0, 2, 3, 4, 5, 6, 7, 10, 12, 14] (by kernel_rfl) rfl (fun w h => h.sub (.cons_cons _ (.cons_cons _ (.cons_cons _ (.cons_cons _ (.cons_cons _ .slnil))))))
              · skip
                refine w_op 7 rfl ?_
                refine g_alloc rfl rfl Try.zeroValue27 rfl (fun b99 => ?_)
                refine g_nil ?_
                refine h_and (fun w h => h.sub (.cons _ (.cons _ (.cons _ (.cons_cons _ (.cons _ .slnil)))))) ?_
                refine h_do 5 rfl (by kernel_rfl) ?_
                refine g_call1 rfl rfl rfl Try.call24 (fun w hS => cwith_any s0 48 57 (by decide) (by decide) w) ?_
                refine g_nil ?_
                refine h_and (fun w h => h.sub (.cons _ (.cons _ (.cons _ (.cons_cons _ (.cons _ .slnil)))))) ?_
                refine g_perm (.swap _ _ _) ?_
                exact h_fall (hm (b97, b99, b92)) [0, 2, 3, 4, 5, 6, 7, 10, 12, 14] (by kernel_rfl) rfl (fun w h => h.sub (.cons_cons _ (.cons_cons _ (.cons_cons _ (.cons_cons _ (.cons_cons _ .slnil))))))
            · skip
              refine w_op 7 rfl ?_
              refine g_alloc rfl rfl Try.zeroValue27 rfl (fun b100 => ?_)
              refine g_nil ?_
              refine h_and (fun w h => h.sub (.cons _ (.cons _ (.cons_cons _ (.cons _ .slnil))))) ?_
              refine h_doN [5, 6] (by kernel_rfl) (by simp) ⟨?_, ?_, trivial⟩
              · skip
                refine w_op 5 rfl ?_
                refine g_call1 rfl rfl rfl Try.call24 (fun w hS => cwith_any s0 48 57 (by decide) (by decide) w) ?_
                refine g_nil ?_
                refine h_and (fun w h => h.sub (.cons _ (.cons _ (.cons_cons _ (.cons _ .slnil))))) ?_
                refine h_do 6 rfl (by kernel_rfl) ?_
                refine g_alloc rfl rfl Try.zeroValue27 rfl (fun b101 => ?_)
                refine g_nil ?_
                refine h_and (fun w h => h.sub (.cons _ (.cons _ (.cons _ (.cons_cons _ (.cons _ .slnil)))))) ?_
                exact h_fall (hm (b101, b100, b92)) [0, 2, 3, 4, 5, 6, 7, 10, 12, 14] (by kernel_rfl) rfl (fun w h => h.sub (.cons_cons _ (.cons_cons _ (.cons_cons _ (.cons_cons _ (.cons_cons _ .slnil))))))
              · skip
                refine w_op 6 rfl ?_
                refine g_alloc rfl rfl Try.zeroValue27 rfl (fun b102 => ?_)
                refine g_nil ?_
                refine h_and (fun w h => h.sub (.cons _ (.cons _ (.cons _ (.cons_cons _ (.cons _ .slnil)))))) ?_
                refine h_do 5 rfl (by kernel_rfl) ?_
                refine g_call1 rfl rfl rfl Try.call24 (fun w hS => cwith_any s0 48 57 (by decide) (by decide) w) ?_
                refine g_nil ?_
                refine h_and (fun w h => h.sub (.cons _ (.cons _ (.cons _ (.cons_cons _ (.cons _ .slnil)))))) ?_
                exact h_fall (hm (b102, b100, b92)) [0, 2, 3, 4, 5, 6, 7, 10, 12, 14] (by kernel_rfl) rfl (fun w h => h.sub (.cons_cons _ (.cons_cons _ (.cons_cons _ (.cons_cons _ (.cons_cons _ .slnil))))))
          · skip
            refine w_op 6 rfl ?_
            refine g_alloc rfl rfl Try.zeroValue27 rfl (fun b103 => ?_)
            refine g_nil ?_
            refine h_and (fun w h => h.sub (.cons _ (.cons _ (.cons_cons _ (.cons _ .slnil))))) ?_
            refine h_doN [3, 7] (by kernel_rfl) (by simp) ⟨?_, ?_, trivial⟩
            · skip
              refine w_op 3 rfl ?_
              refine g_call1 rfl rfl rfl Try.call24 (fun w hS => cwith_any s0 97 122 (by decide) (by decide) w) ?_
              refine g_nil ?_
              refine h_and (fun w h => h.sub (.cons _ (.cons _ (.cons_cons _ (.cons _ .slnil))))) ?_
              refine h_doN [5, 7] (by kernel_rfl) (by simp) ⟨?_, ?_, trivial⟩
              · skip
                refine w_op 5 rfl ?_
                refine g_call1 rfl rfl rfl Try.call24 (fun w hS => cwith_any s0 48 57 (by decide) (by decide) w) ?_
                refine g_nil ?_
                refine h_and (fun w h => h.sub (.cons _ (.cons _ (.cons_cons _ (.cons _ .slnil))))) ?_
                refine h_do 7 rfl (by kernel_rfl) ?_
                refine g_alloc rfl rfl Try.zeroValue27 rfl (fun b104 => ?_)
                refine g_nil ?_
                refine h_and (fun w h => h.sub (.cons _ (.cons _ (.cons _ (.cons_cons _ (.cons _ .slnil)))))) ?_
                refine g_perm (.swap _ _ _) ?_
                exact h_fall (hm (b103, b104, b92)) [0, 2, 3, 4, 5, 6, 7, 10, 12, 14] (by kernel_rfl) rfl (fun w h => h.sub (.cons_cons _ (.cons_cons _ (.cons_cons _ (.cons_cons _ (.cons_cons _ .slnil))))))
              · skip
                refine w_op 7 rfl ?_
                refine g_alloc rfl rfl Try.zeroValue27 rfl (fun b105 => ?_)
                refine g_nil ?_
                refine h_and (fun w h => h.sub (.cons _ (.cons _ (.cons _ (.cons_cons _ (.cons _ .slnil)))))) ?_
                refine h_do 5 rfl (by kernel_rfl) ?_
                refine g_call1 rfl rfl rfl Try.call24 (fun w hS => cwith_any s0 48 57 (by decide) (by decide) w) ?_
                refine g_nil ?_
                refine h_and (fun w h => h.sub (.cons _ (.cons _ (.cons _ (.cons_cons _ (.cons _ .slnil)))))) ?_
                refine g_perm (.swap _ _ _) ?_
                exact h_fall (hm (b103, b105, b92)) [0, 2, 3, 4, 5, 6, 7, 10, 12, 14] (by kernel_rfl) rfl (fun w h => h.sub (.cons_cons _ (.cons_cons _ (.cons_cons _ (.cons_cons _ (.cons_cons _ .slnil))))))
            · skip
              refine w_op 7 rfl ?_
              refine g_alloc rfl rfl Try.zeroValue27 rfl (fun b106 => ?_)
              refine g_nil ?_
              refine h_and (fun w h => h.sub (.cons _ (.cons _ (.cons _ (.cons_cons _ (.cons _ .slnil)))))) ?_
              refine h_do 3 rfl (by kernel_rfl) ?_
              refine g_call1 rfl rfl rfl Try.call24 (fun w hS => cwith_any s0 97 122 (by decide) (by decide) w) ?_
              refine g_nil ?_
              refine h_and (fun w h => h.sub (.cons _ (.cons _ (.cons _ (.cons_cons _ (.cons _ .slnil)))))) ?_
              refine h_do 5 rfl (by kernel_rfl) ?_
              refine g_call1 rfl rfl rfl Try.call24 (fun w hS => cwith_any s0 48 57 (by decide) (by decide) w) ?_
              refine g_nil ?_
              refine h_and (fun w h => h.sub (.cons _ (.cons _ (.cons _ (.cons_cons _ (.cons _ .slnil)))))) ?_
              refine g_perm (.swap _ _ _) ?_
              exact h_fall (hm (b103, b106, b92)) [0, 2, 3, 4, 5, 6, 7, 10, 12, 14] (by kernel_rfl) rfl (fun w h => h.sub (.cons_cons _ (.cons_cons _ (.cons_cons _ (.cons_cons _ (.cons_cons _ .slnil))))))
          · skip
            refine w_op 7 rfl ?_
            refine g_alloc rfl rfl Try.zeroValue27 rfl (fun b107 => ?_)
            refine g_nil ?_
            refine h_and (fun w h => h.sub (.cons _ (.cons _ (.cons_cons _ (.cons _ .slnil))))) ?_
            refine h_doN [3, 6] (by kernel_rfl) (by simp) ⟨?_, ?_, trivial⟩
            · skip
              refine w_op 3 rfl ?_
              refine g_call1 rfl rfl rfl Try.call24 (fun w hS => cwith_any s0 97 122 (by decide) (by decide) w) ?_
              refine g_nil ?_
              refine h_and (fun w h => h.sub (.cons _ (.cons _ (.cons_cons _ (.cons _ .slnil))))) ?_
              refine h_doN [5, 6] (by kernel_rfl) (by simp) ⟨?_, ?_, trivial⟩
              · skip
                refine w_op 5 rfl ?_
                refine g_call1 rfl rfl rfl Try.call24 (fun w hS => cwith_any s0 48 57 (by decide) (by decide) w) ?_
                refine g_nil ?_
                refine h_and (fun w h => h.sub (.cons _ (.cons _ (.cons_cons _ (.cons _ .slnil))))) ?_
                refine h_do 6 rfl (by kernel_rfl) ?_
                refine g_alloc rfl rfl Try.zeroValue27 rfl (fun b108 => ?_)
                refine g_nil ?_
                refine h_and (fun w h => h.sub (.cons _ (.cons _ (.cons _ (.cons_cons _ (.cons _ .slnil)))))) ?_
                exact h_fall (hm (b108, b107, b92)) [0, 2, 3, 4, 5, 6, 7, 10, 12, 14] (by kernel_rfl) rfl (fun w h => h.sub (.cons_cons _ (.cons_cons _ (.cons_cons _ (.cons_cons _ (.cons_cons _ .slnil))))))
              · skip
                refine w_op 6 rfl ?_
                refine g_alloc rfl rfl Try.zeroValue27 rfl (fun b109 => ?_)
                refine g_nil ?_
                refine h_and (fun w h => h.sub (.cons _ (.cons _ (.cons _ (.cons_cons _ (.cons _ .slnil)))))) ?_
                refine h_do 5 rfl (by kernel_rfl) ?_
                refine g_call1 rfl rfl rfl Try.call24 (fun w hS => cwith_any s0 48 57 (by decide) (by decide) w) ?_
                refine g_nil ?_
                refine h_and (fun w h => h.sub (.cons _ (.cons _ (.cons _ (.cons_cons _ (.cons _ .slnil)))))) ?_
                exact h_fall (hm (b109, b107, b92)) [0, 2, 3, 4, 5, 6, 7, 10, 12, 14] (by kernel_rfl) rfl (fun w h => h.sub (.cons_cons _ (.cons_cons _ (.cons_cons _ (.cons_cons _ (.cons_cons _ .slnil))))))
            · skip
              refine w_op 6 rfl ?_
              refine g_alloc rfl rfl Try.zeroValue27 rfl (fun b110 => ?_)
              refine g_nil ?_
              refine h_and (fun w h => h.sub (.cons _ (.cons _ (.cons _ (.cons_cons _ (.cons _ .slnil)))))) ?_
              refine h_do 3 rfl (by kernel_rfl) ?_
              refine g_call1 rfl rfl rfl Try.call24 (fun w hS => cwith_any s0 97 122 (by decide) (by decide) w) ?_
              refine g_nil ?_
              refine h_and (fun w h => h.sub (.cons _ (.cons _ (.cons _ (.cons_cons _ (.cons _ .slnil)))))) ?_
              refine h_do 5 rfl (by kernel_rfl) ?_
              refine g_call1 rfl rfl rfl Try.call24 (fun w hS => cwith_any s0 48 57 (by decide) (by decide) w) ?_
              refine g_nil ?_
              refine h_and (fun w h => h.sub (.cons _ (.cons _ (.cons _ (.cons_cons _ (.cons _ .slnil)))))) ?_
              exact h_fall (hm (b110, b107, b92)) [0, 2, 3, 4, 5, 6, 7, 10, 12, 14] (by kernel_rfl) rfl (fun w h => h.sub (.cons_cons _ (.cons_cons _ (.cons_cons _ (.cons_cons _ (.cons_cons _ .slnil))))))
      · skip
        refine w_op 6 rfl ?_
        refine g_alloc rfl rfl Try.zeroValue27 rfl (fun b111 => ?_)
        refine g_nil ?_
        refine h_and (fun w h => h.sub (.cons _ (.cons_cons _ (.cons _ .slnil)))) ?_
        refine h_doN [1, 7, 8] (by kernel_rfl) (by simp) ⟨?_, ?_, ?_, trivial⟩
        · skip
          refine w_op 1 rfl ?_
          refine g_call1 rfl rfl rfl Try.call24 (fun w hS => cwith_any s0 65 90 (by decide) (by decide) w) ?_
          refine g_nil ?_
          refine h_and (fun w h => h.sub (.cons _ (.cons_cons _ (.cons _ .slnil)))) ?_
          refine h_doN [3, 7, 8] (by kernel_rfl) (by simp) ⟨?_, ?_, ?_, trivial⟩
          · skip
            refine w_op 3 rfl ?_
            refine g_call1 rfl rfl rfl Try.call24 (fun w hS => cwith_any s0 97 122 (by decide) (by decide) w) ?_
            refine g_nil ?_
            refine h_and (fun w h => h.sub (.cons _ (.cons_cons _ (.cons _ .slnil)))) ?_
            refine h_doN [5, 7, 8] (by kernel_rfl) (by simp) ⟨?_, ?_, ?_, trivial⟩
            · skip
              refine w_op 5 rfl ?_
              refine g_call1 rfl rfl rfl Try.call24 (fun w hS => cwith_any s0 48 57 (by decide) (by decide) w) ?_
              refine g_nil ?_
              refine h_and (fun w h => h.sub (.cons _ (.cons_cons _ (.cons _ .slnil)))) ?_
              refine h_doN [7, 8] (by kernel_rfl) (by simp) ⟨?_, ?_, trivial⟩
              · skip
                refine w_op 7 rfl ?_
                refine g_alloc rfl rfl Try.zeroValue27 rfl (fun b112 => ?_)
                refine g_nil ?_
                refine h_and (fun w h => h.sub (.cons _ (.cons _ (.cons_cons _ (.cons _ .slnil))))) ?_
                refine h_do 8 rfl (by kernel_rfl) ?_
                refine g_alloc rfl rfl Try.zeroValue27 rfl (fun b113 => ?_)
                refine g_nil ?_
                refine h_and (fun w h => h.sub (.cons _ (.cons _ (.cons _ (.cons_cons _ (.cons _ .slnil)))))) ?_
                refine g_perm (.trans (.cons _ (.swap _ _ _)) (.trans (.swap _ _ _) (.cons _ (.swap _ _ _)))) ?_
                exact h_fall (hm (b111, b112, b113)) [0, 2, 3, 4, 5, 6, 7, 10, 12, 14] (by kernel_rfl) rfl (fun w h => h.sub (.cons_cons _ (.cons_cons _ (.cons_cons _ (.cons_cons _ (.cons_cons _ .slnil))))))
              · skip
                refine w_op 8 rfl ?_
                refine g_alloc rfl rfl Try.zeroValue27 rfl (fun b114 => ?_)
                refine g_nil ?_
                refine h_and (fun w h => h.sub (.cons _ (.cons _ (.cons_cons _ (.cons _ .slnil))))) ?_
                refine h_do 7 rfl (by kernel_rfl) ?_
                refine g_alloc rfl rfl Try.zeroValue27 rfl (fun b115 => ?_)
                refine g_nil ?_
                refine h_and (fun w h => h.sub (.cons _ (.cons _ (.cons _ (.cons_cons _ (.cons _ .slnil)))))) ?_
                refine g_perm (.trans (.cons _ (.swap _ _ _)) (.swap _ _ _)) ?_
                exact h_fall (hm (b111, b115, b114)) [0, 2, 3, 4, 5, 6, 7, 10, 12, 14] (by kernel_rfl) rfl (fun w h => h.sub (.cons_cons _ (.cons_cons _ (.cons_cons _ (.cons_cons _ (.cons_cons _ .slnil))))))
            · skip
              refine w_op 7 rfl ?_
              refine g_alloc rfl rfl Try.zeroValue27 rfl (fun b116 => ?_)
              refine g_nil ?_
              refine h_and (fun w h => h.sub (.cons _ (.cons _ (.cons_cons _ (.cons _ .slnil))))) ?_
              refine h_doN [5, 8] (by kernel_rfl) (by simp) ⟨?_, ?_, trivial⟩
              · skip
                refine w_op 5 rfl ?_
                refine g_call1 rfl rfl rfl Try.call24 (fun w hS => cwith_any s0 48 57 (by decide) (by decide) w) ?_
                refine g_nil ?_
                refine h_and (fun w h => h.sub (.cons _ (.cons _ (.cons_cons _ (.cons _ .slnil))))) ?_
                refine h_do 8 rfl (by kernel_rfl) ?_
                refine g_alloc rfl rfl Try.zeroValue27 rfl (fun b117 => ?_)
                refine g_nil ?_
                refine h_and (fun w h => h.sub (.cons _ (.cons _ (.cons _ (.cons_cons _ (.cons _ .slnil)))))) ?_
                refine g_perm (.trans (.cons _ (.swap _ _ _)) (.trans (.swap _ _ _) (.cons _ (.swap _ _ _)))) ?_
                exact h_fall (hm (b111, b116, b117)) [0, 2, 3, 4, 5, 6, 7, 10, 12, 14] (by kernel_rfl) rfl (fun w h => h.sub (.cons_cons _ (.cons_cons _ (.cons_cons _ (.cons_cons _ (.cons_cons _ .slnil))))))
              · skip
                refine w_op 8 rfl ?_
                refine g_alloc rfl rfl Try.zeroValue27 rfl (fun b118 => ?_)
                refine g_nil ?_
                refine h_and (fun w h => h.sub (.cons _ (.cons _ (.cons _ (.cons_cons _ (.cons _ .slnil)))))) ?_
                refine h_do 5 rfl (by kernel_rfl) ?_
                refine g_call1 rfl rfl rfl Try.call24 (fun w hS => cwith_any s0 48 57 (by decide) (by decide) w) ?_
                refine g_nil ?_
                refine h_and (fun w h => h.sub (.cons _ (.cons _ (.cons _ (.cons_cons _ (.cons _ .slnil)))))) ?_
                refine g_perm (.trans (.cons _ (.swap _ _ _)) (.trans (.swap _ _ _) (.cons _ (.swap _ _ _)))) ?_
                exact h_fall (hm (b111, b116, b118)) [0, 2, 3, 4, 5, 6, 7, 10, 12, 14] (by kernel_rfl) rfl (fun w h => h.sub (.cons_cons _ (.cons_cons _ (.cons_cons _ (.cons_cons _ (.cons_cons _ .slnil))))))
            · skip
              refine w_op 8 rfl ?_
              refine g_alloc rfl rfl Try.zeroValue27 rfl (fun b119 => ?_)
              refine g_nil ?_
              refine h_and (fun w h => h.sub (.cons _ (.cons _ (.cons_cons _ (.cons _ .slnil))))) ?_
              refine h_doN [5, 7] (by kernel_rfl) (by simp) ⟨?_, ?_, trivial⟩
              · skip
                refine w_op 5 rfl ?_
                refine g_call1 rfl rfl rfl Try.call24 (fun w hS => cwith_any s0 48 57 (by decide) (by decide) w) ?_
                refine g_nil ?_
                refine h_and (fun w h => h.sub (.cons _ (.cons _ (.cons_cons _ (.cons _ .slnil))))) ?_
                refine h_do 7 rfl (by kernel_rfl) ?_
                refine g_alloc rfl rfl Try.zeroValue27 rfl (fun b120 => ?_)
                refine g_nil ?_
                refine h_and (fun w h => h.sub (.cons _ (.cons _ (.cons _ (.cons_cons _ (.cons _ .slnil)))))) ?_
                refine g_perm (.trans (.cons _ (.swap _ _ _)) (.swap _ _ _)) ?_
                exact h_fall (hm (b111, b120, b119)) [0, 2, 3, 4, 5, 6, 7, 10, 12, 14] (by kernel_rfl) rfl (fun w h => h.sub (.cons_cons _ (.cons_cons _ (.cons_cons _ (.cons_cons _ (.cons_cons _ .slnil))))))
              · skip
                refine w_op 7 rfl ?_
                refine g_alloc rfl rfl Try.zeroValue27 rfl (fun b121 => ?_)
                refine g_nil ?_
                refine h_and (fun w h => h.sub (.cons _ (.cons _ (.cons _ (.cons_cons _ (.cons _ .slnil)))))) ?_
                refine h_do 5 rfl (by kernel_rfl) ?_
                refine g_call1 rfl rfl rfl Try.call24 (fun w hS => cwith_any s0 48 57 (by decide) (by decide) w) ?_
                refine g_nil ?_
                refine h_and (fun w h => h.sub (.cons _ (.cons _ (.cons _ (.cons_cons _ (.cons _ .slnil)))))) ?_
                refine g_perm (.trans (.cons _ (.swap _ _ _)) (.swap _ _ _)) ?_
                exact h_fall (hm (b111, b121, b119)) [0, 2, 3, 4, 5, 6, 7, 10, 12, 14] (by kernel_rfl) rfl (fun w h => h.sub (.cons_cons _ (.cons_cons _ (.cons_cons _ (.cons_cons _ (.cons_cons _ .slnil))))))
          · skip
            refine w_op 7 rfl ?_
            refine g_alloc rfl rfl Try.zeroValue27 rfl (fun b122 => ?_)
            refine g_nil ?_
            refine h_and (fun w h => h.sub (.cons _ (.cons _ (.cons_cons _ (.cons _ .slnil))))) ?_
            refine h_doN [3, 8] (by kernel_rfl) (by simp) ⟨?_, ?_, trivial⟩
            · skip
              refine w_op 3 rfl ?_
              refine g_call1 rfl rfl rfl Try.call24 (fun w hS => cwith_any s0 97 122 (by decide) (by decide) w) ?_
              refine g_nil ?_
              refine h_and (fun w h => h.sub (.cons _ (.cons _ (.cons_cons _ (.cons _ .slnil))))) ?_
              refine h_doN [5, 8] (by kernel_rfl) (by simp) ⟨?_, ?_, trivial⟩
              · skip
                refine w_op 5 rfl ?_
                refine g_call1 rfl rfl rfl Try.call24 (fun w hS => cwith_any s0 48 57 (by decide) (by decide) w) ?_
                refine g_nil ?_
                refine h_and (fun w h => h.sub (.cons _ (.cons _ (.cons_cons _ (.cons _ .slnil))))) ?_
                refine h_do 8 rfl (by kernel_rfl) ?_
                refine g_alloc rfl rfl Try.zeroValue27 rfl (fun b123 => ?_)
                refine g_nil ?_
                refine h_and (fun w h => h.sub (.cons _ (.cons _ (.cons _ (.cons_cons _ (.cons _ .slnil)))))) ?_
                refine g_perm (.trans (.cons _ (.swap _ _ _)) (.trans (.swap _ _ _) (.cons _ (.swap _ _ _)))) ?_
                exact h_fall (hm (b111, b122, b123)) [0, 2, 3, 4, 5, 6, 7, 10, 12, 14] (by kernel_rfl) rfl (fun w h => h.sub (.cons_cons _ (.cons_cons _ (.cons_cons _ (.cons_cons _ (.cons_cons _ .slnil))))))
              · skip
                refine w_op 8 rfl ?_
                refine g_alloc rfl rfl Try.zeroValue27 rfl (fun b124 => ?_)
                refine g_nil ?_
                refine h_and (fun w h => h.sub (.cons _ (.cons _ (.cons _ (.cons_cons _ (.cons _ .slnil)))))) ?_
                refine h_do 5 rfl (by kernel_rfl) ?_
                refine g_call1 rfl rfl rfl Try.call24 (fun w hS => cwith_any s0 48 57 (by decide) (by decide) w) ?_
                refine g_nil ?_
                refine h_and (fun w h => h.sub (.cons _ (.cons _ (.cons _ (.cons_cons _ (.cons _ .slnil)))))) ?_
                refine g_perm (.trans (.cons _ (.swap _ _ _)) (.trans (.swap _ _ _) (.cons _ (.swap _ _ _)))) ?_
                exact h_fall (hm (b111, b122, b124)) [0, 2, 3, 4, 5, 6, 7, 10, 12, 14] (by kernel_rfl) rfl (fun w h => h.sub (.cons_cons _ (.cons_cons _ (.cons_cons _ (.cons_cons _ (.cons_cons _ .slnil))))))
            · skip
              refine w_op 8 rfl ?_
              refine g_alloc rfl rfl Try.zeroValue27 rfl (fun b125 => ?_)
              refine g_nil ?_
              refine h_and (fun w h => h.sub (.cons _ (.cons _ (.cons _ (.cons_cons _ (.cons _ .slnil)))))) ?_
              refine h_do 3 rfl (by kernel_rfl) ?_
              refine g_call1 rfl rfl rfl Try.call24 (fun w hS => cwith_any s0 97 122 (by decide) (by decide) w) ?_
              refine g_nil ?_
              refine h_and (fun w h => h.sub (.cons _ (.cons _ (.cons _ (.cons_cons _ (.cons _ .slnil)))))) ?_
              refine h_do 5 rfl (by kernel_rfl) ?_
              refine g_call1 rfl rfl rfl Try.call24 (fun w hS => cwith_any s0 48 57 (by decide) (by decide) w) ?_
              refine g_nil ?_
              refine h_and (fun w h => h.sub (.cons _ (.cons _ (.cons _ (.cons_cons _ (.cons _ .slnil)))))) ?_
              refine g_perm (.trans (.cons _ (.swap _ _ _)) (.trans (.swap _ _ _) (.cons _ (.swap _ _ _)))) ?_
              exact h_fall (hm (b111, b122, b125)) [0, 2, 3, 4, 5, 6, 7, 10, 12, 14] (by kernel_rfl) rfl (fun w h => h.sub (.cons_cons _ (.cons_cons _ (.cons_cons _ (.cons_cons _ (.cons_cons _ .slnil))))))
          · skip
            refine w_op 8 rfl ?_
            refine g_alloc rfl rfl Try.zeroValue27 rfl (fun b126 => ?_)
            refine g_nil ?_
            refine h_and (fun w h => h.sub (.cons _ (.cons _ (.cons_cons _ (.cons _ .slnil))))) ?_
            refine h_doN [3, 7] (by kernel_rfl) (by simp) ⟨?_, ?_, trivial⟩
            · skip
              refine w_op 3 rfl ?_
              refine g_call1 rfl rfl rfl Try.call24 (fun w hS => cwith_any s0 97 122 (by decide) (by decide) w) ?_
              refine g_nil ?_
              refine h_and (fun w h => h.sub (.cons _ (.cons _ (.cons_cons _ (.cons _ .slnil))))) ?_
              refine h_doN [5, 7] (by kernel_rfl) (by simp) ⟨?_, ?_, trivial⟩
              · skip
                refine w_op 5 rfl ?_
                refine g_call1 rfl rfl rfl Try.call24 (fun w hS => cwith_any s0 48 57 (by decide) (by decide) w) ?_
                refine g_nil ?_
                refine h_and (fun w h => h.sub (.cons _ (.cons _ (.cons_cons _ (.cons _ .slnil))))) ?_
                refine h_do 7 rfl (by kernel_rfl) ?_
                refine g_alloc rfl rfl Try.zeroValue27 rfl (fun b127 => ?_)
                refine g_nil ?_
                refine h_and (fun w h => h.sub (.cons _ (.cons _ (.cons _ (.cons_cons _ (.cons _ .slnil)))))) ?_
                refine g_perm (.trans (.cons _ (.swap _ _ _)) (.swap _ _ _)) ?_
                exact h_fall (hm (b111, b127, b126)) [0, 2, 3, 4, 5, 6, 7, 10, 12, 14] (by kernel_rfl) rfl (fun w h => h.sub (.cons_cons _ (.cons_cons _ (.cons_cons _ (.cons_cons _ (.cons_cons _ .slnil))))))
              · skip
                refine w_op 7 rfl ?_
                refine g_alloc rfl rfl Try.zeroValue27 rfl (fun b128 => ?_)
                refine g_nil ?_
                refine h_and (fun w h => h.sub (.cons _ (.cons _ (.cons _ (.cons_cons _ (.cons _ .slnil)))))) ?_
                refine h_do 5 rfl (by kernel_rfl) ?_
                refine g_call1 rfl rfl rfl Try.call24 (fun w hS => cwith_any s0 48 57 (by decide) (by decide) w) ?_
                refine g_nil ?_
                refine h_and (fun w h => h.sub (.cons _ (.cons _ (.cons _ (.cons_cons _ (.cons _ .slnil)))))) ?_
                refine g_perm (.trans (.cons _ (.swap _ _ _)) (.swap _ _ _)) ?_
                exact h_fall (hm (b111, b128, b126)) [0, 2, 3, 4, 5, 6, 7, 10, 12, 14] (by kernel_rfl) rfl (fun w h => h.sub (.cons_cons _ (.cons_cons _ (.cons_cons _ (.cons_cons _ (.cons_cons _ .slnil))))))
            · skip
              refine w_op 7 rfl ?_
              refine g_alloc rfl rfl Try.zeroValue27 rfl (fun b129 => ?_)
              refine g_nil ?_
              refine h_and (fun w h => h.sub (.cons _ (.cons _ (.cons _ (.cons_cons _ (.cons _ .slnil)))))) ?_
              refine h_do 3 rfl (by kernel_rfl) ?_
              refine g_call1 rfl rfl rfl Try.call24 (fun w hS => cwith_any s0 97 122 (by decide) (by decide) w) ?_
              refine g_nil ?_
              refine h_and (fun w h => h.sub (.cons _ (.cons _ (.cons _ (.cons_cons _ (.cons _ .slnil)))))) ?_
              refine h_do 5 rfl (by kernel_rfl) ?_
              refine g_call1 rfl rfl rfl Try.call24 (fun w hS => cwith_any s0 48 57 (by decide) (by decide) w) ?_
              refine g_nil ?_
              refine h_and (fun w h => h.sub (.cons _ (.cons _ (.cons _ (.cons_cons _ (.cons _ .slnil)))))) ?_
              refine g_perm (.trans (.cons _ (.swap _ _ _)) (.swap _ _ _)) ?_
              exact h_fall (hm (b111, b129, b126)) [0, 2, 3, 4, 5, 6, 7, 10, 12, 14] (by kernel_rfl) rfl (fun w h => h.sub (.cons_cons _ (.cons_cons _ (.cons_cons _ (.cons_cons _ (.cons_cons _ .slnil))))))
        · skip
          refine w_op 7 rfl ?_
          refine g_alloc rfl rfl Try.zeroValue27 rfl (fun b130 => ?_)
          refine g_nil ?_
          refine h_and (fun w h => h.sub (.cons _ (.cons _ (.cons_cons _ (.cons _ .slnil))))) ?_
          refine h_doN [1, 8] (by kernel_rfl) (by simp) ⟨?_, ?_, trivial⟩
          · skip
            refine w_op 1 rfl ?_
            refine g_call1 rfl rfl rfl Try.call24 (fun w hS => cwith_any s0 65 90 (by decide) (by decide) w) ?_
            refine g_nil ?_
            refine h_and (fun w h => h.sub (.cons _ (.cons _ (.cons_cons _ (.cons _ .slnil))))) ?_
            refine h_doN [3, 8] (by kernel_rfl) (by simp) ⟨?_, ?_, trivial⟩
            · skip
              refine w_op 3 rfl ?_
              refine g_call1 rfl rfl rfl Try.call24 (fun w hS => cwith_any s0 97 122 (by decide) (by decide) w) ?_
              refine g_nil ?_
              refine h_and (fun w h => h.sub (.cons _ (.cons _ (.cons_cons _ (.cons _ .slnil))))) ?_
              refine h_doN [5, 8] (by kernel_rfl) (by simp) ⟨?_, ?_, trivial⟩
              · skip
                refine w_op 5 rfl ?_
                refine g_call1 rfl rfl rfl Try.call24 (fun w hS => cwith_any s0 48 57 (by decide) (by decide) w) ?_
                refine g_nil ?_
                refine h_and (fun w h => h.sub (.cons _ (.cons _ (.cons_cons _ (.cons _ .slnil))))) ?_
                refine h_do 8 rfl (by kernel_rfl) ?_
                refine g_alloc rfl rfl Try.zeroValue27 rfl (fun b131 => ?_)
                refine g_nil ?_
                refine h_and (fun w h => h.sub (.cons _ (.cons _ (.cons _ (.cons_cons _ (.cons _ .slnil)))))) ?_
                refine g_perm (.trans (.cons _ (.swap _ _ _)) (.trans (.swap _ _ _) (.cons _ (.swap _ _ _)))) ?_
                exact h_fall (hm (b111, b130, b131)) [0, 2, 3, 4, 5, 6, 7, 10, 12, 14] (by kernel_rfl) rfl (fun w h => h.sub (.cons_cons _ (.cons_cons _ (.cons_cons _ (.cons_cons _ (.cons_cons _ .slnil))))))
              · skip
                refine w_op 8 rfl ?_
                refine g_alloc rfl rfl Try.zeroValue27 rfl (fun b132 => ?_)
                refine g_nil ?_
                refine h_and (fun w h => h.sub (.cons _ (.cons _ (.cons _ (.cons_cons _ (.cons _ .slnil)))))) ?_
                refine h_do 5 rfl (by kernel_rfl) ?_
                refine g_call1 rfl rfl rfl Try.call24 (fun w hS => cwith_any s0 48 57 (by decide) (by decide) w) ?_
                refine g_nil ?_
                refine h_and (fun w h => h.sub (.cons _ (.cons _ (.cons _ (.cons_cons _ (.cons _ .slnil)))))) ?_
                refine g_perm (.trans (.cons _ (.swap _ _ _)) (.trans (.swap _ _ _) (.cons _ (.swap _ _ _)))) ?_
                exact h_fall (hm (b111, b130, b132)) [0, 2, 3, 4, 5, 6, 7, 10, 12, 14] (by kernel_rfl) rfl (fun w h => h.sub (.cons_cons _ (.cons_cons _ (.cons_cons _ (.cons_cons _ (.cons_cons _ .slnil))))))
            · skip
              refine w_op 8 rfl ?_
              refine g_alloc rfl rfl Try.zeroValue27 rfl (fun b133 => ?_)
              refine g_nil ?_
              refine h_and (fun w h => h.sub (.cons _ (.cons _ (.cons _ (.cons_cons _ (.cons _ .slnil)))))) ?_
              refine h_do 3 rfl (by kernel_rfl) ?_
              refine g_call1 rfl rfl rfl Try.call24 (fun w hS => cwith_any s0 97 122 (by decide) (by decide) w) ?_
              refine g_nil ?_
              refine h_and (fun w h => h.sub (.cons _ (.cons _ (.cons _ (.cons_cons _ (.cons _ .slnil)))))) ?_
              refine h_do 5 rfl (by kernel_rfl) ?_
              refine g_call1 rfl rfl rfl Try.call24 (fun w hS => cwith_any s0 48 57 (by decide) (by decide) w) ?_
              refine g_nil ?_
              refine h_and (fun w h => h.sub (.cons _ (.cons _ (.cons _ (.cons_cons _ (.cons _ .slnil)))))) ?_
              refine g_perm (.trans (.cons _ (.swap _ _ _)) (.trans (.swap _ _ _) (.cons _ (.swap _ _ _)))) ?_
              exact h_fall (hm (b111, b130, b133)) [0, 2, 3, 4, 5, 6, 7, 10, 12, 14] (by kernel_rfl) rfl (fun w h => h.sub (.cons_cons _ (.cons_cons _ (.cons_cons _ (.cons_cons _ (.cons_cons _ .slnil))))))
          · skip
            refine w_op 8 rfl ?_
            refine g_alloc rfl rfl Try.zeroValue27 rfl (fun b134 => ?_)
            refine g_nil ?_
            refine h_and (fun w h => h.sub (.cons _ (.cons _ (.cons _ (.cons_cons _ (.cons _ .slnil)))))) ?_
            refine h_do 1 rfl (by kernel_rfl) ?_
            refine g_call1 rfl rfl rfl Try.call24 (fun w hS => cwith_any s0 65 90 (by decide) (by decide) w) ?_
            refine g_nil ?_
            refine h_and (fun w h => h.sub (.cons _ (.cons _ (.cons _ (.cons_cons _ (.cons _ .slnil)))))) ?_
            refine h_do 3 rfl (by kernel_rfl) ?_
            refine g_call1 rfl rfl rfl Try.call24 (fun w hS => cwith_any s0 97 122 (by decide) (by decide) w) ?_
            refine g_nil ?_
            refine h_and (fun w h => h.sub (.cons _ (.cons _ (.cons _ (.cons_cons _ (.cons _ .slnil)))))) ?_
            refine h_do 5 rfl (by kernel_rfl) ?_
            refine g_call1 rfl rfl rfl Try.call24 (fun w hS => cwith_any s0 48 57 (by decide) (by decide) w) ?_
            refine g_nil ?_
            refine h_and (fun w h => h.sub (.cons _ (.cons _ (.cons _ (.cons_cons _ (.cons _ .slnil)))))) ?_
            refine g_perm (.trans (.cons _ (.swap _ _ _)) (.trans (.swap _ _ _) (.cons _ (.swap _ _ _)))) ?_
            exact h_fall (hm (b111, b130, b134)) [0, 2, 3, 4, 5, 6, 7, 10, 12, 14] (by kernel_rfl) rfl (fun w h => h.sub (.cons_cons _ (.cons_cons _ (.cons_cons _ (.cons_cons _ (.cons_cons _ .slnil))))))
        · skip
          refine w_op 8 rfl ?_
          refine g_alloc rfl rfl Try.zeroValue27 rfl (fun b135 => ?_)
          refine g_nil ?_
          refine h_and (fun w h => h.sub (.cons _ (.cons _ (.cons_cons _ (.cons _ .slnil))))) ?_
          refine h_doN [1, 7] (by kernel_rfl) (by simp) ⟨?_, ?_, trivial⟩
          · skip
            refine w_op 1 rfl ?_
            refine g_call1 rfl rfl rfl Try.call24 (fun w hS => cwith_any s0 65 90 (by decide) (by decide) w) ?_
            refine g_nil ?_
            refine h_and (fun w h => h.sub (.cons _ (.cons _ (.cons_cons _ (.cons _ .slnil))))) ?_
            refine h_doN [3, 7] (by kernel_rfl) (by simp) ⟨?_, ?_, trivial⟩
            · skip
              refine w_op 3 rfl ?_
              refine g_call1 rfl rfl rfl Try.call24 (fun w hS => cwith_any s0 97 122 (by decide) (by decide) w) ?_
              refine g_nil ?_
              refine h_and (fun w h => h.sub (.cons _ (.cons _ (.cons_cons _ (.cons _ .slnil))))) ?_
              refine h_doN [5, 7] (by kernel_rfl) (by simp) ⟨?_, ?_, trivial⟩
              · skip
                refine w_op 5 rfl ?_
                refine g_call1 rfl rfl rfl Try.call24 (fun w hS => cwith_any s0 48 57 (by decide) (by decide) w) ?_
                refine g_nil ?_
                refine h_and (fun w h => h.sub (.cons _ (.cons _ (.cons_cons _ (.cons _ .slnil))))) ?_
                refine h_do 7 rfl (by kernel_rfl) ?_
                refine g_alloc rfl rfl Try.zeroValue27 rfl (fun b136 => ?_)
                refine g_nil ?_
                refine h_and (fun w h => h.sub (.cons _ (.cons _ (.cons _ (.cons_cons _ (.cons _ .slnil)))))) ?_
                refine g_perm (.trans (.cons _ (.swap _ _ _)) (.swap _ _ _)) ?_
                exact h_fall (hm (b111, b136, b135)) [0, 2, 3, 4, 5, 6, 7, 10, 12, 14] (by kernel_rfl) rfl (fun w h => h.sub (.cons_cons _ (.cons_cons _ (.cons_cons _ (.cons_cons _ (.cons_cons _ .slnil))))))
              · skip
                refine w_op 7 rfl ?_
                refine g_alloc rfl rfl Try.zeroValue27 rfl (fun b137 => ?_)
                refine g_nil ?_
                refine h_and (fun w h => h.sub (.cons _ (.cons _ (.cons _ (.cons_cons _ (.cons _ .slnil)))))) ?_
                refine h_do 5 rfl (by kernel_rfl) ?_
                refine g_call1 rfl rfl rfl Try.call24 (fun w hS => cwith_any s0 48 57 (by decide) (by decide) w) ?_
                refine g_nil ?_
                refine h_and (fun w h => h.sub (.cons _ (.cons _ (.cons _ (.cons_cons _ (.cons _ .slnil)))))) ?_
                refine g_perm (.trans (.cons _ (.swap _ _ _)) (.swap _ _ _)) ?_
                exact h_fall (hm (b111, b137, b135)) [0, 2, 3, 4, 5, 6, 7, 10, 12, 14] (by kernel_rfl) rfl (fun w h => h.sub (.cons_cons _ (.cons_cons _ (.cons_cons _ (.cons_cons _ (.cons_cons _ .slnil))))))
            · skip
              refine w_op 7 rfl ?_
              refine g_alloc rfl rfl Try.zeroValue27 rfl (fun b138 => ?_)
              refine g_nil ?_
              refine h_and (fun w h => h.sub (.cons _ (.cons _ (.cons _ (.cons_cons _ (.cons _ .slnil)))))) ?_
              refine h_do 3 rfl (by kernel_rfl) ?_
              refine g_call1 rfl rfl rfl Try.call24 (fun w hS => cwith_any s0 97 122 (by decide) (by decide) w) ?_
              refine g_nil ?_
              refine h_and (fun w h => h.sub (.cons _ (.cons _ (.cons _ (.cons_cons _ (.cons _ .slnil)))))) ?_
              refine h_do 5 rfl (by kernel_rfl) ?_
              refine g_call1 rfl rfl rfl Try.call24 (fun w hS => cwith_any s0 48 57 (by decide) (by decide) w) ?_
              refine g_nil ?_
              refine h_and (fun w h => h.sub (.cons _ (.cons _ (.cons _ (.cons_cons _ (.cons _ .slnil)))))) ?_
              refine g_perm (.trans (.cons _ (.swap _ _ _)) (.swap _ _ _)) ?_
              exact h_fall (hm (b111, b138, b135)) [0, 2, 3, 4, 5, 6, 7, 10, 12, 14] (by kernel_rfl) rfl (fun w h => h.sub (.cons_cons _ (.cons_cons _ (.cons_cons _ (.cons_cons _ (.cons_cons _ .slnil))))))
          · skip
            refine w_op 7 rfl ?_
            refine g_alloc rfl rfl Try.zeroValue27 rfl (fun b139 => ?_)
            refine g_nil ?_
            refine h_and (fun w h => h.sub (.cons _ (.cons _ (.cons _ (.cons_cons _ (.cons _ .slnil)))))) ?_
            refine h_do 1 rfl (by kernel_rfl) ?_
            refine g_call1 rfl rfl rfl Try.call24 (fun w hS => cwith_any s0 65 90 (by decide) (by decide) w) ?_
            refine g_nil ?_
            refine h_and (fun w h => h.sub (.cons _ (.cons _ (.cons _ (.cons_cons _ (.cons _ .slnil)))))) ?_
            refine h_do 3 rfl (by kernel_rfl) ?_
            refine g_call1 rfl rfl rfl Try.call24 (fun w hS => cwith_any s0 97 122 (by decide) (by decide) w) ?_
            refine g_nil ?_
            refine h_and (fun w h => h.sub (.cons _ (.cons _ (.cons _ (.cons_cons _ (.cons _ .slnil)))))) ?_
            refine h_do 5 rfl (by kernel_rfl) ?_
            refine g_call1 rfl rfl rfl Try.call24 (fun w hS => cwith_any s0 48 57 (by decide) (by decide) w) ?_
            refine g_nil ?_
            refine h_and (fun w h => h.sub (.cons _ (.cons _ (.cons _ (.cons_cons _ (.cons _ .slnil)))))) ?_
            refine g_perm (.trans (.cons _ (.swap _ _ _)) (.swap _ _ _)) ?_
            exact h_fall (hm (b111, b139, b135)) [0, 2, 3, 4, 5, 6, 7, 10, 12, 14] (by kernel_rfl) rfl (fun w h => h.sub (.cons_cons _ (.cons_cons _ (.cons_cons _ (.cons_cons _ (.cons_cons _ .slnil))))))
      · skip
        refine w_op 7 rfl ?_
        refine g_alloc rfl rfl Try.zeroValue27 rfl (fun b140 => ?_)
        refine g_nil ?_
        refine h_and (fun w h => h.sub (.cons _ (.cons_cons _ (.cons _ .slnil)))) ?_
        refine h_doN [1, 6, 8] (by kernel_rfl) (by simp) ⟨?_, ?_, ?_, trivial⟩
        · skip
          refine w_op 1 rfl ?_
          refine g_call1 rfl rfl rfl Try.call24 (fun w hS => cwith_any s0 65 90 (by decide) (by decide) w) ?_
          refine g_nil ?_
          refine h_and (fun w h => h.sub (.cons _ (.cons_cons _ (.cons _ .slnil)))) ?_
          refine h_doN [3, 6, 8] (by kernel_rfl) (by simp) ⟨?_, ?_, ?_, trivial⟩
          · skip
            refine w_op 3 rfl ?_
            refine g_call1 rfl rfl rfl Try.call24 (fun w hS => cwith_any s0 97 122 (by decide) (by decide) w) ?_
            refine g_nil ?_
            refine h_and (fun w h => h.sub (.cons _ (.cons_cons _ (.cons _ .slnil)))) ?_
            refine h_doN [5, 6, 8] (by kernel_rfl) (by simp) ⟨?_, ?_, ?_, trivial⟩
            · skip
              refine w_op 5 rfl ?_
              refine g_call1 rfl rfl rfl Try.call24 (fun w hS => cwith_any s0 48 57 (by decide) (by decide) w) ?_
              refine g_nil ?_
              refine h_and (fun w h => h.sub (.cons _ (.cons_cons _ (.cons _ .slnil)))) ?_
              refine h_doN [6, 8] (by kernel_rfl) (by simp) ⟨?_, ?_, trivial⟩
              · skip
                refine w_op 6 rfl ?_
                refine g_alloc rfl rfl Try.zeroValue27 rfl (fun b141 => ?_)
                refine g_nil ?_
                refine h_and (fun w h => h.sub (.cons _ (.cons _ (.cons_cons _ (.cons _ .slnil))))) ?_
                refine h_do 8 rfl (by kernel_rfl) ?_
                refine g_alloc rfl rfl Try.zeroValue27 rfl (fun b142 => ?_)
                refine g_nil ?_
                refine h_and (fun w h => h.sub (.cons _ (.cons _ (.cons _ (.cons_cons _ (.cons _ .slnil)))))) ?_
                refine g_perm (.trans (.swap _ _ _) (.cons _ (.swap _ _ _))) ?_
                exact h_fall (hm (b141, b140, b142)) [0, 2, 3, 4, 5, 6, 7, 10, 12, 14] (by kernel_rfl) rfl (fun w h => h.sub (.cons_cons _ (.cons_cons _ (.cons_cons _ (.cons_cons _ (.cons_cons _ .slnil))))))
              · skip
                refine w_op 8 rfl ?_
                refine g_alloc rfl rfl Try.zeroValue27 rfl (fun b143 => ?_)
                refine g_nil ?_
                refine h_and (fun w h => h.sub (.cons _ (.cons _ (.cons_cons _ (.cons _ .slnil))))) ?_
                refine h_do 6 rfl (by kernel_rfl) ?_
                refine g_alloc rfl rfl Try.zeroValue27 rfl (fun b144 => ?_)
                refine g_nil ?_
                refine h_and (fun w h => h.sub (.cons _ (.cons _ (.cons _ (.cons_cons _ (.cons _ .slnil)))))) ?_
                refine g_perm (.cons _ (.swap _ _ _)) ?_
                exact h_fall (hm (b144, b140, b143)) [0, 2, 3, 4, 5, 6, 7, 10, 12, 14] (by kernel_rfl) rfl (fun w h => h.sub (.cons_cons _ (.cons_cons _ (.cons_cons _ (.cons_cons _ (.cons_cons _ .slnil))))))
            · skip
              refine w_op 6 rfl ?_
              refine g_alloc rfl rfl Try.zeroValue27 rfl (fun b145 => ?_)
              refine g_nil ?_
              refine h_and (fun w h => h.sub (.cons _ (.cons _ (.cons_cons _ (.cons _ .slnil))))) ?_
              refine h_doN [5, 8] (by kernel_rfl) (by simp) ⟨?_, ?_, trivial⟩
              · skip
                refine w_op 5 rfl ?_
                refine g_call1 rfl rfl rfl Try.call24 (fun w hS => cwith_any s0 48 57 (by decide) (by decide) w) ?_
                refine g_nil ?_
                refine h_and (fun w h => h.sub (.cons _ (.cons _ (.cons_cons _ (.cons _ .slnil))))) ?_
                refine h_do 8 rfl (by kernel_rfl) ?_
                refine g_alloc rfl rfl Try.zeroValue27 rfl (fun b146 => ?_)
                refine g_nil ?_
                refine h_and (fun w h => h.sub (.cons _ (.cons _ (.cons _ (.cons_cons _ (.cons _ .slnil)))))) ?_
                refine g_perm (.trans (.swap _ _ _) (.cons _ (.swap _ _ _))) ?_
                exact h_fall (hm (b145, b140, b146)) [0, 2, 3, 4, 5, 6, 7, 10, 12, 14] (by kernel_rfl) rfl (fun w h => h.sub (.cons_cons _ (.cons_cons _ (.cons_cons _ (.cons_cons _ (.cons_cons _ .slnil))))))
              · skip
                refine w_op 8 rfl ?_
                refine g_alloc rfl rfl Try.zeroValue27 rfl (fun b147 => ?_)
                refine g_nil ?_
                refine h_and (fun w h => h.sub (.cons _ (.cons _ (.cons _ (.cons_cons _ (.cons _ .slnil)))))) ?_
                refine h_do 5 rfl (by kernel_rfl) ?_
                refine g_call1 rfl rfl rfl Try.call24 (fun w hS => cwith_any s0 48 57 (by decide) (by decide) w) ?_
                refine g_nil ?_
                refine h_and (fun w h => h.sub (.cons _ (.cons _ (.cons _ (.cons_cons _ (.cons _ .slnil)))))) ?_
                refine g_perm (.trans (.swap _ _ _) (.cons _ (.swap _ _ _))) ?_
                exact h_fall (hm (b145, b140, b147)) [0, 2, 3, 4, 5, 6, 7, 10, 12, 14] (by kernel_rfl) rfl (fun w h => h.sub (.cons_cons _ (.cons_cons _ (.cons_cons _ (.cons_cons _ (.cons_cons _ .slnil))))))
            · skip
              refine w_op 8 rfl ?_
              refine g_alloc rfl rfl Try.zeroValue27 rfl (fun b148 => ?_)
              refine g_nil ?_
              refine h_and (fun w h => h.sub (.cons _ (.cons _ (.cons_cons _ (.cons _ .slnil))))) ?_
              refine h_doN [5, 6] (by kernel_rfl) (by simp) ⟨?_, ?_, trivial⟩
              · skip
                refine w_op 5 rfl ?_
                refine g_call1 rfl rfl rfl Try.call24 (fun w hS => cwith_any s0 48 57 (by decide) (by decide) w) ?_
                refine g_nil ?_
                refine h_and (fun w h => h.sub (.cons _ (.cons _ (.cons_cons _ (.cons _ .slnil))))) ?_
                refine h_do 6 rfl (by kernel_rfl) ?_
                refine g_alloc rfl rfl Try.zeroValue27 rfl (fun b149 => ?_)
                refine g_nil ?_
                refine h_and (fun w h => h.sub (.cons _ (.cons _ (.cons _ (.cons_cons _ (.cons _ .slnil)))))) ?_
                refine g_perm (.cons _ (.swap _ _ _)) ?_
                exact h_fall (hm (b149, b140, b148)) [0, 2, 3, 4, 5, 6, 7, 10, 12, 14] (by kernel_rfl) rfl (fun w h => h.sub (.cons_cons _ (.cons_cons _ (.cons_cons _ (.cons_cons _ (.cons_cons _ .slnil))))))
              · skip
                refine w_op 6 rfl ?_
                refine g_alloc rfl rfl Try.zeroValue27 rfl (fun b150 => ?_)
                refine g_nil ?_
                refine h_and (fun w h => h.sub (.cons _ (.cons _ (.cons _ (.cons_cons _ (.cons _ .slnil)))))) ?_
                refine h_do 5 rfl (by kernel_rfl) ?_
                refine g_call1 rfl rfl rfl Try.call24 (fun w hS => cwith_any s0 48 57 (by decide) (by decide) w) ?_
                refine g_nil ?_
                refine h_and (fun w h => h.sub (.cons _ (.cons _ (.cons _ (.cons_cons _ (.cons _ .slnil)))))) ?_
                refine g_perm (.cons _ (.swap _ _ _)) ?_
                exact h_fall (hm (b150, b140, b148)) [0, 2, 3, 4, 5, 6, 7, 10, 12, 14] (by kernel_rfl) rfl (fun w h => h.sub (.cons_cons _ (.cons_cons _ (.cons_cons _ (.cons_cons _ (.cons_cons _ .slnil))))))
          · skip
            refine w_op 6 rfl ?_
            refine g_alloc rfl rfl Try.zeroValue27 rfl (fun b151 => ?_)
            refine g_nil ?_
            refine h_and (fun w h => h.sub (.cons _ (.cons _ (.cons_cons _ (.cons _ .slnil))))) ?_
            refine h_doN [3, 8] (by kernel_rfl) (by simp) ⟨?_, ?_, trivial⟩
            · skip
              refine w_op 3 rfl ?_
              refine g_call1 rfl rfl rfl Try.call24 (fun w hS => cwith_any s0 97 122 (by decide) (by decide) w) ?_
              refine g_nil ?_
              refine h_and (fun w h => h.sub (.cons _ (.cons _ (.cons_cons _ (.cons _ .slnil))))) ?_
              refine h_doN [5, 8] (by kernel_rfl) (by simp) ⟨?_, ?_, trivial⟩
              · skip
                refine w_op 5 rfl ?_
                refine g_call1 rfl rfl rfl Try.call24 (fun w hS => cwith_any s0 48 57 (by decide) (by decide) w) ?_
                refine g_nil ?_
                refine h_and (fun w h => h.sub (.cons _ (.cons _ (.cons_cons _ (.cons _ .slnil))))) ?_
                refine h_do 8 rfl (by kernel_rfl) ?_
                refine g_alloc rfl rfl Try.zeroValue27 rfl (fun b152 => ?_)
                refine g_nil ?_
                refine h_and (fun w h => h.sub (.cons _ (.cons _ (.cons _ (.cons_cons _ (.cons _ .slnil)))))) ?_
                refine g_perm (.trans (.swap _ _ _) (.cons _ (.swap _ _ _))) ?_
                exact h_fall (hm (b151, b140, b152)) [0, 2, 3, 4, 5, 6, 7, 10, 12, 14] (by kernel_rfl) rfl (fun w h => h.sub (.cons_cons _ (.cons_cons _ (.cons_cons _ (.cons_cons _ (.cons_cons _ .slnil))))))
              · skip
                refine w_op 8 rfl ?_
                refine g_alloc rfl rfl Try.zeroValue27 rfl (fun b153 => ?_)
                refine g_nil ?_
                refine h_and (fun w h => h.sub (.cons _ (.cons _ (.cons _ (.cons_cons _ (.cons _ .slnil)))))) ?_
                refine h_do 5 rfl (by kernel_rfl) ?_
                refine g_call1 rfl rfl rfl Try.call24 (fun w hS => cwith_any s0 48 57 (by decide) (by decide) w) ?_
                refine g_nil ?_
                refine h_and (fun w h => h.sub (.cons _ (.cons _ (.cons _ (.cons_cons _ (.cons _ .slnil)))))) ?_
                refine g_perm (.trans (.swap _ _ _) (.cons _ (.swap _ _ _))) ?_
                exact h_fall (hm (b151, b140, b153)) [0, 2, 3, 4, 5, 6, 7, 10, 12, 14] (by kernel_rfl) rfl (fun w h => h.sub (.cons_cons _ (.cons_cons _ (.cons_cons _ (.cons_cons _ (.cons_cons _ .slnil))))))
            · skip
              refine w_op 8 rfl ?_
              refine g_alloc rfl rfl Try.zeroValue27 rfl (fun b154 => ?_)
              refine g_nil ?_
              refine h_and (fun w h => h.sub (.cons _ (.cons _ (.cons _ (.cons_cons _ (.cons _ .slnil)))))) ?_
              refine h_do 3 rfl (by kernel_rfl) ?_
              refine g_call1 rfl rfl rfl Try.call24 (fun w hS => cwith_any s0 97 122 (by decide) (by decide) w) ?_
              refine g_nil ?_
              refine h_and (fun w h => h.sub (.cons _ (.cons _ (.cons _ (.cons_cons _ (.cons _ .slnil)))))) ?_
              refine h_do 5 rfl (by kernel_rfl) ?_
              refine g_call1 rfl rfl rfl Try.call24 (fun w hS => cwith_any s0 48 57 (by decide) (by decide) w) ?_
              refine g_nil ?_
              refine h_and (fun w h => h.sub (.cons _ (.cons _ (.cons _ (.cons_cons _ (.cons _ .slnil)))))) ?_
              refine g_perm (.trans (.swap _ _ _) (.cons _ (.swap _ _ _))) ?_
              exact h_fall (hm (b151, b140, b154)) [0, 2, 3, 4, 5, 6, 7, 10, 12, 14] (by kernel_rfl) rfl (fun w h => h.sub (.cons_cons _ (.cons_cons _ (.cons_cons _ (.cons_cons _ (.cons_cons _ .slnil))))))
          · skip
            refine w_op 8 rfl ?_
            refine g_alloc rfl rfl Try.zeroValue27 rfl (fun b155 => ?_)
            refine g_nil ?_
            refine h_and (fun w h => h.sub (.cons _ (.cons _ (.cons_cons _ (.cons _ .slnil))))) ?_
            refine h_doN [3, 6] (by kernel_rfl) (by simp) ⟨?_, ?_, trivial⟩
            · skip
              refine w_op 3 rfl ?_
              refine g_call1 rfl rfl rfl Try.call24 (fun w hS => cwith_any s0 97 122 (by decide) (by decide) w) ?_
              refine g_nil ?_
              refine h_and (fun w h => h.sub (.cons _ (.cons _ (.cons_cons _ (.cons _ .slnil))))) ?_
              refine h_doN [5, 6] (by kernel_rfl) (by simp) ⟨?_, ?_, trivial⟩
              · skip
                refine w_op 5 rfl ?_
                refine g_call1 rfl rfl rfl Try.call24 (fun w hS => cwith_any s0 48 57 (by decide) (by decide) w) ?_
                refine g_nil ?_
                refine h_and (fun w h => h.sub (.cons _ (.cons _ (.cons_cons _ (.cons _ .slnil))))) ?_
                refine h_do 6 rfl (by kernel_rfl) ?_
                refine g_alloc rfl rfl Try.zeroValue27 rfl (fun b156 => ?_)
                refine g_nil ?_
                refine h_and (fun w h => h.sub (.cons _ (.cons _ (.cons _ (.cons_cons _ (.cons _ .slnil)))))) ?_
                refine g_perm (.cons _ (.swap _ _ _)) ?_
                exact h_fall (hm (b156, b140, b155)) [0, 2, 3, 4, 5, 6, 7, 10, 12, 14] (by kernel_rfl) rfl (fun w h => h.sub (.cons_cons _ (.cons_cons _ (.cons_cons _ (.cons_cons _ (.cons_cons _ .slnil))))))
              · skip
                refine w_op 6 rfl ?_
                refine g_alloc rfl rfl Try.zeroValue27 rfl (fun b157 => ?_)
                refine g_nil ?_
                refine h_and (fun w h => h.sub (.cons _ (.cons _ (.cons _ (.cons_cons _ (.cons _ .slnil)))))) ?_
                refine h_do 5 rfl (by kernel_rfl) ?_
                refine g_call1 rfl rfl rfl Try.call24 (fun w hS => cwith_any s0 48 57 (by decide) (by decide) w) ?_
                refine g_nil ?_
                refine h_and (fun w h => h.sub (.cons _ (.cons _ (.cons _ (.cons_cons _ (.cons _ .slnil)))))) ?_
                refine g_perm (.cons _ (.swap _ _ _)) ?_
                exact h_fall (hm (b157, b140, b155)) [0, 2, 3, 4, 5, 6, 7, 10, 12, 14] (by kernel_rfl) rfl (fun w h => h.sub (.cons_cons _ (.cons_cons _ (.cons_cons _ (.cons_cons _ (.cons_cons _ .slnil))))))
            · skip
              refine w_op 6 rfl ?_
              refine g_alloc rfl rfl Try.zeroValue27 rfl (fun b158 => ?_)
              refine g_nil ?_
              refine h_and (fun w h => h.sub (.cons _ (.cons _ (.cons _ (.cons_cons _ (.cons _ .slnil)))))) ?_
              refine h_do 3 rfl (by kernel_rfl) ?_
              refine g_call1 rfl rfl rfl Try.call24 (fun w hS => cwith_any s0 97 122 (by decide) (by decide) w) ?_
              refine g_nil ?_
              refine h_and (fun w h => h.sub (.cons _ (.cons _ (.cons _ (.cons_cons _ (.cons _ .slnil)))))) ?_
              refine h_do 5 rfl (by kernel_rfl) ?_
              refine g_call1 rfl rfl rfl Try.call24 (fun w hS => cwith_any s0 48 57 (by decide) (by decide) w) ?_
              refine g_nil ?_
              refine h_and (fun w h => h.sub (.cons _ (.cons _ (.cons _ (.cons_cons _ (.cons _ .slnil)))))) ?_
              refine g_perm (.cons _ (.swap _ _ _)) ?_
              exact h_fall (hm (b158, b140, b155)) [0, 2, 3, 4, 5, 6, 7, 10, 12, 14] (by kernel_rfl) rfl (fun w h => h.sub (.cons_cons _ (.cons_cons _ (.cons_cons _ (.cons_cons _ (.cons_cons _ .slnil))))))
        · skip
          refine w_op 6 rfl ?_
          refine g_alloc rfl rfl Try.zeroValue27 rfl (fun b159 => ?_)
          refine g_nil ?_
          refine h_and (fun w h => h.sub (.cons _ (.cons _ (.cons_cons _ (.cons _ .slnil))))) ?_
          refine h_doN [1, 8] (by kernel_rfl) (by simp) ⟨?_, ?_, trivial⟩
          · skip
            refine w_op 1 rfl ?_
            refine g_call1 rfl rfl rfl Try.call24 (fun w hS => cwith_any s0 65 90 (by decide) (by decide) w) ?_
            refine g_nil ?_
            refine h_and (fun w h => h.sub (.cons _ (.cons _ (.cons_cons _ (.cons _ .slnil))))) ?_
            refine h_doN [3, 8] (by kernel_rfl) (by simp) ⟨?_, ?_, trivial⟩
            · skip
              refine w_op 3 rfl ?_
              refine g_call1 rfl rfl rfl Try.call24 (fun w hS => cwith_any s0 97 122 (by decide) (by decide) w) ?_
              refine g_nil ?_
              refine h_and (fun w h => h.sub (.cons _ (.cons _ (.cons_cons _ (.cons _ .slnil))))) ?_
              refine h_doN [5, 8] (by kernel_rfl) (by simp) ⟨?_, ?_, trivial⟩
              · skip
                refine w_op 5 rfl ?_
                refine g_call1 rfl rfl rfl Try.call24 (fun w hS => cwith_any s0 48 57 (by decide) (by decide) w) ?_
                refine g_nil ?_
                refine h_and (fun w h => h.sub (.cons _ (.cons _ (.cons_cons _ (.cons _ .slnil))))) ?_
                refine h_do 8 rfl (by kernel_rfl) ?_
                refine g_alloc rfl rfl Try.zeroValue27 rfl (fun b160 => ?_)
                refine g_nil ?_
                refine h_and (fun w h => h.sub (.cons _ (.cons _ (.cons _ (.cons_cons _ (.cons _ .slnil)))))) ?_
                refine g_perm (.trans (.swap _ _ _) (.cons _ (.swap _ _ _))) ?_
                exact h_fall (hm (b159, b140, b160)) [0, 2, 3, 4, 5, 6, 7, 10, 12, 14] (by kernel_rfl) rfl (fun w h => h.sub (.cons_cons _ (.cons_cons _ (.cons_cons _ (.cons_cons _ (.cons_cons _ .slnil))))))
              · skip
                refine w_op 8 rfl ?_
                refine g_alloc rfl rfl Try.zeroValue27 rfl (fun b161 => ?_)
                refine g_nil ?_
                refine h_and (fun w h => h.sub (.cons _ (.cons _ (.cons _ (.cons_cons _ (.cons _ .slnil)))))) ?_
                refine h_do 5 rfl (by kernel_rfl) ?_
                refine g_call1 rfl rfl rfl Try.call24 (fun w hS => cwith_any s0 48 57 (by decide) (by decide) w) ?_
                refine g_nil ?_
                refine h_and (fun w h => h.sub (.cons _ (.cons _ (.cons _ (.cons_cons _ (.cons _ .slnil)))))) ?_
                refine g_perm (.trans (.swap _ _ _) (.cons _ (.swap _ _ _))) ?_
                exact h_fall (hm (b159, b140, b161)) [0, 2, 3, 4, 5, 6, 7, 10, 12, 14] (by kernel_rfl) rfl (fun w h => h.sub (.cons_cons _ (.cons_cons _ (.cons_cons _ (.cons_cons _ (.cons_cons _ .slnil))))))
            · skip
              refine w_op 8 rfl ?_
              refine g_alloc rfl rfl Try.zeroValue27 rfl (fun b162 => ?_)
              refine g_nil ?_
              refine h_and (fun w h => h.sub (.cons _ (.cons _ (.cons _ (.cons_cons _ (.cons _ .slnil)))))) ?_
              refine h_do 3 rfl (by kernel_rfl) ?_
              refine g_call1 rfl rfl rfl Try.call24 (fun w hS => cwith_any s0 97 122 (by decide) (by decide) w) ?_
              refine g_nil ?_
              refine h_and (fun w h => h.sub (.cons _ (.cons _ (.cons _ (.cons_cons _ (.cons _ .slnil)))))) ?_
              refine h_do 5 rfl (by kernel_rfl) ?_
              refine g_call1 rfl rfl rfl Try.call24 (fun w hS => cwith_any s0 48 57 (by decide) (by decide) w) ?_
              refine g_nil ?_
              refine h_and (fun w h => h.sub (.cons _ (.cons _ (.cons _ (.cons_cons _ (.cons _ .slnil)))))) ?_
              refine g_perm (.trans (.swap _ _ _) (.cons _ (.swap _ _ _))) ?_
              exact h_fall (hm (b159, b140, b162)) [0, 2, 3, 4, 5, 6, 7, 10, 12, 14] (by kernel_rfl) rfl (fun w h => h.sub (.cons_cons _ (.cons_cons _ (.cons_cons _ (.cons_cons _ (.cons_cons _ .slnil))))))
          · skip
            refine w_op 8 rfl ?_
            refine g_alloc rfl rfl Try.zeroValue27 rfl (fun b163 => ?_)
            refine g_nil ?_
            refine h_and (fun w h => h.sub (.cons _ (.cons _ (.cons _ (.cons_cons _ (.cons _ .slnil)))))) ?_
            refine h_do 1 rfl (by kernel_rfl) ?_
            refine g_call1 rfl rfl rfl Try.call24 (fun w hS => cwith_any s0 65 90 (by decide) (by decide) w) ?_
            refine g_nil ?_
            refine h_and (fun w h => h.sub (.cons _ (.cons _ (.cons _ (.cons_cons _ (.cons _ .slnil)))))) ?_
            refine h_do 3 rfl (by kernel_rfl) ?_
            refine g_call1 rfl rfl rfl Try.call24 (fun w hS => cwith_any s0 97 122 (by decide) (by decide) w) ?_
            refine g_nil ?_
            refine h_and (fun w h => h.sub (.cons _ (.cons _ (.cons _ (.cons_cons _ (.cons _ .slnil)))))) ?_
            refine h_do 5 rfl (by kernel_rfl) ?_
            refine g_call1 rfl rfl rfl Try.call24 (fun w hS => cwith_any s0 48 57 (by decide) (by decide) w) ?_
            refine g_nil ?_
            refine h_and (fun w h => h.sub (.cons _ (.cons _ (.cons _ (.cons_cons _ (.cons _ .slnil)))))) ?_
            refine g_perm (.trans (.swap _ _ _) (.cons _ (.swap _ _ _))) ?_
            exact h_fall (hm (b159, b140, b163)) [0, 2, 3, 4, 5, 6, 7, 10, 12, 14] (by kernel_rfl) rfl (fun w h => h.sub (.cons_cons _ (.cons_cons _ (.cons_cons _ (.cons_cons _ (.cons_cons _ .slnil))))))
        · skip
          refine w_op 8 rfl ?_
          refine g_alloc rfl rfl Try.zeroValue27 rfl (fun b164 => ?_)
          refine g_nil ?_
          refine h_and (fun w h => h.sub (.cons _ (.cons _ (.cons_cons _ (.cons _ .slnil))))) ?_
          refine h_doN [1, 6] (by kernel_rfl) (by simp) ⟨?_, ?_, trivial⟩
          · skip
            refine w_op 1 rfl ?_
            refine g_call1 rfl rfl rfl Try.call24 (fun w hS => cwith_any s0 65 90 (by decide) (by decide) w) ?_
            refine g_nil ?_
            refine h_and (fun w h => h.sub (.cons _ (.cons _ (.cons_cons _ (.cons _ .slnil))))) ?_
            refine h_doN [3, 6] (by kernel_rfl) (by simp) ⟨?_, ?_, trivial⟩
            · skip
              refine w_op 3 rfl ?_
              refine g_call1 rfl rfl rfl Try.call24 (fun w hS => cwith_any s0 97 122 (by decide) (by decide) w) ?_
              refine g_nil ?_
              refine h_and (fun w h => h.sub (.cons _ (.cons _ (.cons_cons _ (.cons _ .slnil))))) ?_
              refine h_doN [5, 6] (by kernel_rfl) (by simp) ⟨?_, ?_, trivial⟩
              · skip
                refine w_op 5 rfl ?_
                refine g_call1 rfl rfl rfl Try.call24 (fun w hS => cwith_any s0 48 57 (by decide) (by decide) w) ?_
                refine g_nil ?_
                refine h_and (fun w h => h.sub (.cons _ (.cons _ (.cons_cons _ (.cons _ .slnil))))) ?_
                refine h_do 6 rfl (by kernel_rfl) ?_
                refine g_alloc rfl rfl Try.zeroValue27 rfl (fun b165 => ?_)
                refine g_nil ?_
                refine h_and (fun w h => h.sub (.cons _ (.cons _ (.cons _ (.cons_cons _ (.cons _ .slnil)))))) ?_
                refine g_perm (.cons _ (.swap _ _ _)) ?_
                exact h_fall (hm (b165, b140, b164)) [0, 2, 3, 4, 5, 6, 7, 10, 12, 14] (by kernel_rfl) rfl (fun w h => h.sub (.cons_cons _ (.cons_cons _ (.cons_cons _ (.cons_cons _ (.cons_cons _ .slnil))))))
              · skip
                refine w_op 6 rfl ?_
                refine g_alloc rfl rfl Try.zeroValue27 rfl (fun b166 => ?_)
                refine g_nil ?_
                refine h_and (fun w h => h.sub (.cons _ (.cons _ (.cons _ (.cons_cons _ (.cons _ .slnil)))))) ?_
                refine h_do 5 rfl (by kernel_rfl) ?_
                refine g_call1 rfl rfl rfl Try.call24 (fun w hS => cwith_any s0 48 57 (by decide) (by decide) w) ?_
                refine g_nil ?_
                refine h_and (fun w h => h.sub (.cons _ (.cons _ (.cons _ (.cons_cons _ (.cons _ .slnil)))))) ?_
                refine g_perm (.cons _ (.swap _ _ _)) ?_
                exact h_fall (hm (b166, b140, b164)) [0, 2, 3, 4, 5, 6, 7, 10, 12, 14] (by kernel_rfl) rfl (fun w h => h.sub (.cons_cons _ (.cons_cons _ (.cons_cons _ (.cons_cons _ (.cons_cons _ .slnil))))))
            · skip
              refine w_op 6 rfl ?_
              refine g_alloc rfl rfl Try.zeroValue27 rfl (fun b167 => ?_)
              refine g_nil ?_
              refine h_and (fun w h => h.sub (.cons _ (.cons _ (.cons _ (.cons_cons _ (.cons _ .slnil)))))) ?_
              refine h_do 3 rfl (by kernel_rfl) ?_
              refine g_call1 rfl rfl rfl Try.call24 (fun w hS => cwith_any s0 97 122 (by decide) (by decide) w) ?_
              refine g_nil ?_
              refine h_and (fun w h => h.sub (.cons _ (.cons _ (.cons _ (.cons_cons _ (.cons _ .slnil)))))) ?_
              refine h_do 5 rfl (by kernel_rfl) ?_
              refine g_call1 rfl rfl rfl Try.call24 (fun w hS => cwith_any s0 48 57 (by decide) (by decide) w) ?_
              refine g_nil ?_
              refine h_and (fun w h => h.sub (.cons _ (.cons _ (.cons _ (.cons_cons _ (.cons _ .slnil)))))) ?_
              refine g_perm (.cons _ (.swap _ _ _)) ?_
              exact h_fall (hm (b167, b140, b164)) [0, 2, 3, 4, 5, 6, 7, 10, 12, 14] (by kernel_rfl) rfl (fun w h => h.sub (.cons_cons _ (.cons_cons _ (.cons_cons _ (.cons_cons _ (.cons_cons _ .slnil))))))
          · skip
            refine w_op 6 rfl ?_
            refine g_alloc rfl rfl Try.zeroValue27 rfl (fun b168 => ?_)
            refine g_nil ?_
            refine h_and (fun w h => h.sub (.cons _ (.cons _ (.cons _ (.cons_cons _ (.cons _ .slnil)))))) ?_
            refine h_do 1 rfl (by kernel_rfl) ?_
            refine g_call1 rfl rfl rfl Try.call24 (fun w hS => cwith_any s0 65 90 (by decide) (by decide) w) ?_
            refine g_nil ?_
            refine h_and (fun w h => h.sub (.cons _ (.cons _ (.cons _ (.cons_cons _ (.cons _ .slnil)))))) ?_
            refine h_do 3 rfl (by kernel_rfl) ?_
            refine g_call1 rfl rfl rfl Try.call24 (fun w hS => cwith_any s0 97 122 (by decide) (by decide) w) ?_
            refine g_nil ?_
            refine h_and (fun w h => h.sub (.cons _ (.cons _ (.cons _ (.cons_cons _ (.cons _ .slnil)))))) ?_
            refine h_do 5 rfl (by kernel_rfl) ?_
            refine g_call1 rfl rfl rfl Try.call24 (fun w hS => cwith_any s0 48 57 (by decide) (by decide) w) ?_
            refine g_nil ?_
            refine h_and (fun w h => h.sub (.cons _ (.cons _ (.cons _ (.cons_cons _ (.cons _ .slnil)))))) ?_
            refine g_perm (.cons _ (.swap _ _ _)) ?_
            exact h_fall (hm (b168, b140, b164)) [0, 2, 3, 4, 5, 6, 7, 10, 12, 14] (by kernel_rfl) rfl (fun w h => h.sub (.cons_cons _ (.cons_cons _ (.cons_cons _ (.cons_cons _ (.cons_cons _ .slnil))))))
      · skip
        refine w_op 8 rfl ?_
        refine g_alloc rfl rfl Try.zeroValue27 rfl (fun b169 => ?_)
        refine g_nil ?_
        refine h_and (fun w h => h.sub (.cons _ (.cons_cons _ (.cons _ .slnil)))) ?_
        refine h_doN [1, 6, 7] (by kernel_rfl) (by simp) ⟨?_, ?_, ?_, trivial⟩
        · skip
          refine w_op 1 rfl ?_
          refine g_call1 rfl rfl rfl Try.call24 (fun w hS => cwith_any s0 65 90 (by decide) (by decide) w) ?_
          refine g_nil ?_
          refine h_and (fun w h => h.sub (.cons _ (.cons_cons _ (.cons _ .slnil)))) ?_
          refine h_doN [3, 6, 7] (by kernel_rfl) (by simp) ⟨?_, ?_, ?_, trivial⟩
          · skip
            refine w_op 3 rfl ?_
            refine g_call1 rfl rfl rfl Try.call24 (fun w hS => cwith_any s0 97 122 (by decide) (by decide) w) ?_
            refine g_nil ?_
            refine h_and (fun w h => h.sub (.cons _ (.cons_cons _ (.cons _ .slnil)))) ?_
            refine h_doN [5, 6, 7] (by kernel_rfl) (by simp) ⟨?_, ?_, ?_, trivial⟩
            · skip
              refine w_op 5 rfl ?_
              refine g_call1 rfl rfl rfl Try.call24 (fun w hS => cwith_any s0 48 57 (by decide) (by decide) w) ?_
              refine g_nil ?_
              refine h_and (fun w h => h.sub (.cons _ (.cons_cons _ (.cons _ .slnil)))) ?_
              refine h_doN [6, 7] (by kernel_rfl) (by simp) ⟨?_, ?_, trivial⟩
              · skip
                refine w_op 6 rfl ?_
                refine g_alloc rfl rfl Try.zeroValue27 rfl (fun b170 => ?_)
                refine g_nil ?_
                refine h_and (fun w h => h.sub (.cons _ (.cons _ (.cons_cons _ (.cons _ .slnil))))) ?_
                refine h_do 7 rfl (by kernel_rfl) ?_
                refine g_alloc rfl rfl Try.zeroValue27 rfl (fun b171 => ?_)
                refine g_nil ?_
                refine h_and (fun w h => h.sub (.cons _ (.cons _ (.cons _ (.cons_cons _ (.cons _ .slnil)))))) ?_
                refine g_perm (.swap _ _ _) ?_
                exact h_fall (hm (b170, b171, b169)) [0, 2, 3, 4, 5, 6, 7, 10, 12, 14] (by kernel_rfl) rfl (fun w h => h.sub (.cons_cons _ (.cons_cons _ (.cons_cons _ (.cons_cons _ (.cons_cons _ .slnil))))))
              · skip
                refine w_op 7 rfl ?_
                refine g_alloc rfl rfl Try.zeroValue27 rfl (fun b172 => ?_)
                refine g_nil ?_
                refine h_and (fun w h => h.sub (.cons _ (.cons _ (.cons_cons _ (.cons _ .slnil))))) ?_
                refine h_do 6 rfl (by kernel_rfl) ?_
                refine g_alloc rfl rfl Try.zeroValue27 rfl (fun b173 => ?_)
                refine g_nil ?_
                refine h_and (fun w h => h.sub (.cons _ (.cons _ (.cons _ (.cons_cons _ (.cons _ .slnil)))))) ?_
                exact h_fall (hm (b173, b172, b169)) [0, 2, 3, 4, 5, 6, 7, 10, 12, 14] (by kernel_rfl) rfl (fun w h => h.sub (.cons_cons _ (.cons_cons _ (.cons_cons _ (.cons_cons _ (.cons_cons _ .slnil))))))
            · skip
              refine w_op 6 rfl ?_
              refine g_alloc rfl rfl Try.zeroValue27 rfl (fun b174 => ?_)
              refine g_nil ?_
              refine h_and (fun w h => h.sub (.cons _ (.cons _ (.cons_cons _ (.cons _ .slnil))))) ?_
              refine h_doN [5, 7] (by kernel_rfl) (by simp) ⟨?_, ?_, trivial⟩
              · skip
                refine w_op 5 rfl ?_
                refine g_call1 rfl rfl rfl Try.call24 (fun w hS => cwith_any s0 48 57 (by decide) (by decide) w) ?_
                refine g_nil ?_
                refine h_and (fun w h => h.sub (.cons _ (.cons _ (.cons_cons _ (.cons _ .slnil))))) ?_
                refine h_do 7 rfl (by kernel_rfl) ?_
                refine g_alloc rfl rfl Try.zeroValue27 rfl (fun b175 => ?_)
                refine g_nil ?_
                refine h_and (fun w h => h.sub (.cons _ (.cons _ (.cons _ (.cons_cons _ (.cons _ .slnil)))))) ?_
                refine g_perm (.swap _ _ _) ?_
                exact h_fall (hm (b174, b175, b169)) [0, 2, 3, 4, 5, 6, 7, 10, 12, 14] (by kernel_rfl) rfl (fun w h => h.sub (.cons_cons _ (.cons_cons _ (.cons_cons _ (.cons_cons _ (.cons_cons _ .slnil))))))
              · skip
                refine w_op 7 rfl ?_
                refine g_alloc rfl rfl Try.zeroValue27 rfl (fun b176 => ?_)
                refine g_nil ?_
                refine h_and (fun w h => h.sub (.cons _ (.cons _ (.cons _ (.cons_cons _ (.cons _ .slnil)))))) ?_
                refine h_do 5 rfl (by kernel_rfl) ?_
                refine g_call1 rfl rfl rfl Try.call24 (fun w hS => cwith_any s0 48 57 (by decide) (by decide) w) ?_
                refine g_nil ?_
                refine h_and (fun w h => h.sub (.cons _ (.cons _ (.cons _ (.cons_cons _ (.cons _ .slnil)))))) ?_
                refine g_perm (.swap _ _ _) ?_
                exact h_fall (hm (b174, b176, b169)) [0, 2, 3, 4, 5, 6, 7, 10, 12, 14] (by kernel_rfl) rfl (fun w h => h.sub (.cons_cons _ (.cons_cons _ (.cons_cons _ (.cons_cons _ (.cons_cons _ .slnil))))))
            · skip
              refine w_op 7 rfl ?_
              refine g_alloc rfl rfl Try.zeroValue27 rfl (fun b177 => ?_)
              refine g_nil ?_
              refine h_and (fun w h => h.sub (.cons _ (.cons _ (.cons_cons _ (.cons _ .slnil))))) ?_
              refine h_doN [5, 6] (by kernel_rfl) (by simp) ⟨?_, ?_, trivial⟩
              · skip
                refine w_op 5 rfl ?_
                refine g_call1 rfl rfl rfl Try.call24 (fun w hS => cwith_any s0 48 57 (by decide) (by decide) w) ?_
                refine g_nil ?_
                refine h_and (fun w h => h.sub (.cons _ (.cons _ (.cons_cons _ (.cons _ .slnil))))) ?_
                refine h_do 6 rfl (by kernel_rfl) ?_
                refine g_alloc rfl rfl Try.zeroValue27 rfl (fun b178 => ?_)
                refine g_nil ?_
                refine h_and (fun w h => h.sub (.cons _ (.cons _ (.cons _ (.cons_cons _ (.cons _ .slnil)))))) ?_
                exact h_fall (hm (b178, b177, b169)) [0, 2, 3, 4, 5, 6, 7, 10, 12, 14] (by kernel_rfl) rfl (fun w h => h.sub (.cons_cons _ (.cons_cons _ (.cons_cons _ (.cons_cons _ (.cons_cons _ .slnil))))))
              · skip
                refine w_op 6 rfl ?_
                refine g_alloc rfl rfl Try.zeroValue27 rfl (fun b179 => ?_)
                refine g_nil ?_
                refine h_and (fun w h => h.sub (.cons _ (.cons _ (.cons _ (.cons_cons _ (.cons _ .slnil)))))) ?_
                refine h_do 5 rfl (by kernel_rfl) ?_
                refine g_call1 rfl rfl rfl Try.call24 (fun w hS => cwith_any s0 48 57 (by decide) (by decide) w) ?_
                refine g_nil ?_
                refine h_and (fun w h => h.sub (.cons _ (.cons _ (.cons _ (.cons_cons _ (.cons _ .slnil)))))) ?_
                exact h_fall (hm (b179, b177, b169)) [0, 2, 3, 4, 5, 6, 7, 10, 12, 14] (by kernel_rfl) rfl (fun w h => h.sub (.cons_cons _ (.cons_cons _ (.cons_cons _ (.cons_cons _ (.cons_cons _ .slnil))))))
          · skip
            refine w_op 6 rfl ?_
            refine g_alloc rfl rfl Try.zeroValue27 rfl (fun b180 => ?_)
            refine g_nil ?_
            refine h_and (fun w h => h.sub (.cons _ (.cons _ (.cons_cons _ (.cons _ .slnil))))) ?_
            refine h_doN [3, 7] (by kernel_rfl) (by simp) ⟨?_, ?_, trivial⟩
            · skip
              refine w_op 3 rfl ?_
              refine g_call1 rfl rfl rfl Try.call24 (fun w hS => cwith_any s0 97 122 (by decide) (by decide) w) ?_
              refine g_nil ?_
              refine h_and (fun w h => h.sub (.cons _ (.cons _ (.cons_cons _ (.cons _ .slnil))))) ?_
              refine h_doN [5, 7] (by kernel_rfl) (by simp) ⟨?_, ?_, trivial⟩
              · skip
                refine w_op 5 rfl ?_
                refine g_call1 rfl rfl rfl Try.call24 (fun w hS => cwith_any s0 48 57 (by decide) (by decide) w) ?_
                refine g_nil ?_
                refine h_and (fun w h => h.sub (.cons _ (.cons _ (.cons_cons _ (.cons _ .slnil))))) ?_
                refine h_do 7 rfl (by kernel_rfl) ?_
                refine g_alloc rfl rfl Try.zeroValue27 rfl (fun b181 => ?_)
                refine g_nil ?_
                refine h_and (fun w h => h.sub (.cons _ (.cons _ (.cons _ (.cons_cons _ (.cons _ .slnil)))))) ?_
                refine g_perm (.swap _ _ _) ?_
                exact h_fall (hm (b180, b181, b169)) [0, 2, 3, 4, 5, 6, 7, 10, 12, 14] (by kernel_rfl) rfl (fun w h => h.sub (.cons_cons _ (.cons_cons _ (.cons_cons _ (.cons_cons _ (.cons_cons _ .slnil))))))
              · skip
                refine w_op 7 rfl ?_
                refine g_alloc rfl rfl Try.zeroValue27 rfl (fun b182 => ?_)
                refine g_nil ?_
                refine h_and (fun w h => h.sub (.cons _ (.cons _ (.cons _ (.cons_cons _ (.cons _ .slnil)))))) ?_
                refine h_do 5 rfl (by kernel_rfl) ?_
                refine g_call1 rfl rfl rfl Try.call24 (fun w hS => cwith_any s0 48 57 (by decide) (by decide) w) ?_
                refine g_nil ?_
                refine h_and (fun w h => h.sub (.cons _ (.cons _ (.cons _ (.cons_cons _ (.cons _ .slnil)))))) ?_
                refine g_perm (.swap _ _ _) ?_
                exact h_fall (hm (b180, b182, b169)) [0, 2, 3, 4, 5, 6, 7, 10, 12, 14] (by kernel_rfl) rfl (fun w h => h.sub (.cons_cons _ (.cons_cons _ (.cons_cons _ (.cons_cons _ (.cons_cons _ .slnil))))))
            · skip
              refine w_op 7 rfl ?_
              refine g_alloc rfl rfl Try.zeroValue27 rfl (fun b183 => ?_)
              refine g_nil ?_
              refine h_and (fun w h => h.sub (.cons _ (.cons _ (.cons _ (.cons_cons _ (.cons _ .slnil)))))) ?_
              refine h_do 3 rfl (by kernel_rfl) ?_
              refine g_call1 rfl rfl rfl Try.call24 (fun w hS => cwith_any s0 97 122 (by decide) (by decide) w) ?_
              refine g_nil ?_
              refine h_and (fun w h => h.sub (.cons _ (.cons _ (.cons _ (.cons_cons _ (.cons _ .slnil)))))) ?_
              refine h_do 5 rfl (by kernel_rfl) ?_
              refine g_call1 rfl rfl rfl Try.call24 (fun w hS => cwith_any s0 48 57 (by decide) (by decide) w) ?_
              refine g_nil ?_
              refine h_and (fun w h => h.sub (.cons _ (.cons _ (.cons _ (.cons_cons _ (.cons _ .slnil)))))) ?_
              refine g_perm (.swap _ _ _) ?_
              exact h_fall (hm (b180, b183, b169)) [0, 2, 3, 4, 5, 6, 7, 10, 12, 14] (by kernel_rfl) rfl (fun w h => h.sub (.cons_cons _ (.cons_cons _ (.cons_cons _ (.cons_cons _ (.cons_cons _ .slnil))))))
          · skip
            refine w_op 7 rfl ?_
            refine g_alloc rfl rfl Try.zeroValue27 rfl (fun b184 => ?_)
            refine g_nil ?_
            refine h_and (fun w h => h.sub (.cons _ (.cons _ (.cons_cons _ (.cons _ .slnil))))) ?_
            refine h_doN [3, 6] (by kernel_rfl) (by simp) ⟨?_, ?_, trivial⟩
            · skip
              refine w_op 3 rfl ?_
              refine g_call1 rfl rfl rfl Try.call24 (fun w hS => cwith_any s0 97 122 (by decide) (by decide) w) ?_
              refine g_nil ?_
              refine h_and (fun w h => h.sub (.cons _ (.cons _ (.cons_cons _ (.cons _ .slnil))))) ?_
              refine h_doN [5, 6] (by kernel_rfl) (by simp) ⟨?_, ?_, trivial⟩
              · skip
                refine w_op 5 rfl ?_
                refine g_call1 rfl rfl rfl Try.call24 (fun w hS => cwith_any s0 48 57 (by decide) (by decide) w) ?_
                refine g_nil ?_
                refine h_and (fun w h => h.sub (.cons _ (.cons _ (.cons_cons _ (.cons _ .slnil))))) ?_
                refine h_do 6 rfl (by kernel_rfl) ?_
                refine g_alloc rfl rfl Try.zeroValue27 rfl (fun b185 => ?_)
                refine g_nil ?_
                refine h_and (fun w h => h.sub (.cons _ (.cons _ (.cons _ (.cons_cons _ (.cons _ .slnil)))))) ?_
                exact h_fall (hm (b185, b184, b169)) [0, 2, 3, 4, 5, 6, 7, 10, 12, 14] (by kernel_rfl) rfl (fun w h => h.sub (.cons_cons _ (.cons_cons _ (.cons_cons _ (.cons_cons _ (.cons_cons _ .slnil))))))
              · skip
                refine w_op 6 rfl ?_
                refine g_alloc rfl rfl Try.zeroValue27 rfl (fun b186 => ?_)
                refine g_nil ?_
                refine h_and (fun w h => h.sub (.cons _ (.cons _ (.cons _ (.cons_cons _ (.cons _ .slnil)))))) ?_
                refine h_do 5 rfl (by kernel_rfl) ?_
                refine g_call1 rfl rfl rfl Try.call24 (fun w hS => cwith_any s0 48 57 (by decide) (by decide) w) ?_
                refine g_nil ?_
                refine h_and (fun w h => h.sub (.cons _ (.cons _ (.cons _ (.cons_cons _ (.cons _ .slnil)))))) ?_
                exact h_fall (hm (b186, b184, b169)) [0, 2, 3, 4, 5, 6, 7, 10, 12, 14] (by kernel_rfl) rfl (fun w h => h.sub (.cons_cons _ (.cons_cons _ (.cons_cons _ (.cons_cons _ (.cons_cons _ .slnil))))))
            · skip
              refine w_op 6 rfl ?_
              refine g_alloc rfl rfl Try.zeroValue27 rfl (fun b187 => ?_)
              refine g_nil ?_
              refine h_and (fun w h => h.sub (.cons _ (.cons _ (.cons _ (.cons_cons _ (.cons _ .slnil)))))) ?_
              refine h_do 3 rfl (by kernel_rfl) ?_
              refine g_call1 rfl rfl rfl Try.call24 (fun w hS => cwith_any s0 97 122 (by decide) (by decide) w) ?_
              refine g_nil ?_
              refine h_and (fun w h => h.sub (.cons _ (.cons _ (.cons _ (.cons_cons _ (.cons _ .slnil)))))) ?_
              refine h_do 5 rfl (by kernel_rfl) ?_
              refine g_call1 rfl rfl rfl Try.call24 (fun w hS => cwith_any s0 48 57 (by decide) (by decide) w) ?_
              refine g_nil ?_
              refine h_and (fun w h => h.sub (.cons _ (.cons _ (.cons _ (.cons_cons _ (.cons _ .slnil)))))) ?_
              exact h_fall (hm (b187, b184, b169)) [0, 2, 3, 4, 5, 6, 7, 10, 12, 14] (by kernel_rfl) rfl (fun w h => h.sub (.cons_cons _ (.cons_cons _ (.cons_cons _ (.cons_cons _ (.cons_cons _ .slnil))))))
        · skip
          refine w_op 6 rfl ?_
          refine g_alloc rfl rfl Try.zeroValue27 rfl (fun b188 => ?_)
          refine g_nil ?_
          refine h_and (fun w h => h.sub (.cons _ (.cons _ (.cons_cons _ (.cons _ .slnil))))) ?_
          refine h_doN [1, 7] (by kernel_rfl) (by simp) ⟨?_, ?_, trivial⟩
          · skip
            refine w_op 1 rfl ?_
            refine g_call1 rfl rfl rfl Try.call24 (fun w hS => cwith_any s0 65 90 (by decide) (by decide) w) ?_
            refine g_nil ?_
            refine h_and (fun w h => h.sub (.cons _ (.cons _ (.cons_cons _ (.cons _ .slnil))))) ?_
            refine h_doN [3, 7] (by kernel_rfl) (by simp) ⟨?_, ?_, trivial⟩
            · skip
              refine w_op 3 rfl ?_
              refine g_call1 rfl rfl rfl Try.call24 (fun w hS => cwith_any s0 97 122 (by decide) (by decide) w) ?_
              refine g_nil ?_
              refine h_and (fun w h => h.sub (.cons _ (.cons _ (.cons_cons _ (.cons _ .slnil))))) ?_
              refine h_doN [5, 7] (by kernel_rfl) (by simp) ⟨?_, ?_, trivial⟩
              · skip
                refine w_op 5 rfl ?_
                refine g_call1 rfl rfl rfl Try.call24 (fun w hS => cwith_any s0 48 57 (by decide) (by decide) w) ?_
                refine g_nil ?_
                refine h_and (fun w h => h.sub (.cons _ (.cons _ (.cons_cons _ (.cons _ .slnil))))) ?_
                refine h_do 7 rfl (by kernel_rfl) ?_
                refine g_alloc rfl rfl Try.zeroValue27 rfl (fun b189 => ?_)
                refine g_nil ?_
                refine h_and (fun w h => h.sub (.cons _ (.cons _ (.cons _ (.cons_cons _ (.cons _ .slnil)))))) ?_
                refine g_perm (.swap _ _ _) ?_
                exact h_fall (hm (b188, b189, b169)) [0, 2, 3, 4, 5, 6, 7, 10, 12, 14] (by kernel_rfl) rfl (fun w h => h.sub (.cons_cons _ (.cons_cons _ (.cons_cons _ (.cons_cons _ (.cons_cons _ .slnil))))))
              · skip
                refine w_op 7 rfl ?_
                refine g_alloc rfl rfl Try.zeroValue27 rfl (fun b190 => ?_)
                refine g_nil ?_
                refine h_and (fun w h => h.sub (.cons _ (.cons _ (.cons _ (.cons_cons _ (.cons _ .slnil)))))) ?_
                refine h_do 5 rfl (by kernel_rfl) ?_
                refine g_call1 rfl rfl rfl Try.call24 (fun w hS => cwith_any s0 48 57 (by decide) (by decide) w) ?_
                refine g_nil ?_
                refine h_and (fun w h => h.sub (.cons _ (.cons _ (.cons _ (.cons_cons _ (.cons _ .slnil)))))) ?_
                refine g_perm (.swap _ _ _) ?_
                exact h_fall (hm (b188, b190, b169)) [0, 2, 3, 4, 5, 6, 7, 10, 12, 14] (by kernel_rfl) rfl (fun w h => h.sub (.cons_cons _ (.cons_cons _ (.cons_cons _ (.cons_cons _ (.cons_cons _ .slnil))))))
            · skip
              refine w_op 7 rfl ?_
              refine g_alloc rfl rfl Try.zeroValue27 rfl (fun b191 => ?_)
              refine g_nil ?_
              refine h_and (fun w h => h.sub (.cons _ (.cons _ (.cons _ (.cons_cons _ (.cons _ .slnil)))))) ?_
              refine h_do 3 rfl (by kernel_rfl) ?_
              refine g_call1 rfl rfl rfl Try.call24 (fun w hS => cwith_any s0 97 122 (by decide) (by decide) w) ?_
              refine g_nil ?_
              refine h_and (fun w h => h.sub (.cons _ (.cons _ (.cons _ (.cons_cons _ (.cons _ .slnil)))))) ?_
              refine h_do 5 rfl (by kernel_rfl) ?_
              refine g_call1 rfl rfl rfl Try.call24 (fun w hS => cwith_any s0 48 57 (by decide) (by decide) w) ?_
              refine g_nil ?_
              refine h_and (fun w h => h.sub (.cons _ (.cons _ (.cons _ (.cons_cons _ (.cons _ .slnil)))))) ?_
              refine g_perm (.swap _ _ _) ?_
              exact h_fall (hm (b188, b191, b169)) [0, 2, 3, 4, 5, 6, 7, 10, 12, 14] (by kernel_rfl) rfl (fun w h => h.sub (.cons_cons _ (.cons_cons _ (.cons_cons _ (.cons_cons _ (.cons_cons _ .slnil))))))
          · skip
            refine w_op 7 rfl ?_
            refine g_alloc rfl rfl Try.zeroValue27 rfl (fun b192 => ?_)
            refine g_nil ?_
            refine h_and (fun w h => h.sub (.cons _ (.cons _ (.cons _ (.cons_cons _ (.cons _ .slnil)))))) ?_
            refine h_do 1 rfl (by kernel_rfl) ?_
            refine g_call1 rfl rfl rfl Try.call24 (fun w hS => cwith_any s0 65 90 (by decide) (by decide) w) ?_
            refine g_nil ?_
            refine h_and (fun w h => h.sub (.cons _ (.cons _ (.cons _ (.cons_cons _ (.cons _ .slnil)))))) ?_
            refine h_do 3 rfl (by kernel_rfl) ?_
            refine g_call1 rfl rfl rfl Try.call24 (fun w hS => cwith_any s0 97 122 (by decide) (by decide) w) ?_
            refine g_nil ?_
            refine h_and (fun w h => h.sub (.cons _ (.cons _ (.cons _ (.cons_cons _ (.cons _ .slnil)))))) ?_
            refine h_do 5 rfl (by kernel_rfl) ?_
            refine g_call1 rfl rfl rfl Try.call24 (fun w hS => cwith_any s0 48 57 (by decide) (by decide) w) ?_
            refine g_nil ?_
            refine h_and (fun w h => h.sub (.cons _ (.cons _ (.cons _ (.cons_cons _ (.cons _ .slnil)))))) ?_
            refine g_perm (.swap _ _ _) ?_
            exact h_fall (hm (b188, b192, b169)) [0, 2, 3, 4, 5, 6, 7, 10, 12, 14] (by kernel_rfl) rfl (fun w h => h.sub (.cons_cons _ (.cons_cons _ (.cons_cons _ (.cons_cons _ (.cons_cons _ .slnil))))))
        · skip
          refine w_op 7 rfl ?_
          refine g_alloc rfl rfl Try.zeroValue27 rfl (fun b193 => ?_)
          refine g_nil ?_
          refine h_and (fun w h => h.sub (.cons _ (.cons _ (.cons_cons _ (.cons _ .slnil))))) ?_
          refine h_doN [1, 6] (by kernel_rfl) (by simp) ⟨?_, ?_, trivial⟩
          · skip
            refine w_op 1 rfl ?_
            refine g_call1 rfl rfl rfl Try.call24 (fun w hS => cwith_any s0 65 90 (by decide) (by decide) w) ?_
            refine g_nil ?_
            refine h_and (fun w h => h.sub (.cons _ (.cons _ (.cons_cons _ (.cons _ .slnil))))) ?_
            refine h_doN [3, 6] (by kernel_rfl) (by simp) ⟨?_, ?_, trivial⟩
            · skip
              refine w_op 3 rfl ?_
              refine g_call1 rfl rfl rfl Try.call24 (fun w hS => cwith_any s0 97 122 (by decide) (by decide) w) ?_
              refine g_nil ?_
              refine h_and (fun w h => h.sub (.cons _ (.cons _ (.cons_cons _ (.cons _ .slnil))))) ?_
              refine h_doN [5, 6] (by kernel_rfl) (by simp) ⟨?_, ?_, trivial⟩
              · skip
                refine w_op 5 rfl ?_
                refine g_call1 rfl rfl rfl Try.call24 (fun w hS => cwith_any s0 48 57 (by decide) (by decide) w) ?_
                refine g_nil ?_
                refine h_and (fun w h => h.sub (.cons _ (.cons _ (.cons_cons _ (.cons _ .slnil))))) ?_
                refine h_do 6 rfl (by kernel_rfl) ?_
                refine g_alloc rfl rfl Try.zeroValue27 rfl (fun b194 => ?_)
                refine g_nil ?_
                refine h_and (fun w h => h.sub (.cons _ (.cons _ (.cons _ (.cons_cons _ (.cons _ .slnil)))))) ?_
                exact h_fall (hm (b194, b193, b169)) [0, 2, 3, 4, 5, 6, 7, 10, 12, 14] (by kernel_rfl) rfl (fun w h => h.sub (.cons_cons _ (.cons_cons _ (.cons_cons _ (.cons_cons _ (.cons_cons _ .slnil))))))
              · skip
                refine w_op 6 rfl ?_
                refine g_alloc rfl rfl Try.zeroValue27 rfl (fun b195 => ?_)
                refine g_nil ?_
                refine h_and (fun w h => h.sub (.cons _ (.cons _ (.cons _ (.cons_cons _ (.cons _ .slnil)))))) ?_
                refine h_do 5 rfl (by kernel_rfl) ?_
                refine g_call1 rfl rfl rfl Try.call24 (fun w hS => cwith_any s0 48 57 (by decide) (by decide) w) ?_
                refine g_nil ?_
                refine h_and (fun w h => h.sub (.cons _ (.cons _ (.cons _ (.cons_cons _ (.cons _ .slnil)))))) ?_
                exact h_fall (hm (b195, b193, b169)) [0, 2, 3, 4, 5, 6, 7, 10, 12, 14] (by kernel_rfl) rfl (fun w h => h.sub (.cons_cons _ (.cons_cons _ (.cons_cons _ (.cons_cons _ (.cons_cons _ .slnil))))))
            · skip
              refine w_op 6 rfl ?_
              refine g_alloc rfl rfl Try.zeroValue27 rfl (fun b196 => ?_)
              refine g_nil ?_
              refine h_and (fun w h => h.sub (.cons _ (.cons _ (.cons _ (.cons_cons _ (.cons _ .slnil)))))) ?_
              refine h_do 3 rfl (by kernel_rfl) ?_
              refine g_call1 rfl rfl rfl Try.call24 (fun w hS => cwith_any s0 97 122 (by decide) (by decide) w) ?_
              refine g_nil ?_
              refine h_and (fun w h => h.sub (.cons _ (.cons _ (.cons _ (.cons_cons _ (.cons _ .slnil)))))) ?_
              refine h_do 5 rfl (by kernel_rfl) ?_
              refine g_call1 rfl rfl rfl Try.call24 (fun w hS => cwith_any s0 48 57 (by decide) (by decide) w) ?_
              refine g_nil ?_
              refine h_and (fun w h => h.sub (.cons _ (.cons _ (.cons _ (.cons_cons _ (.cons _ .slnil)))))) ?_
              exact h_fall (hm (b196, b193, b169)) [0, 2, 3, 4, 5, 6, 7, 10, 12, 14] (by kernel_rfl) rfl (fun w h => h.sub (.cons_cons _ (.cons_cons _ (.cons_cons _ (.cons_cons _ (.cons_cons _ .slnil))))))
          · skip
            refine w_op 6 rfl ?_
            refine g_alloc rfl rfl Try.zeroValue27 rfl (fun b197 => ?_)
            refine g_nil ?_
            refine h_and (fun w h => h.sub (.cons _ (.cons _ (.cons _ (.cons_cons _ (.cons _ .slnil)))))) ?_
            refine h_do 1 rfl (by kernel_rfl) ?_
            refine g_call1 rfl rfl rfl Try.call24 (fun w hS => cwith_any s0 65 90 (by decide) (by decide) w) ?_
            refine g_nil ?_
            refine h_and (fun w h => h.sub (.cons _ (.cons _ (.cons _ (.cons_cons _ (.cons _ .slnil)))))) ?_
            refine h_do 3 rfl (by kernel_rfl) ?_
            refine g_call1 rfl rfl rfl Try.call24 (fun w hS => cwith_any s0 97 122 (by decide) (by decide) w) ?_
            refine g_nil ?_
            refine h_and (fun w h => h.sub (.cons _ (.cons _ (.cons _ (.cons_cons _ (.cons _ .slnil)))))) ?_
            refine h_do 5 rfl (by kernel_rfl) ?_
            refine g_call1 rfl rfl rfl Try.call24 (fun w hS => cwith_any s0 48 57 (by decide) (by decide) w) ?_
            refine g_nil ?_
            refine h_and (fun w h => h.sub (.cons _ (.cons _ (.cons _ (.cons_cons _ (.cons _ .slnil)))))) ?_
            exact h_fall (hm (b197, b193, b169)) [0, 2, 3, 4, 5, 6, 7, 10, 12, 14] (by kernel_rfl) rfl (fun w h => h.sub (.cons_cons _ (.cons_cons _ (.cons_cons _ (.cons_cons _ (.cons_cons _ .slnil))))))

end Go.Proofs.Ytpoelkfncpjmfaa
