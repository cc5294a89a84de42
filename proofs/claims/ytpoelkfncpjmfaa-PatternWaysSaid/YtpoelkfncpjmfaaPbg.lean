/- class: Both, Not, Named, single. -/
import Derived.Test.YtpoelkfncpjmfaaPbb
import Derived.Test.YtpoelkfncpjmfaaG
import Derived.Test.YtpoelkfncpjmfaaShelf
import Derived.Laws.StructEq
namespace Go.Proofs.Ytpoelkfncpjmfaa
open Go Go.RowKit

/-- Are two sets one? -/
def eq4 (s t : Nat → Int) : Bool := s 0 == t 0 && (s 1 == t 1 && (s 2 == t 2 && s 3 == t 3))
theorem eq4_self (s : Nat → Int) : (!eq4 s s) = false := by simp [eq4]
theorem run_eq4 (s t : Nat → Int) (w : World) : (Op.equalIn 10000 27 (.agg (s4C s).toArray) (.agg (s4C t).toArray)).run Try.prog w = .ok (s 0 == t 0 && (s 1 == t 1 && (s 2 == t 2 && s 3 == t 3))) w := by
  have u3 := Try.underlying25
  have a3 := Try.isAgg25
  have z3 := Try.sizeOf25
  rw [show (10000 : Nat) = 9999 + 1 from rfl, Op.equalIn]
  unfold s4C
  simp only [Sem.run_bind, run_underlying Try.underlying27, Result.andThen_ok]
  simp only [Std.Legacy.Range.forIn_eq_forIn_range', Std.Legacy.Range.size, Nat.sub_zero, Nat.add_sub_cancel, Nat.div_one, List.range'_succ, List.range'_zero, List.forIn_cons, List.forIn_nil]
  go_simp
  by_cases h1 : s 0 = t 0 <;> by_cases h2 : s 1 = t 1 <;> by_cases h3 : s 2 = t 2 <;> by_cases h4 : s 3 = t 3 <;> simp [h1, h2, h3, h4]
section
variable {N : Nat} {R : Regs} {S : World → Prop} {dst : Option Tmp} {ty t' : TypeId} {pos : String} {af : Array Edge} {gd : Option (Nat × Bool)} {x y : Operand}
theorem y_setNe (s t : Nat → Int) (hx : ev R x = some (.agg (s4C s).toArray)) (hy : ev R y = some (.agg (s4C t).toArray)) : Yv Try.prog N R S ⟨dst, .binOp .neq 27 x y t', ty, pos, af, gd⟩ (.bool (!eq4 s t)) :=
  y_bin hx hy fun w => by
    rw [Sem.run_bind, run_eqGuard_agg w _ _ _ _ _ _ (by kernel_rfl), Result.andThen_ok, run_neq_struct, run_eq4]; rfl
end
def notW (a : Int) : Int := IntKind.u64.wrap ((BitVec.ofInt 64 IntKind.u64.max ^^^ BitVec.ofInt 64 a).toNat : Int)
section
variable {P : Program} {N : Nat} {R : Regs} {S : World → Prop} {dst : Option Tmp} {ty t t' : TypeId} {pos : String} {af : Array Edge} {gd : Option (Nat × Bool)} {x y : Operand} {a b : Int}
theorem y_xorU (hx : ev R x = some (.int .u64 a)) : Yv P N R S ⟨dst, .unOp .xor t x, ty, pos, af, gd⟩ (.int .u64 (notW a)) := y_un hx fun w => rfl
theorem g_end_cell3 {fn : Func} {Rr : Ending → World → Prop} {W0 : World} {F : List Nat} {L : List Ent} {t b n u u2 : Nat} {ty t' : TypeId} {cs : List Value} {v v2 : Value} (i : Nat) (hr : fn.results = #[.cell t ty, .tmp u, .tmp u2]) (ht : R.lookup t = some (.pointer (some ⟨b, 0, none⟩))) (hu : R.lookup u = some v) (hu2 : R.lookup u2 = some v2) (hi : L[i]? = some (.cells b t' cs))
    (ha : ∀ w, (isAgg ty).run P w = .ok true w) (hz : ∀ w, (sizeOf ty).run P w = .ok n w) (hn : cs.length = n) (h : ∀ w, St W0 F L w → Rr (.returned (.tuple #[.agg cs.toArray, v, v2])) w) : G N R (St W0 F L) (bodyPost P fn Rr .ret) :=
  g_end (fun a w hR hS => by
    have e := run_row (P := P) (off := 0) (vs := cs) (hS.cells hi) ha hz (by rw [List.drop_zero, List.take_of_length_le (by omega)]) hn
    simp [results, hr, hR.getD ht, hR.getD hu, hR.getD hu2, asAddr, e]) h
end
/-- The library's variable holds a number. -/
def MaxHere (w : World) : Prop := ∃ m, w.cell? ⟨0, 0, none⟩ = some (.int .i64 m)
theorem MaxHere.of_heap {w w' : World} (h : MaxHere w) (e : w'.heap[0]? = w.heap[0]?) : MaxHere w' := by
  obtain ⟨m, hm⟩ := h
  exact ⟨m, by unfold World.cell? at hm ⊢; dsimp only at hm ⊢; rw [e]; exact hm⟩
theorem MaxHere.pos {w : World} (h : MaxHere w) : 0 < w.heap.size := by
  obtain ⟨m, hm⟩ := h
  unfold World.cell? at hm
  dsimp only at hm
  by_cases h0 : 0 < w.heap.size
  · exact h0
  · rw [Array.getElem?_eq_none (by omega)] at hm; cases hm
theorem St.maxHere {W0 w : World} {F : List Nat} {L : List Ent} (h : St W0 F L w) (hz : MaxHere W0) (hF : 0 ∉ F) : MaxHere w := hz.of_heap (h.keep 0 hz.pos hF)
theorem hasPrefix_any (s p : ByteArray) (w : World) : Calls Try.prog 35 #[.string s, .string p] w fun e w' => e = .returned (.bool (Lib.hasPrefix s.data.toList p.data.toList)) ∧ Below w.heap.size w w' :=
  (Try.strings_HasPrefix s p w).mono fun e w' ⟨he, hw⟩ => ⟨he, hw ▸ Below.refl _ _⟩

/-- The first i of f, the others of a. -/
def part (i : Nat) (f a : Nat → Int) : Nat → Int := fun k => if k < i then f k else a k
def bothS (a b : Nat → Int) : Nat → Int := fun k => IntKind.u64.wrap ((BitVec.ofInt 64 (a k) ||| BitVec.ofInt 64 (b k)).toNat : Int)
def notS (a : Nat → Int) : Nat → Int := fun k => notW (a k)
theorem part_get {i : Nat} (f a : Nat → Int) (h : i < 4) : (s4C (part i f a))[i]? = some (.int .u64 (a i)) := by rw [s4_get _ _ h]; unfold part; rw [if_neg (Nat.lt_irrefl _)]
theorem part_set {i : Nat} (f a : Nat → Int) (h : i < 4) : (s4C (part i f a)).set i (.int .u64 (f i)) = s4C (part (i + 1) f a) := by
  rw [s4_set _ _ _ h]
  congr 1
  funext k
  unfold upd part
  by_cases h1 : k = i
  · subst h1; rw [if_pos rfl, if_pos (by omega)]
  · rw [if_neg h1]; by_cases h2 : k < i
    · rw [if_pos h2, if_pos (by omega)]
    · rw [if_neg h2, if_neg (by omega)]

set_option maxRecDepth 100000 in
theorem both_any (a b : Nat → Int) (w : World) :
    Calls Try.prog 38 #[.agg (s4C a).toArray, .agg (s4C b).toArray] w fun e w' => e = .returned (.agg (s4C (bothS a b)).toArray) ∧ Below w.heap.size w w' := by
 refine fn_intro Try.func38 rfl Try.ntmps38 rfl rfl ?_
 refine s_ (o_ ?_)
 refine g_box rfl rfl rfl rfl (fun b1 => ?_)
 refine g_box rfl rfl rfl rfl (fun b2 => ?_)
 refine g_alloc rfl rfl Try.zeroValue27 rfl (fun b3 => ?_)
 refine n_ (t_ (s_ (s_ (o_ ?_))))
 refine xg 1 [] rfl rfl ?_
 refine n_ (t_ (g_block ?_))
 refine g_loop (α := {x : Nat // x ≤ 4}) (fun x => [(2, .pointer (some ⟨b1, 0, none⟩)), (3, .pointer (some ⟨b2, 0, none⟩)), (4, .pointer (some ⟨b3, 0, none⟩)), (6, .int .i64 (x.1 : Int))]) (fun x => St w [] [.cells b3 27 (s4C s0), .cells b2 27 (s4C b), .cells b1 27 (s4C (part x.1 (bothS a b) a))]) (fun x => 4 - x.1) ⟨0, by omega⟩ [2, 3, 4, 6] rfl (fun w h => h.pick [0,0,0] rfl) ?_
 rintro ⟨i, hi⟩
 dsimp only
 refine s_ (o_ ?_)
 refine xg 1 [0] rfl rfl ?_
 refine n_ (t_ (s_ ?_))
 refine g_casep 7 rfl (fun h1 => ?_) fun h1 => ?_
 ·refine g_cond_t rfl (g_skip (t_ (s_ (g_block (s_ (o_ ?_))))))
  refine xg 2 [] rfl rfl ?_
  refine n_ (t_ ?_)
  refine k_go [1] rfl (by kernel_rfl) (fun _ _ _ _ _ h => h) fun hQ => ?_
  refine k_x 0 [1] [] hQ (by kernel_rfl) rfl rfl rfl rfl rfl rfl ?_
  refine k_take 1 rfl (by kernel_rfl) hQ rfl rfl rfl (fun _ h => h.pick [1] rfl) (y_idxArr (m := i) rfl rfl Try.underlying27 Try.sizeOf25 (by omega) (by omega) (by omega)) ?_
  refine k_x 3 [1] [] hQ (by kernel_rfl) rfl rfl rfl rfl rfl rfl ?_
  refine k_take 4 rfl (by kernel_rfl) hQ rfl rfl rfl (fun _ h => h.pick [1] rfl) (y_idxArr (m := i) rfl rfl Try.underlying27 Try.sizeOf25 (by omega) (by omega) (by omega)) ?_
  refine k_take 5 rfl (by kernel_rfl) hQ rfl rfl rfl (fun _ h => h.pick [1] rfl) (y_ld (off := i) 0 rfl Try.isAgg25 rfl (s4_get _ _ (by omega))) ?_
  refine k_one 2 (by kernel_rfl) ?_
  refine k_op 2 rfl ?_
  refine g_val (v := .int .u64 (a i)) rfl rfl rfl (y_ld (off := i) 2 rfl Try.isAgg25 rfl (part_get _ _ (by omega))) ?_
  refine n_ ?_
  refine k_end (fun _ h => h.pick [1] rfl) ?_
  refine k_take 6 rfl (by kernel_rfl) hQ rfl rfl rfl (fun _ h => h.pick [1] rfl) (y_or rfl rfl) ?_
  refine k_take 7 rfl (by kernel_rfl) hQ rfl rfl rfl (fun _ h => h.pick [1] rfl) (y_idxArr (m := i) rfl rfl Try.underlying27 Try.sizeOf25 (by omega) (by omega) (by omega)) ?_
  refine k_one 8 (by kernel_rfl) ?_
  refine k_op 8 rfl ?_
  refine g_stV 2 rfl rfl rfl Try.sizeOf25 rfl rfl (show i < 4 by omega) ?_
  simp only [List.set_cons_zero, List.set_cons_succ]
  rw [show (s4C (part i (bothS a b) a)).set i (.int .u64 (IntKind.u64.wrap ((BitVec.ofInt IntKind.u64.bits (a i) ||| BitVec.ofInt IntKind.u64.bits (b i)).toNat : Int))) = _ from part_set (bothS a b) a (by omega)]
  refine n_ ?_
  refine k_end (fun _ h => h.pick [1] rfl) ?_
  refine k_done (by kernel_rfl) ?_
  refine g_in_normal (t_ (o_ ?_))
  refine xg 2 [] rfl (by omega) ?_
  refine n_ ?_
  exact g_again ⟨i + 1, by omega⟩ [2, 3, 4, 6] (by dsimp only; omega) rfl (fun w h => h.pick [0,0,0] rfl)
 refine g_cond_f rfl (g_exit (g_then_exit (g_then_exit (g_in_exit (t_ (s_ (o_ ?_)))))))
 refine xg 1 [2] rfl (by omega) ?_
 refine g_stN 0 rfl rfl rfl (by kernel_rfl) rfl rfl rfl rfl ?_
 simp only [List.set_cons_zero]
 refine n_ (t_ (g_ret ?_))
 refine g_end_cell 0 Try.results38 rfl rfl Try.isAgg27 Try.sizeOf27 rfl ?_
 obtain rfl : i = 4 := by omega
 exact fun w hS => ⟨rfl, hS.below⟩

theorem both_m (a b : Nat → Int) : Meets Try.prog (fun _ => True) 38 [.agg (s4C a).toArray, .agg (s4C b).toArray] (fun _ : Unit => .agg (s4C (bothS a b)).toArray) [] (fun _ => []) := meets1 Try.call38 (fun w hI => both_any a b w)
set_option maxRecDepth 100000 in
theorem not_any (a : Nat → Int) (w : World) :
    Calls Try.prog 40 #[.agg (s4C a).toArray] w fun e w' => e = .returned (.agg (s4C (notS a)).toArray) ∧ Below w.heap.size w w' := by
 refine fn_intro Try.func40 rfl Try.ntmps40 rfl rfl ?_
 refine s_ (o_ ?_)
 refine g_box rfl rfl rfl rfl (fun b1 => ?_)
 refine g_alloc rfl rfl Try.zeroValue27 rfl (fun b2 => ?_)
 refine n_ (t_ (s_ (s_ (o_ ?_))))
 refine xg 1 [] rfl rfl ?_
 refine n_ (t_ (g_block ?_))
 refine g_loop (α := {x : Nat // x ≤ 4}) (fun x => [(1, .pointer (some ⟨b1, 0, none⟩)), (2, .pointer (some ⟨b2, 0, none⟩)), (4, .int .i64 (x.1 : Int))]) (fun x => St w [] [.cells b2 27 (s4C s0), .cells b1 27 (s4C (part x.1 (notS a) a))]) (fun x => 4 - x.1) ⟨0, by omega⟩ [1, 2, 4] rfl (fun w h => h.pick [0,0] rfl) ?_
 rintro ⟨i, hi⟩
 dsimp only
 refine s_ (o_ ?_)
 refine xg 1 [0] rfl rfl ?_
 refine n_ (t_ (s_ ?_))
 refine g_casep 5 rfl (fun h1 => ?_) fun h1 => ?_
 ·refine g_cond_t rfl (g_skip (t_ (s_ (g_block (s_ (o_ ?_))))))
  refine xg 2 [] rfl rfl ?_
  refine nto_ ?_
  refine xg 2 [] rfl rfl ?_
  refine g_val rfl rfl rfl (y_idxArr (m := i) rfl rfl Try.underlying27 Try.sizeOf25 (by omega) (by omega) (by omega)) ?_
  refine g_val (v := .int .u64 (a i)) rfl rfl rfl (y_ld (off := i) 1 rfl Try.isAgg25 rfl (part_get _ _ (by omega))) ?_
  refine g_val rfl rfl rfl (y_xorU rfl) ?_
  refine g_val rfl rfl rfl (y_idxArr (m := i) rfl rfl Try.underlying27 Try.sizeOf25 (by omega) (by omega) (by omega)) ?_
  refine g_stV 1 rfl rfl rfl Try.sizeOf25 rfl rfl (show i < 4 by omega) ?_
  simp only [List.set_cons_zero, List.set_cons_succ]
  rw [show (s4C (part i (notS a) a)).set i (.int .u64 (notW (a i))) = _ from part_set (notS a) a (by omega)]
  refine n_ (g_in_normal (t_ (o_ ?_)))
  refine xg 2 [] rfl (by omega) ?_
  refine n_ ?_
  exact g_again ⟨i + 1, by omega⟩ [1, 2, 4] (by dsimp only; omega) rfl (fun w h => h.pick [0,0] rfl)
 refine g_cond_f rfl (g_exit (g_then_exit (g_then_exit (g_in_exit (t_ (s_ (o_ ?_)))))))
 refine xg 1 [1] rfl (by omega) ?_
 refine g_stN 0 rfl rfl rfl (by kernel_rfl) rfl rfl rfl rfl ?_
 simp only [List.set_cons_zero]
 refine n_ (t_ (g_ret ?_))
 refine g_end_cell 0 Try.results40 rfl rfl Try.isAgg27 Try.sizeOf27 rfl ?_
 obtain rfl : i = 4 := by omega
 exact fun w hS => ⟨rfl, hS.below⟩

theorem not_m (a : Nat → Int) : Meets Try.prog (fun _ => True) 40 [.agg (s4C a).toArray] (fun _ : Unit => .agg (s4C (notS a)).toArray) [] (fun _ => []) := meets1 Try.call40 (fun w hI => not_any a w)
/-- A call with a result of which little is told, and that leaves what is owned alone. -/
theorem g_callE {P : Program} {N : Nat} {R : Regs} {Q : Exit → Act → World → Prop} {ops : Array Oper} {rest : List Oper} {W0 : World} {F : List Nat} {L : List Ent} {ty : TypeId} {pos : String} {af : Array Edge} {gd : Option (Nat × Bool)} {α : Type} {d : Nat} {f : FuncId} {xs : List Operand} {ats : Array TypeId} {vs : List Value} (r : α → Value)
    (hw : want ops R ⟨some d, .call { callee := .value (.func f), args := xs.toArray, argTypes := ats }, ty, pos, af, gd⟩ = some true) (hN : Nat.blt d N = true)
    (hx : xs.mapM (ev R) = some vs) (hf : ∀ args w, (callFunc f args).run P w = .ok (.enter f args) w) (hc : ∀ w, St W0 F L w → Calls P f vs.toArray w (fun e w' => ∃ x, e = .returned (r x) ∧ Below w.heap.size w w'))
    (h : ∀ x, G N ((d, r x) :: R) (St W0 F L) (wpList P ops Q rest)) : G N R (St W0 F L) (wpList P ops Q (⟨some d, .call { callee := .value (.func f), args := xs.toArray, argTypes := ats }, ty, pos, af, gd⟩ :: rest)) :=
  g_call r (fun _ => St W0 F L) hw hN hx hf (fun w hS => (hc w hS).mono fun _ _ ⟨x, he, hb⟩ => ⟨x, he, by simpa using hS.then (St.of_below hb)⟩) h

set_option maxRecDepth 100000 in
theorem single_any (l : List UInt8) (f : Bool) (w : World) :
    Calls Try.prog 39 #[st8 l, .bool f] w fun e w' => ∃ x : {b : Bool // b = true → l ≠ []}, e = .returned (.bool x.1) ∧ Below w.heap.size w w' := by
 refine fn_intro Try.func39 rfl Try.ntmps39 rfl rfl ?_
 refine s_ ?_
 rcases l with _ | ⟨c, l⟩
 ·refine o_ ?_
  refine xg 1 [] rfl rfl ?_
  refine n_ (t_ (s_ (s_ (o_ ?_))))
  refine xg 2 [] rfl rfl ?_
  refine g_lit 6 true rfl (decide_eq_true rfl) ?_
  refine xg 14 [] rfl rfl ?_
  refine n_ (t_ (g_cond_t rfl (s_ (o_ ?_))))
  refine xg 1 [] rfl rfl ?_
  refine n_ (t_ (g_ret (g_then_ret ?_)))
  refine g_end1 Try.results39 rfl ?_
  exact fun w hS => ⟨⟨_, fun h => by cases h⟩, rfl, hS.below⟩
 refine o_ ?_
 refine xg 1 [] rfl rfl ?_
 refine n_ (t_ (s_ (s_ (o_ ?_))))
 refine xg 2 [] rfl rfl ?_
 refine g_lit 6 false rfl (decide_eq_false (st8_nil c l)) ?_
 refine xg 2 [] rfl rfl ?_
 refine g_val rfl rfl rfl (y_sidx (i := 0) rfl rfl Try.underlying9 (st8_0 c l)) ?_
 refine xg 3 [0] rfl rfl ?_
 refine g_casep 12 rfl (fun h1 => ?_) fun h1 => ?_
 ·refine xg 8 [] rfl rfl ?_
  refine n_ (t_ (g_cond_t rfl (s_ (o_ ?_))))
  refine xg 1 [] rfl rfl ?_
  refine n_ (t_ (g_ret (g_then_ret ?_)))
  refine g_end1 Try.results39 rfl ?_
  exact fun w hS => ⟨⟨_, fun _ => by simp⟩, rfl, hS.below⟩
 refine xg 1 [] rfl rfl ?_
 refine g_val rfl rfl rfl (y_sidx (i := 0) rfl rfl Try.underlying9 (st8_0 c l)) ?_
 refine xg 2 [0] rfl rfl ?_
 refine g_casep 16 rfl (fun h2 => ?_) fun h2 => ?_
 ·refine xg 4 [] rfl rfl ?_
  refine n_ (t_ ?_)
  first | refine g_casep 20 rfl (fun h3 => ?_) fun h3 => ?_ | refine g_caseb 20 rfl (fun h3 => ?_) fun h3 => ?_
  ·refine g_cond_t rfl (s_ (o_ ?_))
   refine xg 1 [] rfl rfl ?_
   refine n_ (t_ (g_ret (g_then_ret ?_)))
   refine g_end1 Try.results39 rfl ?_
   exact fun w hS => ⟨⟨_, fun _ => by simp⟩, rfl, hS.below⟩
  refine g_cond_f rfl (g_skip (t_ (s_ (o_ ?_))))
  refine xg 1 [] rfl rfl ?_
  refine g_call1 rfl rfl rfl Try.call35 (fun w hS => hasPrefix_any _ _ w) ?_
  refine xg 2 [] rfl rfl ?_
  first | refine g_casep 24 rfl (fun h4 => ?_) fun h4 => ?_ | refine g_caseb 24 rfl (fun h4 => ?_) fun h4 => ?_
  ·refine xg 1 [] rfl rfl ?_
   refine g_call1 rfl rfl rfl Try.call35 (fun w hS => hasPrefix_any _ _ w) ?_
   refine xg 3 [] rfl rfl ?_
   first | refine g_casep 29 rfl (fun h5 => ?_) fun h5 => ?_ | refine g_caseb 29 rfl (fun h5 => ?_) fun h5 => ?_
   ·refine xg 1 [] rfl rfl ?_
    refine g_call1 rfl rfl rfl Try.call35 (fun w hS => hasPrefix_any _ _ w) ?_
    refine xg 3 [] rfl rfl ?_
    refine n_ (t_ (g_ret ?_))
    refine g_end1 Try.results39 rfl ?_
    exact fun w hS => ⟨⟨_, fun _ => by simp⟩, rfl, hS.below⟩
   refine xg 5 [] rfl rfl ?_
   refine n_ (t_ (g_ret ?_))
   refine g_end1 Try.results39 rfl ?_
   exact fun w hS => ⟨⟨_, fun _ => by simp⟩, rfl, hS.below⟩
  refine xg 10 [] rfl rfl ?_
  refine n_ (t_ (g_ret ?_))
  refine g_end1 Try.results39 rfl ?_
  exact fun w hS => ⟨⟨_, fun _ => by simp⟩, rfl, hS.below⟩
 refine xg 4 [] rfl rfl ?_
 refine n_ (t_ (g_cond_f rfl (g_skip (t_ (s_ (o_ ?_))))))
 refine xg 1 [] rfl rfl ?_
 refine g_call1 rfl rfl rfl Try.call35 (fun w hS => hasPrefix_any _ _ w) ?_
 refine xg 2 [] rfl rfl ?_
 first | refine g_casep 24 rfl (fun h6 => ?_) fun h6 => ?_ | refine g_caseb 24 rfl (fun h6 => ?_) fun h6 => ?_
 ·refine xg 1 [] rfl rfl ?_
  refine g_call1 rfl rfl rfl Try.call35 (fun w hS => hasPrefix_any _ _ w) ?_
  refine xg 3 [] rfl rfl ?_
  first | refine g_casep 29 rfl (fun h7 => ?_) fun h7 => ?_ | refine g_caseb 29 rfl (fun h7 => ?_) fun h7 => ?_
  ·refine xg 1 [] rfl rfl ?_
   refine g_call1 rfl rfl rfl Try.call35 (fun w hS => hasPrefix_any _ _ w) ?_
   refine xg 3 [] rfl rfl ?_
   refine n_ (t_ (g_ret ?_))
   refine g_end1 Try.results39 rfl ?_
   exact fun w hS => ⟨⟨_, fun _ => by simp⟩, rfl, hS.below⟩
  refine xg 5 [] rfl rfl ?_
  refine n_ (t_ (g_ret ?_))
  refine g_end1 Try.results39 rfl ?_
  exact fun w hS => ⟨⟨_, fun _ => by simp⟩, rfl, hS.below⟩
 refine xg 10 [] rfl rfl ?_
 refine n_ (t_ (g_ret ?_))
 refine g_end1 Try.results39 rfl ?_
 exact fun w hS => ⟨⟨_, fun _ => by simp⟩, rfl, hS.below⟩

set_option maxHeartbeats 1000000 in
set_option maxRecDepth 100000 in
theorem named_any (s : ByteArray) (w : World) :
    Calls Try.prog 37 #[.string s] w fun e w' => ∃ x : (Nat → Int) × Bool, e = .returned (.tuple #[.agg (s4C x.1).toArray, .bool x.2]) ∧ Below w.heap.size w w' := by
 refine fn_intro Try.func37 rfl Try.ntmps37 rfl rfl ?_
 refine s_ (o_ ?_)
 refine g_alloc rfl rfl Try.zeroValue27 rfl (fun b1 => ?_)
 refine xg 1 [] rfl rfl ?_
 refine ntso_ ?_
 refine g_alloc rfl rfl Try.zeroValue27 rfl (fun b2 => ?_)
 refine n_ (t_ (s_ ?_))
 refine g_join (α := Nat × Nat × Nat) (fun x => [(0, .string s), (2, .pointer (some ⟨b1, 0, none⟩)), (3, .bool false), (4, .pointer (some ⟨b2, 0, none⟩)), (5, .pointer (some ⟨x.1, 0, none⟩)), (6, .pointer (some ⟨x.2.1, 0, none⟩)), (7, .pointer (some ⟨x.2.2, 0, none⟩))]) (fun x => [.cells x.1 27 (s4C (withS s0 65 (90 + 1 - 65))), .cells x.2.1 27 (s4C (withS s0 97 (122 + 1 - 97))), .cells x.2.2 27 (s4C (withS s0 48 (57 + 1 - 48))), .cells b2 27 (s4C s0), .cells b1 27 (s4C s0)]) ?_ ?_
 ·rintro ⟨p5, p6, p7⟩
  try dsimp only
  refine t_ (s_ ?_)
  refine k_go [0,0,0,0,0] rfl (by kernel_rfl) (fun _ _ _ _ _ h => h) fun hQ => ?_
  refine k_take 0 rfl (by kernel_rfl) hQ rfl rfl rfl (fun _ h => h.pick [0,0,0,0,0] rfl) (y_ldN (vs := s4C (withS s0 65 (90 + 1 - 65))) 0 rfl Try.isAgg27 Try.sizeOf27 rfl rfl rfl) ?_
  refine k_take 1 rfl (by kernel_rfl) hQ rfl rfl rfl (fun _ h => h.pick [0,0,0,0,0] rfl) (y_ldN (vs := s4C (withS s0 97 (122 + 1 - 97))) 1 rfl Try.isAgg27 Try.sizeOf27 rfl rfl rfl) ?_
  refine k_call 2 (both_m (withS s0 65 (90 + 1 - 65)) (withS s0 97 (122 + 1 - 97))) any_I rfl (by kernel_rfl) hQ rfl rfl rfl (fun _ h => h.pick [0,0,0,0,0] rfl) ?_
  refine k_take 3 rfl (by kernel_rfl) hQ rfl rfl rfl (fun _ h => h.pick [0,0,0,0,0] rfl) (y_ldN (vs := s4C (withS s0 48 (57 + 1 - 48))) 2 rfl Try.isAgg27 Try.sizeOf27 rfl rfl rfl) ?_
  refine k_call 4 (both_m (bothS (withS s0 65 (90 + 1 - 65)) (withS s0 97 (122 + 1 - 97))) (withS s0 48 (57 + 1 - 48))) any_I rfl (by kernel_rfl) hQ rfl rfl rfl (fun _ h => h.pick [0,0,0,0,0] rfl) ?_
  refine k_one 5 (by kernel_rfl) ?_
  refine k_op 5 rfl ?_
  refine g_alloc rfl rfl Try.zeroValue27 rfl (fun b3 => ?_)
  refine n_ ?_
  refine k_end (fun _ h => h.pick [1,1,1,1,1] rfl) ?_
  refine k_one 6 (by kernel_rfl) ?_
  refine k_op 6 rfl ?_
  refine g_stN 0 rfl rfl rfl (by kernel_rfl) rfl rfl rfl rfl ?_
  simp only [List.set_cons_zero]
  refine n_ ?_
  refine k_end (fun _ h => h.pick [1,1,1,1,1] rfl) ?_
  refine k_done (by kernel_rfl) ?_
  refine t_ (s_ (s_ (o_ ?_)))
  refine xg 1 [] rfl rfl ?_
  refine n_ (t_ (g_block (s_ (o_ ?_))))
  refine xg 2 [] rfl rfl ?_
  refine n_ (t_ ?_)
  refine g_casep 21 rfl (fun h1 => ?_) fun h1 => ?_
  ·refine g_cond_t rfl (o_ ?_)
   refine g_val rfl rfl rfl (y_ldN (vs := s4C (withS s0 65 (90 + 1 - 65))) 1 rfl Try.isAgg27 Try.sizeOf27 rfl rfl rfl) ?_
   refine g_val rfl rfl rfl (y_ldN (vs := s4C (withS s0 97 (122 + 1 - 97))) 2 rfl Try.isAgg27 Try.sizeOf27 rfl rfl rfl) ?_
   refine g_c1 (both_m (withS s0 65 (90 + 1 - 65)) (withS s0 97 (122 + 1 - 97))) any_I rfl rfl rfl ?_
   refine g_stN 4 rfl rfl rfl (by kernel_rfl) rfl rfl rfl rfl ?_
   simp only [List.set_cons_zero, List.set_cons_succ]
   refine n_ (g_in_normal (t_ (s_ ?_)))
   refine k_go [0,0,0,0,0] rfl (by kernel_rfl) (fun _ _ _ _ _ h => h) fun hQ => ?_
   refine k_take 0 rfl (by kernel_rfl) hQ rfl rfl rfl (fun _ h => h.pick [0,0,0,0,0] rfl) (y_ldN (vs := s4C (bothS (withS s0 65 (90 + 1 - 65)) (withS s0 97 (122 + 1 - 97)))) 4 rfl Try.isAgg27 Try.sizeOf27 rfl rfl rfl) ?_
   refine k_take 1 rfl (by kernel_rfl) hQ rfl rfl rfl (fun _ h => h.pick [0,0,0,0,0] rfl) (y_ldN (vs := s4C (bothS (withS s0 65 (90 + 1 - 65)) (withS s0 97 (122 + 1 - 97)))) 4 rfl Try.isAgg27 Try.sizeOf27 rfl rfl rfl) ?_
   refine k_take (v := .agg (s4C s0).toArray) 2 rfl (by kernel_rfl) hQ rfl rfl rfl (fun _ h => h.pick [0,0,0,0,0] rfl) (y_build (offs := []) rfl Try.zeroValue27 (by kernel_rfl)) ?_
   refine k_take 3 rfl (by kernel_rfl) hQ rfl rfl rfl (fun _ h => h.pick [0,0,0,0,0] rfl) (y_setNe (bothS (withS s0 65 (90 + 1 - 65)) (withS s0 97 (122 + 1 - 97))) s0 rfl rfl) ?_
   refine k_one 4 (by kernel_rfl) ?_
   refine k_op 4 rfl ?_
   refine g_stN 5 rfl rfl rfl (by kernel_rfl) rfl rfl rfl rfl ?_
   simp only [List.set_cons_zero, List.set_cons_succ]
   refine n_ ?_
   refine k_end (fun _ h => h.pick [0,0,0,0,0] rfl) ?_
   refine k_x 5 [0,0,0,0,0] [] hQ (by kernel_rfl) rfl rfl rfl rfl rfl rfl ?_
   refine k_done (by kernel_rfl) ?_
   refine t_ (g_ret ?_)
   refine g_end_cell2 5 Try.results37 rfl rfl rfl Try.isAgg27 Try.sizeOf27 rfl ?_
   exact fun w hS => ⟨((bothS (withS s0 65 (90 + 1 - 65)) (withS s0 97 (122 + 1 - 97))), _), rfl, hS.below⟩
  refine g_cond_f rfl (s_ (o_ ?_))
  refine xg 2 [] rfl rfl ?_
  refine n_ (t_ ?_)
  refine g_casep 26 rfl (fun h2 => ?_) fun h2 => ?_
  ·refine g_cond_t rfl (o_ ?_)
   refine g_val rfl rfl rfl (y_ldN (vs := s4C (withS s0 48 (57 + 1 - 48))) 3 rfl Try.isAgg27 Try.sizeOf27 rfl rfl rfl) ?_
   refine g_stN 4 rfl rfl rfl (by kernel_rfl) rfl rfl rfl rfl ?_
   simp only [List.set_cons_zero, List.set_cons_succ]
   refine n_ (g_in_normal (t_ (s_ ?_)))
   refine k_go [0,0,0,0,0] rfl (by kernel_rfl) (fun _ _ _ _ _ h => h) fun hQ => ?_
   refine k_take 0 rfl (by kernel_rfl) hQ rfl rfl rfl (fun _ h => h.pick [0,0,0,0,0] rfl) (y_ldN (vs := s4C (withS s0 48 (57 + 1 - 48))) 4 rfl Try.isAgg27 Try.sizeOf27 rfl rfl rfl) ?_
   refine k_take 1 rfl (by kernel_rfl) hQ rfl rfl rfl (fun _ h => h.pick [0,0,0,0,0] rfl) (y_ldN (vs := s4C (withS s0 48 (57 + 1 - 48))) 4 rfl Try.isAgg27 Try.sizeOf27 rfl rfl rfl) ?_
   refine k_take (v := .agg (s4C s0).toArray) 2 rfl (by kernel_rfl) hQ rfl rfl rfl (fun _ h => h.pick [0,0,0,0,0] rfl) (y_build (offs := []) rfl Try.zeroValue27 (by kernel_rfl)) ?_
   refine k_take 3 rfl (by kernel_rfl) hQ rfl rfl rfl (fun _ h => h.pick [0,0,0,0,0] rfl) (y_setNe (withS s0 48 (57 + 1 - 48)) s0 rfl rfl) ?_
   refine k_one 4 (by kernel_rfl) ?_
   refine k_op 4 rfl ?_
   refine g_stN 5 rfl rfl rfl (by kernel_rfl) rfl rfl rfl rfl ?_
   simp only [List.set_cons_zero, List.set_cons_succ]
   refine n_ ?_
   refine k_end (fun _ h => h.pick [0,0,0,0,0] rfl) ?_
   refine k_x 5 [0,0,0,0,0] [] hQ (by kernel_rfl) rfl rfl rfl rfl rfl rfl ?_
   refine k_done (by kernel_rfl) ?_
   refine t_ (g_ret ?_)
   refine g_end_cell2 5 Try.results37 rfl rfl rfl Try.isAgg27 Try.sizeOf27 rfl ?_
   exact fun w hS => ⟨((withS s0 48 (57 + 1 - 48)), _), rfl, hS.below⟩
  refine g_cond_f rfl (s_ (o_ ?_))
  refine xg 2 [] rfl rfl ?_
  refine n_ (t_ ?_)
  refine g_casep 29 rfl (fun h3 => ?_) fun h3 => ?_
  ·refine g_cond_t rfl (o_ ?_)
   refine g_val rfl rfl rfl (y_ldN (vs := s4C (bothS (bothS (withS s0 65 (90 + 1 - 65)) (withS s0 97 (122 + 1 - 97))) (withS s0 48 (57 + 1 - 48)))) 0 rfl Try.isAgg27 Try.sizeOf27 rfl rfl rfl) ?_
   refine g_stN 4 rfl rfl rfl (by kernel_rfl) rfl rfl rfl rfl ?_
   simp only [List.set_cons_zero, List.set_cons_succ]
   refine n_ (g_in_normal (t_ (s_ ?_)))
   refine k_go [0,0,0,0,0] rfl (by kernel_rfl) (fun _ _ _ _ _ h => h) fun hQ => ?_
   refine k_take 0 rfl (by kernel_rfl) hQ rfl rfl rfl (fun _ h => h.pick [0,0,0,0,0] rfl) (y_ldN (vs := s4C (bothS (bothS (withS s0 65 (90 + 1 - 65)) (withS s0 97 (122 + 1 - 97))) (withS s0 48 (57 + 1 - 48)))) 4 rfl Try.isAgg27 Try.sizeOf27 rfl rfl rfl) ?_
   refine k_take 1 rfl (by kernel_rfl) hQ rfl rfl rfl (fun _ h => h.pick [0,0,0,0,0] rfl) (y_ldN (vs := s4C (bothS (bothS (withS s0 65 (90 + 1 - 65)) (withS s0 97 (122 + 1 - 97))) (withS s0 48 (57 + 1 - 48)))) 4 rfl Try.isAgg27 Try.sizeOf27 rfl rfl rfl) ?_
   refine k_take (v := .agg (s4C s0).toArray) 2 rfl (by kernel_rfl) hQ rfl rfl rfl (fun _ h => h.pick [0,0,0,0,0] rfl) (y_build (offs := []) rfl Try.zeroValue27 (by kernel_rfl)) ?_
   refine k_take 3 rfl (by kernel_rfl) hQ rfl rfl rfl (fun _ h => h.pick [0,0,0,0,0] rfl) (y_setNe (bothS (bothS (withS s0 65 (90 + 1 - 65)) (withS s0 97 (122 + 1 - 97))) (withS s0 48 (57 + 1 - 48))) s0 rfl rfl) ?_
   refine k_one 4 (by kernel_rfl) ?_
   refine k_op 4 rfl ?_
   refine g_stN 5 rfl rfl rfl (by kernel_rfl) rfl rfl rfl rfl ?_
   simp only [List.set_cons_zero, List.set_cons_succ]
   refine n_ ?_
   refine k_end (fun _ h => h.pick [0,0,0,0,0] rfl) ?_
   refine k_x 5 [0,0,0,0,0] [] hQ (by kernel_rfl) rfl rfl rfl rfl rfl rfl ?_
   refine k_done (by kernel_rfl) ?_
   refine t_ (g_ret ?_)
   refine g_end_cell2 5 Try.results37 rfl rfl rfl Try.isAgg27 Try.sizeOf27 rfl ?_
   exact fun w hS => ⟨((bothS (bothS (withS s0 65 (90 + 1 - 65)) (withS s0 97 (122 + 1 - 97))) (withS s0 48 (57 + 1 - 48))), _), rfl, hS.below⟩
  refine g_cond_f rfl (s_ (o_ ?_))
  refine xg 2 [] rfl rfl ?_
  refine n_ (t_ ?_)
  refine g_casep 32 rfl (fun h4 => ?_) fun h4 => ?_
  ·refine g_cond_t rfl (o_ ?_)
   refine g_val rfl rfl rfl (y_ldN (vs := s4C (withS s0 65 (90 + 1 - 65))) 1 rfl Try.isAgg27 Try.sizeOf27 rfl rfl rfl) ?_
   refine g_stN 4 rfl rfl rfl (by kernel_rfl) rfl rfl rfl rfl ?_
   simp only [List.set_cons_zero, List.set_cons_succ]
   refine n_ (g_in_normal (t_ (s_ ?_)))
   refine k_go [0,0,0,0,0] rfl (by kernel_rfl) (fun _ _ _ _ _ h => h) fun hQ => ?_
   refine k_take 0 rfl (by kernel_rfl) hQ rfl rfl rfl (fun _ h => h.pick [0,0,0,0,0] rfl) (y_ldN (vs := s4C (withS s0 65 (90 + 1 - 65))) 4 rfl Try.isAgg27 Try.sizeOf27 rfl rfl rfl) ?_
   refine k_take 1 rfl (by kernel_rfl) hQ rfl rfl rfl (fun _ h => h.pick [0,0,0,0,0] rfl) (y_ldN (vs := s4C (withS s0 65 (90 + 1 - 65))) 4 rfl Try.isAgg27 Try.sizeOf27 rfl rfl rfl) ?_
   refine k_take (v := .agg (s4C s0).toArray) 2 rfl (by kernel_rfl) hQ rfl rfl rfl (fun _ h => h.pick [0,0,0,0,0] rfl) (y_build (offs := []) rfl Try.zeroValue27 (by kernel_rfl)) ?_
   refine k_take 3 rfl (by kernel_rfl) hQ rfl rfl rfl (fun _ h => h.pick [0,0,0,0,0] rfl) (y_setNe (withS s0 65 (90 + 1 - 65)) s0 rfl rfl) ?_
   refine k_one 4 (by kernel_rfl) ?_
   refine k_op 4 rfl ?_
   refine g_stN 5 rfl rfl rfl (by kernel_rfl) rfl rfl rfl rfl ?_
   simp only [List.set_cons_zero, List.set_cons_succ]
   refine n_ ?_
   refine k_end (fun _ h => h.pick [0,0,0,0,0] rfl) ?_
   refine k_x 5 [0,0,0,0,0] [] hQ (by kernel_rfl) rfl rfl rfl rfl rfl rfl ?_
   refine k_done (by kernel_rfl) ?_
   refine t_ (g_ret ?_)
   refine g_end_cell2 5 Try.results37 rfl rfl rfl Try.isAgg27 Try.sizeOf27 rfl ?_
   exact fun w hS => ⟨((withS s0 65 (90 + 1 - 65)), _), rfl, hS.below⟩
  refine g_cond_f rfl (s_ (o_ ?_))
  refine xg 2 [] rfl rfl ?_
  refine n_ (t_ ?_)
  refine g_casep 35 rfl (fun h5 => ?_) fun h5 => ?_
  ·refine g_cond_t rfl (o_ ?_)
   refine g_val rfl rfl rfl (y_ldN (vs := s4C (withS s0 97 (122 + 1 - 97))) 2 rfl Try.isAgg27 Try.sizeOf27 rfl rfl rfl) ?_
   refine g_stN 4 rfl rfl rfl (by kernel_rfl) rfl rfl rfl rfl ?_
   simp only [List.set_cons_zero, List.set_cons_succ]
   refine n_ (g_in_normal (t_ (s_ ?_)))
   refine k_go [0,0,0,0,0] rfl (by kernel_rfl) (fun _ _ _ _ _ h => h) fun hQ => ?_
   refine k_take 0 rfl (by kernel_rfl) hQ rfl rfl rfl (fun _ h => h.pick [0,0,0,0,0] rfl) (y_ldN (vs := s4C (withS s0 97 (122 + 1 - 97))) 4 rfl Try.isAgg27 Try.sizeOf27 rfl rfl rfl) ?_
   refine k_take 1 rfl (by kernel_rfl) hQ rfl rfl rfl (fun _ h => h.pick [0,0,0,0,0] rfl) (y_ldN (vs := s4C (withS s0 97 (122 + 1 - 97))) 4 rfl Try.isAgg27 Try.sizeOf27 rfl rfl rfl) ?_
   refine k_take (v := .agg (s4C s0).toArray) 2 rfl (by kernel_rfl) hQ rfl rfl rfl (fun _ h => h.pick [0,0,0,0,0] rfl) (y_build (offs := []) rfl Try.zeroValue27 (by kernel_rfl)) ?_
   refine k_take 3 rfl (by kernel_rfl) hQ rfl rfl rfl (fun _ h => h.pick [0,0,0,0,0] rfl) (y_setNe (withS s0 97 (122 + 1 - 97)) s0 rfl rfl) ?_
   refine k_one 4 (by kernel_rfl) ?_
   refine k_op 4 rfl ?_
   refine g_stN 5 rfl rfl rfl (by kernel_rfl) rfl rfl rfl rfl ?_
   simp only [List.set_cons_zero, List.set_cons_succ]
   refine n_ ?_
   refine k_end (fun _ h => h.pick [0,0,0,0,0] rfl) ?_
   refine k_x 5 [0,0,0,0,0] [] hQ (by kernel_rfl) rfl rfl rfl rfl rfl rfl ?_
   refine k_done (by kernel_rfl) ?_
   refine t_ (g_ret ?_)
   refine g_end_cell2 5 Try.results37 rfl rfl rfl Try.isAgg27 Try.sizeOf27 rfl ?_
   exact fun w hS => ⟨((withS s0 97 (122 + 1 - 97)), _), rfl, hS.below⟩
  refine g_cond_f rfl (s_ (o_ ?_))
  refine xg 2 [] rfl rfl ?_
  refine n_ (t_ ?_)
  refine g_casep 38 rfl (fun h6 => ?_) fun h6 => ?_
  ·refine g_cond_t rfl (o_ ?_)
   refine g_val rfl rfl rfl (y_ldN (vs := s4C s0) 4 rfl Try.isAgg27 Try.sizeOf27 rfl rfl rfl) ?_
   refine g_c1 (cwith_m s0 9 13 (by decide) (by decide)) any_I rfl rfl rfl ?_
   refine g_c1 (cwith_m (withS s0 9 (13 + 1 - 9)) 32 32 (by decide) (by decide)) any_I rfl rfl rfl ?_
   refine g_stN 4 rfl rfl rfl (by kernel_rfl) rfl rfl rfl rfl ?_
   simp only [List.set_cons_zero, List.set_cons_succ]
   refine n_ (g_in_normal (t_ (s_ ?_)))
   refine k_go [0,0,0,0,0] rfl (by kernel_rfl) (fun _ _ _ _ _ h => h) fun hQ => ?_
   refine k_take 0 rfl (by kernel_rfl) hQ rfl rfl rfl (fun _ h => h.pick [0,0,0,0,0] rfl) (y_ldN (vs := s4C (withS (withS s0 9 (13 + 1 - 9)) 32 (32 + 1 - 32))) 4 rfl Try.isAgg27 Try.sizeOf27 rfl rfl rfl) ?_
   refine k_take 1 rfl (by kernel_rfl) hQ rfl rfl rfl (fun _ h => h.pick [0,0,0,0,0] rfl) (y_ldN (vs := s4C (withS (withS s0 9 (13 + 1 - 9)) 32 (32 + 1 - 32))) 4 rfl Try.isAgg27 Try.sizeOf27 rfl rfl rfl) ?_
   refine k_take (v := .agg (s4C s0).toArray) 2 rfl (by kernel_rfl) hQ rfl rfl rfl (fun _ h => h.pick [0,0,0,0,0] rfl) (y_build (offs := []) rfl Try.zeroValue27 (by kernel_rfl)) ?_
   refine k_take 3 rfl (by kernel_rfl) hQ rfl rfl rfl (fun _ h => h.pick [0,0,0,0,0] rfl) (y_setNe (withS (withS s0 9 (13 + 1 - 9)) 32 (32 + 1 - 32)) s0 rfl rfl) ?_
   refine k_one 4 (by kernel_rfl) ?_
   refine k_op 4 rfl ?_
   refine g_stN 5 rfl rfl rfl (by kernel_rfl) rfl rfl rfl rfl ?_
   simp only [List.set_cons_zero, List.set_cons_succ]
   refine n_ ?_
   refine k_end (fun _ h => h.pick [0,0,0,0,0] rfl) ?_
   refine k_x 5 [0,0,0,0,0] [] hQ (by kernel_rfl) rfl rfl rfl rfl rfl rfl ?_
   refine k_done (by kernel_rfl) ?_
   refine t_ (g_ret ?_)
   refine g_end_cell2 5 Try.results37 rfl rfl rfl Try.isAgg27 Try.sizeOf27 rfl ?_
   exact fun w hS => ⟨((withS (withS s0 9 (13 + 1 - 9)) 32 (32 + 1 - 32)), _), rfl, hS.below⟩
  refine g_cond_f rfl (s_ (o_ ?_))
  refine xg 2 [] rfl rfl ?_
  refine n_ (t_ ?_)
  refine g_casep 43 rfl (fun h7 => ?_) fun h7 => ?_
  ·refine g_cond_t rfl (o_ ?_)
   refine g_val rfl rfl rfl (y_ldN (vs := s4C s0) 4 rfl Try.isAgg27 Try.sizeOf27 rfl rfl rfl) ?_
   refine g_c1 (cwith_m s0 9 9 (by decide) (by decide)) any_I rfl rfl rfl ?_
   refine g_c1 (cwith_m (withS s0 9 (9 + 1 - 9)) 32 32 (by decide) (by decide)) any_I rfl rfl rfl ?_
   refine g_stN 4 rfl rfl rfl (by kernel_rfl) rfl rfl rfl rfl ?_
   simp only [List.set_cons_zero, List.set_cons_succ]
   refine n_ (g_in_normal (t_ (s_ ?_)))
   refine k_go [0,0,0,0,0] rfl (by kernel_rfl) (fun _ _ _ _ _ h => h) fun hQ => ?_
   refine k_take 0 rfl (by kernel_rfl) hQ rfl rfl rfl (fun _ h => h.pick [0,0,0,0,0] rfl) (y_ldN (vs := s4C (withS (withS s0 9 (9 + 1 - 9)) 32 (32 + 1 - 32))) 4 rfl Try.isAgg27 Try.sizeOf27 rfl rfl rfl) ?_
   refine k_take 1 rfl (by kernel_rfl) hQ rfl rfl rfl (fun _ h => h.pick [0,0,0,0,0] rfl) (y_ldN (vs := s4C (withS (withS s0 9 (9 + 1 - 9)) 32 (32 + 1 - 32))) 4 rfl Try.isAgg27 Try.sizeOf27 rfl rfl rfl) ?_
   refine k_take (v := .agg (s4C s0).toArray) 2 rfl (by kernel_rfl) hQ rfl rfl rfl (fun _ h => h.pick [0,0,0,0,0] rfl) (y_build (offs := []) rfl Try.zeroValue27 (by kernel_rfl)) ?_
   refine k_take 3 rfl (by kernel_rfl) hQ rfl rfl rfl (fun _ h => h.pick [0,0,0,0,0] rfl) (y_setNe (withS (withS s0 9 (9 + 1 - 9)) 32 (32 + 1 - 32)) s0 rfl rfl) ?_
   refine k_one 4 (by kernel_rfl) ?_
   refine k_op 4 rfl ?_
   refine g_stN 5 rfl rfl rfl (by kernel_rfl) rfl rfl rfl rfl ?_
   simp only [List.set_cons_zero, List.set_cons_succ]
   refine n_ ?_
   refine k_end (fun _ h => h.pick [0,0,0,0,0] rfl) ?_
   refine k_x 5 [0,0,0,0,0] [] hQ (by kernel_rfl) rfl rfl rfl rfl rfl rfl ?_
   refine k_done (by kernel_rfl) ?_
   refine t_ (g_ret ?_)
   refine g_end_cell2 5 Try.results37 rfl rfl rfl Try.isAgg27 Try.sizeOf27 rfl ?_
   exact fun w hS => ⟨((withS (withS s0 9 (9 + 1 - 9)) 32 (32 + 1 - 32)), _), rfl, hS.below⟩
  refine g_cond_f rfl (s_ (o_ ?_))
  refine xg 2 [] rfl rfl ?_
  refine n_ (t_ ?_)
  refine g_casep 48 rfl (fun h8 => ?_) fun h8 => ?_
  ·refine g_cond_t rfl ?_
   refine k_go [0,0,0,0,1] rfl (by kernel_rfl) (fun _ _ _ _ _ h => h) fun hQ => ?_
   refine k_take 0 rfl (by kernel_rfl) hQ rfl rfl rfl (fun _ h => h.pick [0,0,0,0,1] rfl) (y_ldN (vs := s4C (bothS (bothS (withS s0 65 (90 + 1 - 65)) (withS s0 97 (122 + 1 - 97))) (withS s0 48 (57 + 1 - 48)))) 0 rfl Try.isAgg27 Try.sizeOf27 rfl rfl rfl) ?_
   refine k_one 1 (by kernel_rfl) ?_
   refine k_op 1 rfl ?_
   refine g_val rfl rfl rfl (y_ldN (vs := s4C s0) 4 rfl Try.isAgg27 Try.sizeOf27 rfl rfl rfl) ?_
   refine n_ ?_
   refine k_end (fun _ h => h.pick [0,0,0,0,1] rfl) ?_
   refine k_call 2 (cwith_m s0 33 126 (by decide) (by decide)) any_I rfl (by kernel_rfl) hQ rfl rfl rfl (fun _ h => h.pick [0,0,0,0,1] rfl) ?_
   refine k_call 3 (not_m (withS s0 33 (126 + 1 - 33))) any_I rfl (by kernel_rfl) hQ rfl rfl rfl (fun _ h => h.pick [0,0,0,0,1] rfl) ?_
   refine k_call 4 (both_m (bothS (bothS (withS s0 65 (90 + 1 - 65)) (withS s0 97 (122 + 1 - 97))) (withS s0 48 (57 + 1 - 48))) (notS (withS s0 33 (126 + 1 - 33)))) any_I rfl (by kernel_rfl) hQ rfl rfl rfl (fun _ h => h.pick [0,0,0,0,1] rfl) ?_
   refine k_call 5 (not_m (bothS (bothS (bothS (withS s0 65 (90 + 1 - 65)) (withS s0 97 (122 + 1 - 97))) (withS s0 48 (57 + 1 - 48))) (notS (withS s0 33 (126 + 1 - 33))))) any_I rfl (by kernel_rfl) hQ rfl rfl rfl (fun _ h => h.pick [0,0,0,0,1] rfl) ?_
   refine k_one 6 (by kernel_rfl) ?_
   refine k_op 6 rfl ?_
   refine g_stN 4 rfl rfl rfl (by kernel_rfl) rfl rfl rfl rfl ?_
   simp only [List.set_cons_zero, List.set_cons_succ]
   refine n_ ?_
   refine k_end (fun _ h => h.pick [0,0,0,0,1] rfl) ?_
   refine k_done (by kernel_rfl) ?_
   refine g_in_normal (t_ (s_ ?_))
   refine k_go [0,0,0,0,0] rfl (by kernel_rfl) (fun _ _ _ _ _ h => h) fun hQ => ?_
   refine k_take 0 rfl (by kernel_rfl) hQ rfl rfl rfl (fun _ h => h.pick [0,0,0,0,0] rfl) (y_ldN (vs := s4C (notS (bothS (bothS (bothS (withS s0 65 (90 + 1 - 65)) (withS s0 97 (122 + 1 - 97))) (withS s0 48 (57 + 1 - 48))) (notS (withS s0 33 (126 + 1 - 33)))))) 4 rfl Try.isAgg27 Try.sizeOf27 rfl rfl rfl) ?_
   refine k_take 1 rfl (by kernel_rfl) hQ rfl rfl rfl (fun _ h => h.pick [0,0,0,0,0] rfl) (y_ldN (vs := s4C (notS (bothS (bothS (bothS (withS s0 65 (90 + 1 - 65)) (withS s0 97 (122 + 1 - 97))) (withS s0 48 (57 + 1 - 48))) (notS (withS s0 33 (126 + 1 - 33)))))) 4 rfl Try.isAgg27 Try.sizeOf27 rfl rfl rfl) ?_
   refine k_take (v := .agg (s4C s0).toArray) 2 rfl (by kernel_rfl) hQ rfl rfl rfl (fun _ h => h.pick [0,0,0,0,0] rfl) (y_build (offs := []) rfl Try.zeroValue27 (by kernel_rfl)) ?_
   refine k_take 3 rfl (by kernel_rfl) hQ rfl rfl rfl (fun _ h => h.pick [0,0,0,0,0] rfl) (y_setNe (notS (bothS (bothS (bothS (withS s0 65 (90 + 1 - 65)) (withS s0 97 (122 + 1 - 97))) (withS s0 48 (57 + 1 - 48))) (notS (withS s0 33 (126 + 1 - 33))))) s0 rfl rfl) ?_
   refine k_one 4 (by kernel_rfl) ?_
   refine k_op 4 rfl ?_
   refine g_stN 5 rfl rfl rfl (by kernel_rfl) rfl rfl rfl rfl ?_
   simp only [List.set_cons_zero, List.set_cons_succ]
   refine n_ ?_
   refine k_end (fun _ h => h.pick [0,0,0,0,0] rfl) ?_
   refine k_x 5 [0,0,0,0,0] [] hQ (by kernel_rfl) rfl rfl rfl rfl rfl rfl ?_
   refine k_done (by kernel_rfl) ?_
   refine t_ (g_ret ?_)
   refine g_end_cell2 5 Try.results37 rfl rfl rfl Try.isAgg27 Try.sizeOf27 rfl ?_
   exact fun w hS => ⟨((notS (bothS (bothS (bothS (withS s0 65 (90 + 1 - 65)) (withS s0 97 (122 + 1 - 97))) (withS s0 48 (57 + 1 - 48))) (notS (withS s0 33 (126 + 1 - 33))))), _), rfl, hS.below⟩
  refine g_cond_f rfl (s_ (o_ ?_))
  refine xg 2 [] rfl rfl ?_
  refine n_ (t_ ?_)
  refine g_casep 56 rfl (fun h9 => ?_) fun h9 => ?_
  ·refine g_cond_t rfl (o_ ?_)
   refine g_val rfl rfl rfl (y_ldN (vs := s4C s0) 4 rfl Try.isAgg27 Try.sizeOf27 rfl rfl rfl) ?_
   refine g_c1 (cwith_m s0 32 126 (by decide) (by decide)) any_I rfl rfl rfl ?_
   refine g_stN 4 rfl rfl rfl (by kernel_rfl) rfl rfl rfl rfl ?_
   simp only [List.set_cons_zero, List.set_cons_succ]
   refine n_ (g_in_normal (t_ (s_ ?_)))
   refine k_go [0,0,0,0,0] rfl (by kernel_rfl) (fun _ _ _ _ _ h => h) fun hQ => ?_
   refine k_take 0 rfl (by kernel_rfl) hQ rfl rfl rfl (fun _ h => h.pick [0,0,0,0,0] rfl) (y_ldN (vs := s4C (withS s0 32 (126 + 1 - 32))) 4 rfl Try.isAgg27 Try.sizeOf27 rfl rfl rfl) ?_
   refine k_take 1 rfl (by kernel_rfl) hQ rfl rfl rfl (fun _ h => h.pick [0,0,0,0,0] rfl) (y_ldN (vs := s4C (withS s0 32 (126 + 1 - 32))) 4 rfl Try.isAgg27 Try.sizeOf27 rfl rfl rfl) ?_
   refine k_take (v := .agg (s4C s0).toArray) 2 rfl (by kernel_rfl) hQ rfl rfl rfl (fun _ h => h.pick [0,0,0,0,0] rfl) (y_build (offs := []) rfl Try.zeroValue27 (by kernel_rfl)) ?_
   refine k_take 3 rfl (by kernel_rfl) hQ rfl rfl rfl (fun _ h => h.pick [0,0,0,0,0] rfl) (y_setNe (withS s0 32 (126 + 1 - 32)) s0 rfl rfl) ?_
   refine k_one 4 (by kernel_rfl) ?_
   refine k_op 4 rfl ?_
   refine g_stN 5 rfl rfl rfl (by kernel_rfl) rfl rfl rfl rfl ?_
   simp only [List.set_cons_zero, List.set_cons_succ]
   refine n_ ?_
   refine k_end (fun _ h => h.pick [0,0,0,0,0] rfl) ?_
   refine k_x 5 [0,0,0,0,0] [] hQ (by kernel_rfl) rfl rfl rfl rfl rfl rfl ?_
   refine k_done (by kernel_rfl) ?_
   refine t_ (g_ret ?_)
   refine g_end_cell2 5 Try.results37 rfl rfl rfl Try.isAgg27 Try.sizeOf27 rfl ?_
   exact fun w hS => ⟨((withS s0 32 (126 + 1 - 32)), _), rfl, hS.below⟩
  refine g_cond_f rfl (s_ (o_ ?_))
  refine xg 2 [] rfl rfl ?_
  refine n_ (t_ ?_)
  refine g_casep 60 rfl (fun h10 => ?_) fun h10 => ?_
  ·refine g_cond_t rfl (o_ ?_)
   refine g_val rfl rfl rfl (y_ldN (vs := s4C s0) 4 rfl Try.isAgg27 Try.sizeOf27 rfl rfl rfl) ?_
   refine g_c1 (cwith_m s0 33 126 (by decide) (by decide)) any_I rfl rfl rfl ?_
   refine g_stN 4 rfl rfl rfl (by kernel_rfl) rfl rfl rfl rfl ?_
   simp only [List.set_cons_zero, List.set_cons_succ]
   refine n_ (g_in_normal (t_ (s_ ?_)))
   refine k_go [0,0,0,0,0] rfl (by kernel_rfl) (fun _ _ _ _ _ h => h) fun hQ => ?_
   refine k_take 0 rfl (by kernel_rfl) hQ rfl rfl rfl (fun _ h => h.pick [0,0,0,0,0] rfl) (y_ldN (vs := s4C (withS s0 33 (126 + 1 - 33))) 4 rfl Try.isAgg27 Try.sizeOf27 rfl rfl rfl) ?_
   refine k_take 1 rfl (by kernel_rfl) hQ rfl rfl rfl (fun _ h => h.pick [0,0,0,0,0] rfl) (y_ldN (vs := s4C (withS s0 33 (126 + 1 - 33))) 4 rfl Try.isAgg27 Try.sizeOf27 rfl rfl rfl) ?_
   refine k_take (v := .agg (s4C s0).toArray) 2 rfl (by kernel_rfl) hQ rfl rfl rfl (fun _ h => h.pick [0,0,0,0,0] rfl) (y_build (offs := []) rfl Try.zeroValue27 (by kernel_rfl)) ?_
   refine k_take 3 rfl (by kernel_rfl) hQ rfl rfl rfl (fun _ h => h.pick [0,0,0,0,0] rfl) (y_setNe (withS s0 33 (126 + 1 - 33)) s0 rfl rfl) ?_
   refine k_one 4 (by kernel_rfl) ?_
   refine k_op 4 rfl ?_
   refine g_stN 5 rfl rfl rfl (by kernel_rfl) rfl rfl rfl rfl ?_
   simp only [List.set_cons_zero, List.set_cons_succ]
   refine n_ ?_
   refine k_end (fun _ h => h.pick [0,0,0,0,0] rfl) ?_
   refine k_x 5 [0,0,0,0,0] [] hQ (by kernel_rfl) rfl rfl rfl rfl rfl rfl ?_
   refine k_done (by kernel_rfl) ?_
   refine t_ (g_ret ?_)
   refine g_end_cell2 5 Try.results37 rfl rfl rfl Try.isAgg27 Try.sizeOf27 rfl ?_
   exact fun w hS => ⟨((withS s0 33 (126 + 1 - 33)), _), rfl, hS.below⟩
  refine g_cond_f rfl (s_ (o_ ?_))
  refine xg 2 [] rfl rfl ?_
  refine n_ (t_ ?_)
  refine g_casep 64 rfl (fun h11 => ?_) fun h11 => ?_
  ·refine g_cond_t rfl (o_ ?_)
   refine g_val rfl rfl rfl (y_ldN (vs := s4C s0) 4 rfl Try.isAgg27 Try.sizeOf27 rfl rfl rfl) ?_
   refine g_c1 (cwith_m s0 0 31 (by decide) (by decide)) any_I rfl rfl rfl ?_
   refine g_c1 (cwith_m (withS s0 0 (31 + 1 - 0)) 127 127 (by decide) (by decide)) any_I rfl rfl rfl ?_
   refine g_stN 4 rfl rfl rfl (by kernel_rfl) rfl rfl rfl rfl ?_
   simp only [List.set_cons_zero, List.set_cons_succ]
   refine n_ (g_in_normal (t_ (s_ ?_)))
   refine k_go [0,0,0,0,0] rfl (by kernel_rfl) (fun _ _ _ _ _ h => h) fun hQ => ?_
   refine k_take 0 rfl (by kernel_rfl) hQ rfl rfl rfl (fun _ h => h.pick [0,0,0,0,0] rfl) (y_ldN (vs := s4C (withS (withS s0 0 (31 + 1 - 0)) 127 (127 + 1 - 127))) 4 rfl Try.isAgg27 Try.sizeOf27 rfl rfl rfl) ?_
   refine k_take 1 rfl (by kernel_rfl) hQ rfl rfl rfl (fun _ h => h.pick [0,0,0,0,0] rfl) (y_ldN (vs := s4C (withS (withS s0 0 (31 + 1 - 0)) 127 (127 + 1 - 127))) 4 rfl Try.isAgg27 Try.sizeOf27 rfl rfl rfl) ?_
   refine k_take (v := .agg (s4C s0).toArray) 2 rfl (by kernel_rfl) hQ rfl rfl rfl (fun _ h => h.pick [0,0,0,0,0] rfl) (y_build (offs := []) rfl Try.zeroValue27 (by kernel_rfl)) ?_
   refine k_take 3 rfl (by kernel_rfl) hQ rfl rfl rfl (fun _ h => h.pick [0,0,0,0,0] rfl) (y_setNe (withS (withS s0 0 (31 + 1 - 0)) 127 (127 + 1 - 127)) s0 rfl rfl) ?_
   refine k_one 4 (by kernel_rfl) ?_
   refine k_op 4 rfl ?_
   refine g_stN 5 rfl rfl rfl (by kernel_rfl) rfl rfl rfl rfl ?_
   simp only [List.set_cons_zero, List.set_cons_succ]
   refine n_ ?_
   refine k_end (fun _ h => h.pick [0,0,0,0,0] rfl) ?_
   refine k_x 5 [0,0,0,0,0] [] hQ (by kernel_rfl) rfl rfl rfl rfl rfl rfl ?_
   refine k_done (by kernel_rfl) ?_
   refine t_ (g_ret ?_)
   refine g_end_cell2 5 Try.results37 rfl rfl rfl Try.isAgg27 Try.sizeOf27 rfl ?_
   exact fun w hS => ⟨((withS (withS s0 0 (31 + 1 - 0)) 127 (127 + 1 - 127)), _), rfl, hS.below⟩
  refine g_cond_f rfl (s_ (o_ ?_))
  refine xg 2 [] rfl rfl ?_
  refine n_ (t_ ?_)
  refine g_casep 69 rfl (fun h12 => ?_) fun h12 => ?_
  ·refine g_cond_t rfl (o_ ?_)
   refine g_val rfl rfl rfl (y_ldN (vs := s4C (withS s0 48 (57 + 1 - 48))) 3 rfl Try.isAgg27 Try.sizeOf27 rfl rfl rfl) ?_
   refine g_c1 (cwith_m (withS s0 48 (57 + 1 - 48)) 65 70 (by decide) (by decide)) any_I rfl rfl rfl ?_
   refine g_c1 (cwith_m (withS (withS s0 48 (57 + 1 - 48)) 65 (70 + 1 - 65)) 97 102 (by decide) (by decide)) any_I rfl rfl rfl ?_
   refine g_stN 4 rfl rfl rfl (by kernel_rfl) rfl rfl rfl rfl ?_
   simp only [List.set_cons_zero, List.set_cons_succ]
   refine n_ (g_in_normal (t_ (s_ ?_)))
   refine k_go [0,0,0,0,0] rfl (by kernel_rfl) (fun _ _ _ _ _ h => h) fun hQ => ?_
   refine k_take 0 rfl (by kernel_rfl) hQ rfl rfl rfl (fun _ h => h.pick [0,0,0,0,0] rfl) (y_ldN (vs := s4C (withS (withS (withS s0 48 (57 + 1 - 48)) 65 (70 + 1 - 65)) 97 (102 + 1 - 97))) 4 rfl Try.isAgg27 Try.sizeOf27 rfl rfl rfl) ?_
   refine k_take 1 rfl (by kernel_rfl) hQ rfl rfl rfl (fun _ h => h.pick [0,0,0,0,0] rfl) (y_ldN (vs := s4C (withS (withS (withS s0 48 (57 + 1 - 48)) 65 (70 + 1 - 65)) 97 (102 + 1 - 97))) 4 rfl Try.isAgg27 Try.sizeOf27 rfl rfl rfl) ?_
   refine k_take (v := .agg (s4C s0).toArray) 2 rfl (by kernel_rfl) hQ rfl rfl rfl (fun _ h => h.pick [0,0,0,0,0] rfl) (y_build (offs := []) rfl Try.zeroValue27 (by kernel_rfl)) ?_
   refine k_take 3 rfl (by kernel_rfl) hQ rfl rfl rfl (fun _ h => h.pick [0,0,0,0,0] rfl) (y_setNe (withS (withS (withS s0 48 (57 + 1 - 48)) 65 (70 + 1 - 65)) 97 (102 + 1 - 97)) s0 rfl rfl) ?_
   refine k_one 4 (by kernel_rfl) ?_
   refine k_op 4 rfl ?_
   refine g_stN 5 rfl rfl rfl (by kernel_rfl) rfl rfl rfl rfl ?_
   simp only [List.set_cons_zero, List.set_cons_succ]
   refine n_ ?_
   refine k_end (fun _ h => h.pick [0,0,0,0,0] rfl) ?_
   refine k_x 5 [0,0,0,0,0] [] hQ (by kernel_rfl) rfl rfl rfl rfl rfl rfl ?_
   refine k_done (by kernel_rfl) ?_
   refine t_ (g_ret ?_)
   refine g_end_cell2 5 Try.results37 rfl rfl rfl Try.isAgg27 Try.sizeOf27 rfl ?_
   exact fun w hS => ⟨((withS (withS (withS s0 48 (57 + 1 - 48)) 65 (70 + 1 - 65)) 97 (102 + 1 - 97)), _), rfl, hS.below⟩
  refine g_cond_f rfl (g_skip (g_in_normal (t_ (s_ ?_))))
  refine k_go [0,0,0,0,0] rfl (by kernel_rfl) (fun _ _ _ _ _ h => h) fun hQ => ?_
  refine k_take 0 rfl (by kernel_rfl) hQ rfl rfl rfl (fun _ h => h.pick [0,0,0,0,0] rfl) (y_ldN (vs := s4C s0) 4 rfl Try.isAgg27 Try.sizeOf27 rfl rfl rfl) ?_
  refine k_take 1 rfl (by kernel_rfl) hQ rfl rfl rfl (fun _ h => h.pick [0,0,0,0,0] rfl) (y_ldN (vs := s4C s0) 4 rfl Try.isAgg27 Try.sizeOf27 rfl rfl rfl) ?_
  refine k_take (v := .agg (s4C s0).toArray) 2 rfl (by kernel_rfl) hQ rfl rfl rfl (fun _ h => h.pick [0,0,0,0,0] rfl) (y_build (offs := []) rfl Try.zeroValue27 (by kernel_rfl)) ?_
  refine k_take 3 rfl (by kernel_rfl) hQ rfl rfl rfl (fun _ h => h.pick [0,0,0,0,0] rfl) (y_setNe s0 s0 rfl rfl) ?_
  refine k_one 4 (by kernel_rfl) ?_
  refine k_op 4 rfl ?_
  refine g_stN 5 rfl rfl rfl (by kernel_rfl) rfl rfl rfl rfl ?_
  simp only [List.set_cons_zero, List.set_cons_succ]
  refine n_ ?_
  refine k_end (fun _ h => h.pick [0,0,0,0,0] rfl) ?_
  refine k_x 5 [0,0,0,0,0] [] hQ (by kernel_rfl) rfl rfl rfl rfl rfl rfl ?_
  refine k_done (by kernel_rfl) ?_
  refine t_ (g_ret ?_)
  refine g_end_cell2 5 Try.results37 rfl rfl rfl Try.isAgg27 Try.sizeOf27 rfl ?_
  exact fun w hS => ⟨(s0, _), rfl, hS.below⟩
 ·intro hj
  refine k_go [0,0] rfl (by kernel_rfl) (fun _ _ _ _ _ h => h) fun hQ => ?_
  refine k_take 0 rfl (by kernel_rfl) hQ rfl rfl rfl (fun _ h => h.pick [0,0] rfl) (y_ldN (vs := s4C s0) 0 rfl Try.isAgg27 Try.sizeOf27 rfl rfl rfl) ?_
  refine k_call 1 (cwith_m s0 65 90 (by decide) (by decide)) any_I rfl (by kernel_rfl) hQ rfl rfl rfl (fun _ h => h.pick [0,0] rfl) ?_
  refine k_take 2 rfl (by kernel_rfl) hQ rfl rfl rfl (fun _ h => h.pick [0,0] rfl) (y_ldN (vs := s4C s0) 0 rfl Try.isAgg27 Try.sizeOf27 rfl rfl rfl) ?_
  refine k_call 3 (cwith_m s0 97 122 (by decide) (by decide)) any_I rfl (by kernel_rfl) hQ rfl rfl rfl (fun _ h => h.pick [0,0] rfl) ?_
  refine k_take 4 rfl (by kernel_rfl) hQ rfl rfl rfl (fun _ h => h.pick [0,0] rfl) (y_ldN (vs := s4C s0) 0 rfl Try.isAgg27 Try.sizeOf27 rfl rfl rfl) ?_
  refine k_call 5 (cwith_m s0 48 57 (by decide) (by decide)) any_I rfl (by kernel_rfl) hQ rfl rfl rfl (fun _ h => h.pick [0,0] rfl) ?_
  refine k_all [6,7,8] (by kernel_rfl) (by simp) ⟨?_, ?_, ?_, trivial⟩
  ·refine k_op 6 rfl ?_
   refine g_alloc rfl rfl Try.zeroValue27 rfl (fun b4 => ?_)
   refine n_ ?_
   refine k_end (fun _ h => h.pick [1,1] rfl) ?_
   refine k_all [7,8] (by kernel_rfl) (by simp) ⟨?_, ?_, trivial⟩
   ·refine k_op 7 rfl ?_
    refine g_alloc rfl rfl Try.zeroValue27 rfl (fun b5 => ?_)
    refine n_ ?_
    refine k_end (fun _ h => h.pick [2,2] rfl) ?_
    refine k_one 8 (by kernel_rfl) ?_
    refine k_op 8 rfl ?_
    refine g_alloc rfl rfl Try.zeroValue27 rfl (fun b6 => ?_)
    refine n_ ?_
    refine k_end (fun _ h => h.pick [3,3] rfl) ?_
    refine k_one 9 (by kernel_rfl) ?_
    refine k_op 9 rfl ?_
    refine g_stN 2 rfl rfl rfl (by kernel_rfl) rfl rfl rfl rfl ?_
    simp only [List.set_cons_zero, List.set_cons_succ]
    refine n_ ?_
    refine k_end (fun _ h => h.pick [3,3] rfl) ?_
    refine k_one 10 (by kernel_rfl) ?_
    refine k_op 10 rfl ?_
    refine g_stN 1 rfl rfl rfl (by kernel_rfl) rfl rfl rfl rfl ?_
    simp only [List.set_cons_zero, List.set_cons_succ]
    refine n_ ?_
    refine k_end (fun _ h => h.pick [3,3] rfl) ?_
    refine k_one 11 (by kernel_rfl) ?_
    refine k_op 11 rfl ?_
    refine g_stN 0 rfl rfl rfl (by kernel_rfl) rfl rfl rfl rfl ?_
    simp only [List.set_cons_zero]
    refine n_ ?_
    refine k_end (fun _ h => h.pick [3,3] rfl) ?_
    refine k_done (by kernel_rfl) ?_
    exact g_fall (hj (b4, b5, b6)) [0, 2, 3, 4, 5, 6, 7] rfl (fun w h => h.pick [2,1,0,0,0] rfl)
   refine k_op 8 rfl ?_
   refine g_alloc rfl rfl Try.zeroValue27 rfl (fun b7 => ?_)
   refine n_ ?_
   refine k_end (fun _ h => h.pick [2,2] rfl) ?_
   refine k_one 7 (by kernel_rfl) ?_
   refine k_op 7 rfl ?_
   refine g_alloc rfl rfl Try.zeroValue27 rfl (fun b8 => ?_)
   refine n_ ?_
   refine k_end (fun _ h => h.pick [3,3] rfl) ?_
   refine k_one 9 (by kernel_rfl) ?_
   refine k_op 9 rfl ?_
   refine g_stN 2 rfl rfl rfl (by kernel_rfl) rfl rfl rfl rfl ?_
   simp only [List.set_cons_zero, List.set_cons_succ]
   refine n_ ?_
   refine k_end (fun _ h => h.pick [3,3] rfl) ?_
   refine k_one 10 (by kernel_rfl) ?_
   refine k_op 10 rfl ?_
   refine g_stN 0 rfl rfl rfl (by kernel_rfl) rfl rfl rfl rfl ?_
   simp only [List.set_cons_zero]
   refine n_ ?_
   refine k_end (fun _ h => h.pick [3,3] rfl) ?_
   refine k_one 11 (by kernel_rfl) ?_
   refine k_op 11 rfl ?_
   refine g_stN 1 rfl rfl rfl (by kernel_rfl) rfl rfl rfl rfl ?_
   simp only [List.set_cons_zero, List.set_cons_succ]
   refine n_ ?_
   refine k_end (fun _ h => h.pick [3,3] rfl) ?_
   refine k_done (by kernel_rfl) ?_
   exact g_fall (hj (b4, b8, b7)) [0, 2, 3, 4, 5, 6, 7] rfl (fun w h => h.pick [2,0,0,0,0] rfl)
  ·refine k_op 7 rfl ?_
   refine g_alloc rfl rfl Try.zeroValue27 rfl (fun b9 => ?_)
   refine n_ ?_
   refine k_end (fun _ h => h.pick [1,1] rfl) ?_
   refine k_all [6,8] (by kernel_rfl) (by simp) ⟨?_, ?_, trivial⟩
   ·refine k_op 6 rfl ?_
    refine g_alloc rfl rfl Try.zeroValue27 rfl (fun b10 => ?_)
    refine n_ ?_
    refine k_end (fun _ h => h.pick [2,2] rfl) ?_
    refine k_one 8 (by kernel_rfl) ?_
    refine k_op 8 rfl ?_
    refine g_alloc rfl rfl Try.zeroValue27 rfl (fun b11 => ?_)
    refine n_ ?_
    refine k_end (fun _ h => h.pick [3,3] rfl) ?_
    refine k_one 9 (by kernel_rfl) ?_
    refine k_op 9 rfl ?_
    refine g_stN 1 rfl rfl rfl (by kernel_rfl) rfl rfl rfl rfl ?_
    simp only [List.set_cons_zero, List.set_cons_succ]
    refine n_ ?_
    refine k_end (fun _ h => h.pick [3,3] rfl) ?_
    refine k_one 10 (by kernel_rfl) ?_
    refine k_op 10 rfl ?_
    refine g_stN 2 rfl rfl rfl (by kernel_rfl) rfl rfl rfl rfl ?_
    simp only [List.set_cons_zero, List.set_cons_succ]
    refine n_ ?_
    refine k_end (fun _ h => h.pick [3,3] rfl) ?_
    refine k_one 11 (by kernel_rfl) ?_
    refine k_op 11 rfl ?_
    refine g_stN 0 rfl rfl rfl (by kernel_rfl) rfl rfl rfl rfl ?_
    simp only [List.set_cons_zero]
    refine n_ ?_
    refine k_end (fun _ h => h.pick [3,3] rfl) ?_
    refine k_done (by kernel_rfl) ?_
    exact g_fall (hj (b10, b9, b11)) [0, 2, 3, 4, 5, 6, 7] rfl (fun w h => h.pick [1,1,0,0,0] rfl)
   refine k_op 8 rfl ?_
   refine g_alloc rfl rfl Try.zeroValue27 rfl (fun b12 => ?_)
   refine n_ ?_
   refine k_end (fun _ h => h.pick [2,2] rfl) ?_
   refine k_one 6 (by kernel_rfl) ?_
   refine k_op 6 rfl ?_
   refine g_alloc rfl rfl Try.zeroValue27 rfl (fun b13 => ?_)
   refine n_ ?_
   refine k_end (fun _ h => h.pick [3,3] rfl) ?_
   refine k_one 9 (by kernel_rfl) ?_
   refine k_op 9 rfl ?_
   refine g_stN 0 rfl rfl rfl (by kernel_rfl) rfl rfl rfl rfl ?_
   simp only [List.set_cons_zero]
   refine n_ ?_
   refine k_end (fun _ h => h.pick [3,3] rfl) ?_
   refine k_one 10 (by kernel_rfl) ?_
   refine k_op 10 rfl ?_
   refine g_stN 2 rfl rfl rfl (by kernel_rfl) rfl rfl rfl rfl ?_
   simp only [List.set_cons_zero, List.set_cons_succ]
   refine n_ ?_
   refine k_end (fun _ h => h.pick [3,3] rfl) ?_
   refine k_one 11 (by kernel_rfl) ?_
   refine k_op 11 rfl ?_
   refine g_stN 1 rfl rfl rfl (by kernel_rfl) rfl rfl rfl rfl ?_
   simp only [List.set_cons_zero, List.set_cons_succ]
   refine n_ ?_
   refine k_end (fun _ h => h.pick [3,3] rfl) ?_
   refine k_done (by kernel_rfl) ?_
   exact g_fall (hj (b13, b9, b12)) [0, 2, 3, 4, 5, 6, 7] rfl (fun w h => h.pick [0,1,0,0,0] rfl)
  refine k_op 8 rfl ?_
  refine g_alloc rfl rfl Try.zeroValue27 rfl (fun b14 => ?_)
  refine n_ ?_
  refine k_end (fun _ h => h.pick [1,1] rfl) ?_
  refine k_all [6,7] (by kernel_rfl) (by simp) ⟨?_, ?_, trivial⟩
  ·refine k_op 6 rfl ?_
   refine g_alloc rfl rfl Try.zeroValue27 rfl (fun b15 => ?_)
   refine n_ ?_
   refine k_end (fun _ h => h.pick [2,2] rfl) ?_
   refine k_one 7 (by kernel_rfl) ?_
   refine k_op 7 rfl ?_
   refine g_alloc rfl rfl Try.zeroValue27 rfl (fun b16 => ?_)
   refine n_ ?_
   refine k_end (fun _ h => h.pick [3,3] rfl) ?_
   refine k_one 9 (by kernel_rfl) ?_
   refine k_op 9 rfl ?_
   refine g_stN 1 rfl rfl rfl (by kernel_rfl) rfl rfl rfl rfl ?_
   simp only [List.set_cons_zero, List.set_cons_succ]
   refine n_ ?_
   refine k_end (fun _ h => h.pick [3,3] rfl) ?_
   refine k_one 10 (by kernel_rfl) ?_
   refine k_op 10 rfl ?_
   refine g_stN 0 rfl rfl rfl (by kernel_rfl) rfl rfl rfl rfl ?_
   simp only [List.set_cons_zero]
   refine n_ ?_
   refine k_end (fun _ h => h.pick [3,3] rfl) ?_
   refine k_one 11 (by kernel_rfl) ?_
   refine k_op 11 rfl ?_
   refine g_stN 2 rfl rfl rfl (by kernel_rfl) rfl rfl rfl rfl ?_
   simp only [List.set_cons_zero, List.set_cons_succ]
   refine n_ ?_
   refine k_end (fun _ h => h.pick [3,3] rfl) ?_
   refine k_done (by kernel_rfl) ?_
   exact g_fall (hj (b15, b16, b14)) [0, 2, 3, 4, 5, 6, 7] rfl (fun w h => h.pick [1,0,0,0,0] rfl)
  refine k_op 7 rfl ?_
  refine g_alloc rfl rfl Try.zeroValue27 rfl (fun b17 => ?_)
  refine n_ ?_
  refine k_end (fun _ h => h.pick [2,2] rfl) ?_
  refine k_one 6 (by kernel_rfl) ?_
  refine k_op 6 rfl ?_
  refine g_alloc rfl rfl Try.zeroValue27 rfl (fun b18 => ?_)
  refine n_ ?_
  refine k_end (fun _ h => h.pick [3,3] rfl) ?_
  refine k_one 9 (by kernel_rfl) ?_
  refine k_op 9 rfl ?_
  refine g_stN 0 rfl rfl rfl (by kernel_rfl) rfl rfl rfl rfl ?_
  simp only [List.set_cons_zero]
  refine n_ ?_
  refine k_end (fun _ h => h.pick [3,3] rfl) ?_
  refine k_one 10 (by kernel_rfl) ?_
  refine k_op 10 rfl ?_
  refine g_stN 1 rfl rfl rfl (by kernel_rfl) rfl rfl rfl rfl ?_
  simp only [List.set_cons_zero, List.set_cons_succ]
  refine n_ ?_
  refine k_end (fun _ h => h.pick [3,3] rfl) ?_
  refine k_one 11 (by kernel_rfl) ?_
  refine k_op 11 rfl ?_
  refine g_stN 2 rfl rfl rfl (by kernel_rfl) rfl rfl rfl rfl ?_
  simp only [List.set_cons_zero, List.set_cons_succ]
  refine n_ ?_
  refine k_end (fun _ h => h.pick [3,3] rfl) ?_
  refine k_done (by kernel_rfl) ?_
  exact g_fall (hj (b18, b17, b14)) [0, 2, 3, 4, 5, 6, 7] rfl (fun w h => h.pick [0,0,0,0,0] rfl)

end Go.Proofs.Ytpoelkfncpjmfaa
