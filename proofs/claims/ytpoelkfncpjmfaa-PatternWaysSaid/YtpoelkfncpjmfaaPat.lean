/- Sets of bytes: class.With, and the document's. -/
import Derived.Test.YtpoelkfncpjmfaaRows
import Derived.Test.YtpoelkfncpjmfaaD
import Derived.Test.YtpoelkfncpjmfaaV
namespace Go.Proofs.Ytpoelkfncpjmfaa
open Go Go.RowKit

/-- A set's four words. -/
def s4C (s : Nat → Int) : List Value := [.int .u64 (s 0), .int .u64 (s 1), .int .u64 (s 2), .int .u64 (s 3)]
theorem s4_get (s : Nat → Int) (k : Nat) (h : k < 4) : (s4C s)[k]? = some (.int .u64 (s k)) := by
  match k, h with
  | 0, _ => rfl
  | 1, _ => rfl
  | 2, _ => rfl
  | 3, _ => rfl
def upd (s : Nat → Int) (i : Nat) (v : Int) : Nat → Int := fun k => if k = i then v else s k
theorem s4_set (s : Nat → Int) (i : Nat) (v : Int) (h : i < 4) : (s4C s).set i (.int .u64 v) = s4C (upd s i v) := by
  match i, h with
  | 0, _ => rfl
  | 1, _ => rfl
  | 2, _ => rfl
  | 3, _ => rfl
def s0 : Nat → Int := fun _ => 0
def orB (x : Int) (n : Nat) : Int := IntKind.u64.wrap ((BitVec.ofInt 64 x ||| BitVec.ofInt 64 (2 ^ n : Int)).toNat : Int)
def addS (s : Nat → Int) (c : Nat) : Nat → Int := upd s (c / 64) (orB (s (c / 64)) (c % 64))
/-- m bytes, from lo on, more. -/
def withS (s : Nat → Int) (lo : Nat) : Nat → Nat → Int
  | 0 => s
  | m + 1 => addS (withS s lo m) (lo + m)
section
variable {P : Program} {N : Nat} {R : Regs} {S : World → Prop}
variable {dst : Option Tmp} {ty t t' : TypeId} {pos : String} {af : Array Edge} {gd : Option (Nat × Bool)} {x y : Operand} {k k' : IntKind} {a b : Int}
theorem y_shr (hx : ev R x = some (.int k a)) (hy : ev R y = some (.int k' b)) (hb : 0 ≤ b) : Yv P N R S ⟨dst, .binOp .shr t x y t', ty, pos, af, gd⟩ (.int k (a.fdiv (2 ^ min b.toNat k.bits))) := y_bin hx hy fun w => by
  simp [eqGuard, binOp, Op.shift, Int.not_lt.2 hb]
theorem y_shl (hx : ev R x = some (.int k a)) (hy : ev R y = some (.int k' b)) (hb : 0 ≤ b) : Yv P N R S ⟨dst, .binOp .shl t x y t', ty, pos, af, gd⟩ (.int k (k.wrap (a * 2 ^ min b.toNat k.bits))) := y_bin hx hy fun w => by
  simp [eqGuard, binOp, Op.shift, Int.not_lt.2 hb]
theorem y_and (hx : ev R x = some (.int k a)) (hy : ev R y = some (.int k b)) : Yv P N R S ⟨dst, .binOp .and t x y t', ty, pos, af, gd⟩ (.int k (k.wrap ((BitVec.ofInt k.bits a &&& BitVec.ofInt k.bits b).toNat : Int))) := y_bin hx hy fun w => by
  simp [eqGuard, binOp, Op.intBits]
theorem y_or (hx : ev R x = some (.int k a)) (hy : ev R y = some (.int k b)) : Yv P N R S ⟨dst, .binOp .or t x y t', ty, pos, af, gd⟩ (.int k (k.wrap ((BitVec.ofInt k.bits a ||| BitVec.ofInt k.bits b).toNat : Int))) := y_bin hx hy fun w => by
  simp [eqGuard, binOp, Op.intBits]
theorem y_val {o : Oper} {v u : Value} (h : Yv P N R S o v) (e : v = u) : Yv P N R S o u := e ▸ h
theorem shr6 : ∀ c : Fin 256, ((c.val : Int)).fdiv (2 ^ min (6 : Int).toNat IntKind.i64.bits) = ((c.val / 64 : Nat) : Int) := by decide +kernel
theorem and63 : ∀ c : Fin 256, IntKind.i64.wrap ((BitVec.ofInt IntKind.i64.bits (c.val : Int) &&& BitVec.ofInt IntKind.i64.bits 63).toNat : Int) = ((c.val % 64 : Nat) : Int) := by decide +kernel
theorem shl1 : ∀ n : Fin 64, IntKind.u64.wrap (1 * 2 ^ min (n.val : Int).toNat IntKind.u64.bits) = (2 ^ n.val : Int) := by decide +kernel
theorem quo64 (c : Nat) : ((c : Int)).tdiv 64 = ((c / 64 : Nat) : Int) := rfl
theorem rem64 (c : Nat) : ((c : Int)).tmod 64 = ((c % 64 : Nat) : Int) := rfl
theorem u64_small : ∀ n : Fin 64, IntKind.u64.wrap (n.val : Int) = (n.val : Int) := by decide +kernel
theorem y_shr6 {c : Nat} (h : c < 256) (hx : ev R x = some (.int .i64 (c : Int))) : Yv P N R S ⟨dst, .binOp .shr t x (.const (.int .u64 6)) t', ty, pos, af, gd⟩ (.int .i64 ((c / 64 : Nat) : Int)) := y_val (y_shr hx rfl (by decide)) (by rw [shr6 ⟨c, h⟩])
theorem y_and63 {c : Nat} (h : c < 256) (hx : ev R x = some (.int .i64 (c : Int))) : Yv P N R S ⟨dst, .binOp .and t x (.const (.int .i64 63)) t', ty, pos, af, gd⟩ (.int .i64 ((c % 64 : Nat) : Int)) := y_val (y_and hx rfl) (by rw [and63 ⟨c, h⟩])
theorem y_shl1 {n : Nat} {k : IntKind} (h : n < 64) (hy : ev R y = some (.int k (n : Int))) : Yv P N R S ⟨dst, .binOp .shl t (.const (.int .u64 1)) y t', ty, pos, af, gd⟩ (.int .u64 (2 ^ n)) := y_val (y_shl rfl hy (by omega)) (by rw [shl1 ⟨n, h⟩])
theorem y_orB {a : Int} {n : Nat} (hx : ev R x = some (.int .u64 a)) (hy : ev R y = some (.int .u64 (2 ^ n))) : Yv P N R S ⟨dst, .binOp .or t x y t', ty, pos, af, gd⟩ (.int .u64 (orB a n)) := y_or hx hy
theorem g_stV {Q : Exit → Act → World → Prop} {ops : Array Oper} {rest : List Oper} {W0 : World} {F : List Nat} {L : List Ent} {b off : Nat} {cs : List Value} {v : Value} (i : Nat) (hw : want ops R ⟨none, .store t x y, ty, pos, af, gd⟩ = some true) (hx : ev R x = some (.pointer (some ⟨b, off, none⟩))) (hy : ev R y = some v) (hz : ∀ w, (sizeOf t).run P w = .ok 1 w) (h1 : v.oneCell' = true)
    (hi : L[i]? = some (.cells b t' cs)) (hl : off < cs.length) (h : G N R (St W0 F (L.set i (.cells b t' (cs.set off v)))) (wpList P ops Q rest)) : G N R (St W0 F L) (wpList P ops Q (⟨none, .store t x y, ty, pos, af, gd⟩ :: rest)) :=
  g_st i hw hx hy hz h1 hi (Nat.ble_eq_true_of_le hl) h
end

set_option maxRecDepth 100000 in
theorem cwith_any (s : Nat → Int) (lo hi : Nat) (hlo : lo ≤ 255) (hhi : hi ≤ 255) (w : World) :
    Calls Try.prog 24 #[.agg (s4C s).toArray, .int .u8 (lo : Int), .int .u8 (hi : Int)] w fun e w' => e = .returned (.agg (s4C (withS s lo (hi + 1 - lo))).toArray) ∧ Below w.heap.size w w' := by
 refine fn_intro Try.func24 rfl Try.ntmps24 rfl rfl ?_
 refine s_ (o_ ?_)
 refine g_box rfl rfl rfl rfl (fun b1 => ?_)
 refine g_alloc rfl rfl Try.zeroValue27 rfl (fun b2 => ?_)
 refine n_ (t_ (s_ (s_ (o_ ?_))))
 refine xg 3 [] rfl (by omega) ?_
 refine n_ (t_ (g_block ?_))
 refine g_loop (α := {x : Nat // x ≤ hi + 1 - lo}) (fun x => [(2, .int .u8 (hi : Int)), (3, .pointer (some ⟨b1, 0, none⟩)), (6, .pointer (some ⟨b2, 0, none⟩)), (7, .int .i64 ((lo + x.1 : Nat) : Int))]) (fun x => St w [] [.cells b2 27 (s4C s0), .cells b1 27 (s4C (withS s lo x.1))]) (fun x => hi + 1 - lo - x.1) ⟨0, Nat.zero_le _⟩ [2, 3, 6, 7] rfl (fun w h => h.pick [0,0] rfl) ?_
 rintro ⟨m, hm⟩
 dsimp only
 refine s_ (s_ (o_ ?_))
 refine xg 4 [0] rfl (by omega) ?_
 refine n_ (t_ ?_)
 refine g_casep 13 rfl (fun h1 => ?_) fun h1 => ?_
 ·refine g_cond_t rfl (g_skip (t_ (s_ (g_block ?_))))
  refine k_go [] rfl (by kernel_rfl) (fun _ _ _ _ _ h => h) fun hQ => ?_
  refine k_x 0 [] [] hQ (by kernel_rfl) rfl rfl rfl rfl rfl rfl ?_
  refine k_take 1 rfl (by kernel_rfl) hQ rfl rfl rfl (fun _ h => h.pick [] rfl) (y_shr6 (c := lo + m) (by omega) rfl) ?_
  refine k_take 2 rfl (by kernel_rfl) hQ rfl rfl rfl (fun _ h => h.pick [] rfl) (y_idxArr (m := (lo + m) / 64) rfl rfl Try.underlying27 Try.sizeOf25 (by omega) (by omega) (by omega)) ?_
  refine k_x 4 [] [] hQ (by kernel_rfl) rfl rfl rfl rfl rfl rfl ?_
  refine k_take 5 rfl (by kernel_rfl) hQ rfl rfl rfl (fun _ h => h.pick [] rfl) (y_and63 (c := lo + m) (by omega) rfl) ?_
  refine k_take 6 rfl (by kernel_rfl) hQ rfl rfl rfl (fun _ h => h.pick [] rfl) (y_shl1 (n := (lo + m) % 64) (by omega) rfl) ?_
  refine k_one 3 (by kernel_rfl) ?_
  refine k_op 3 rfl ?_
  refine g_val (v := .int .u64 (withS s lo m ((lo + m) / 64))) rfl rfl rfl (y_ld (off := (lo + m) / 64) 1 rfl Try.isAgg25 rfl (s4_get _ _ (by omega))) ?_
  refine n_ ?_
  refine k_end (fun _ h => h.pick [] rfl) ?_
  refine k_take 7 rfl (by kernel_rfl) hQ rfl rfl rfl (fun _ h => h.pick [] rfl) (y_orB (n := (lo + m) % 64) rfl rfl) ?_
  refine k_take 8 rfl (by kernel_rfl) hQ rfl rfl rfl (fun _ h => h.pick [] rfl) (y_idxArr (m := (lo + m) / 64) rfl rfl Try.underlying27 Try.sizeOf25 (by omega) (by omega) (by omega)) ?_
  refine k_one 9 (by kernel_rfl) ?_
  refine k_op 9 rfl ?_
  refine g_stV 1 rfl rfl rfl Try.sizeOf25 rfl rfl (show (lo + m) / 64 < 4 by omega) ?_
  simp only [List.set_cons_zero, List.set_cons_succ]
  rw [s4_set _ _ _ (show (lo + m) / 64 < 4 by omega)]
  refine n_ ?_
  refine k_end (fun _ h => h.pick [] rfl) ?_
  refine k_done (by kernel_rfl) ?_
  refine g_in_normal (t_ (o_ ?_))
  refine xg 3 [] rfl (by omega) ?_
  refine n_ ?_
  exact g_again ⟨m + 1, by omega⟩ [2, 3, 6, 7] (by dsimp only; omega) rfl (fun w h => h.pick [0,0] rfl)
 refine g_cond_f rfl (g_exit (g_then_exit (g_then_exit (g_in_exit (t_ (s_ (o_ ?_)))))))
 refine xg 1 [1] rfl (by omega) ?_
 refine g_stN 0 rfl rfl rfl (by kernel_rfl) rfl rfl rfl rfl ?_
 simp only [List.set_cons_zero]
 refine n_ (t_ (g_ret ?_))
 refine g_end_cell 0 Try.results24 rfl rfl Try.isAgg27 Try.sizeOf27 rfl ?_
 have hmm : m = hi + 1 - lo := by omega
 subst hmm
 exact fun w hS => ⟨rfl, hS.below⟩

theorem cwith_m (s : Nat → Int) (lo hi : Nat) (hlo : lo ≤ 255) (hhi : hi ≤ 255) : Meets Try.prog (fun _ => True) 24 [.agg (s4C s).toArray, .int .u8 (lo : Int), .int .u8 (hi : Int)] (fun _ : Unit => .agg (s4C (withS s lo (hi + 1 - lo))).toArray) [] (fun _ => []) := meets1 Try.call24 (fun w hI => cwith_any s lo hi hlo hhi w)
set_option maxRecDepth 100000 in
theorem radd_any (s : Nat → Int) (c : Nat) (hc : c ≤ 255) (w : World) :
    Calls Try.prog 19 #[.agg (s4C s).toArray, .int .i64 (c : Int)] w fun e w' => e = .returned (.agg (s4C (addS s c)).toArray) ∧ Below w.heap.size w w' := by
 refine fn_intro Try.func19 rfl Try.ntmps19 rfl rfl ?_
 refine s_ (o_ ?_)
 refine g_box rfl rfl rfl rfl (fun b1 => ?_)
 refine g_alloc rfl rfl Try.zeroValue27 rfl (fun b2 => ?_)
 refine ntso_ ?_
 refine xg 1 [] rfl rfl ?_
 refine g_val (v := .int .i64 ((c / 64 : Nat) : Int)) rfl rfl rfl (y_val (y_iquo rfl rfl (by decide)) (by rw [quo64 c, wrap_in (by omega)])) ?_
 refine xg 1 [] rfl rfl ?_
 refine g_val (v := .int .i64 ((c / 64 : Nat) : Int)) rfl rfl rfl (y_val (y_iquo rfl rfl (by decide)) (by rw [quo64 c, wrap_in (by omega)])) ?_
 refine g_val rfl rfl rfl (y_idxArr (m := c / 64) rfl rfl Try.underlying27 Try.sizeOf25 (by omega) (by omega) (by omega)) ?_
 refine g_val (v := .int .u64 (s (c / 64))) rfl rfl rfl (y_ld (off := c / 64) 1 rfl Try.isAgg25 rfl (s4_get _ _ (by omega))) ?_
 refine xg 1 [] rfl rfl ?_
 refine g_val (v := .int .i64 ((c % 64 : Nat) : Int)) rfl rfl rfl (y_val (y_irem rfl rfl (by decide)) (by rw [rem64 c])) ?_
 refine g_val (v := .int .u64 ((c % 64 : Nat) : Int)) rfl rfl rfl (y_val (y_toInt rfl Try.underlying3 Try.underlying69) (by rw [u64_small ⟨c % 64, by omega⟩])) ?_
 refine g_val (v := .int .u64 (2 ^ (c % 64))) rfl rfl rfl (y_shl1 (n := c % 64) (by omega) rfl) ?_
 refine g_val (v := .int .u64 (orB (s (c / 64)) (c % 64))) rfl rfl rfl (y_orB rfl rfl) ?_
 refine g_val rfl rfl rfl (y_idxArr (m := c / 64) rfl rfl Try.underlying27 Try.sizeOf25 (by omega) (by omega) (by omega)) ?_
 refine g_stV 1 rfl rfl rfl Try.sizeOf25 rfl rfl (show c / 64 < 4 by omega) ?_
 simp only [List.set_cons_zero, List.set_cons_succ]
 rw [s4_set _ _ _ (show c / 64 < 4 by omega)]
 refine ntso_ ?_
 refine xg 1 [1] rfl (by omega) ?_
 refine g_stN 0 rfl rfl rfl (by kernel_rfl) rfl rfl rfl rfl ?_
 simp only [List.set_cons_zero]
 refine n_ (t_ (g_ret ?_))
 refine g_end_cell 0 Try.results19 rfl rfl Try.isAgg27 Try.sizeOf27 rfl ?_
 exact fun w hS => ⟨rfl, hS.below⟩

set_option maxRecDepth 100000 in
theorem rwith_any (s : Nat → Int) (lo hi : Nat) (hlo : lo ≤ 255) (hhi : hi ≤ 255) (w : World) :
    Calls Try.prog 10 #[.agg (s4C s).toArray, .int .u8 (lo : Int), .int .u8 (hi : Int)] w fun e w' => e = .returned (.agg (s4C (withS s lo (hi + 1 - lo))).toArray) ∧ Below w.heap.size w w' := by
 refine fn_intro Try.func10 rfl Try.ntmps10 rfl rfl ?_
 refine s_ (o_ ?_)
 refine g_box rfl rfl rfl rfl (fun b1 => ?_)
 refine g_alloc rfl rfl Try.zeroValue27 rfl (fun b2 => ?_)
 refine n_ (t_ (s_ (s_ (o_ ?_))))
 refine xg 3 [] rfl (by omega) ?_
 refine n_ (t_ (g_block ?_))
 refine g_loop (α := {x : Nat // x ≤ hi + 1 - lo}) (fun x => [(2, .int .u8 (hi : Int)), (3, .pointer (some ⟨b1, 0, none⟩)), (6, .pointer (some ⟨b2, 0, none⟩)), (7, .int .i64 ((lo + x.1 : Nat) : Int))]) (fun x => St w [] [.cells b2 27 (s4C s0), .cells b1 27 (s4C (withS s lo x.1))]) (fun x => hi + 1 - lo - x.1) ⟨0, Nat.zero_le _⟩ [2, 3, 6, 7] rfl (fun w h => h.pick [0,0] rfl) ?_
 rintro ⟨m, hm⟩
 dsimp only
 refine s_ (s_ (o_ ?_))
 refine xg 4 [0] rfl (by omega) ?_
 refine n_ (t_ ?_)
 refine g_casep 13 rfl (fun h1 => ?_) fun h1 => ?_
 ·refine g_cond_t rfl (g_skip (t_ (s_ (g_block (o_ ?_)))))
  refine xg 2 [1] rfl (by omega) ?_
  refine g_call1 rfl rfl rfl Try.call19 (fun w hS => radd_any (withS s lo m) (lo + m) (by omega) w) ?_
  refine xg 1 [1] rfl (by omega) ?_
  refine n_ (g_in_normal (t_ (o_ ?_)))
  refine xg 3 [] rfl (by omega) ?_
  refine n_ ?_
  exact g_again ⟨m + 1, by omega⟩ [2, 3, 6, 7] (by dsimp only; omega) rfl (fun w h => h.pick [0,0] rfl)
 refine g_cond_f rfl (g_exit (g_then_exit (g_then_exit (g_in_exit (t_ (s_ (o_ ?_)))))))
 refine xg 1 [1] rfl (by omega) ?_
 refine g_stN 0 rfl rfl rfl (by kernel_rfl) rfl rfl rfl rfl ?_
 simp only [List.set_cons_zero]
 refine n_ (t_ (g_ret ?_))
 refine g_end_cell 0 Try.results10 rfl rfl Try.isAgg27 Try.sizeOf27 rfl ?_
 have hmm : m = hi + 1 - lo := by omega
 subst hmm
 exact fun w hS => ⟨rfl, hS.below⟩

end Go.Proofs.Ytpoelkfncpjmfaa
