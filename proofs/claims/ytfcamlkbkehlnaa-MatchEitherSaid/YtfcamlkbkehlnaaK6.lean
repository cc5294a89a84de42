/- The texts that the proof leans on, one behind the other (6 of 6). -/
import Derived.Laws.StructEq
import Derived.Test.YtfcamlkbkehlnaaK5
/- MatchEither. -/
namespace Go.Proofs.Ytfcamlkbkehlnaa
open Go Go.RowKit

theorem run_eqSp (a b c e : Int) (w : World) : (Op.equalIn 10000 34 (.agg #[.int .i64 a, .int .i64 b]) (.agg #[.int .i64 c, .int .i64 e])).run Try.prog w = .ok (a == c && b == e) w := by
  have u3 := Try.underlying3
  rw [show (10000 : Nat) = 9999 + 1 from rfl, Op.equalIn]
  simp only [Sem.run_bind, run_underlying Try.underlying34, Result.andThen_ok]
  go_simp
  by_cases h1 : a = c <;> by_cases h2 : b = e <;> simp [h1, h2]
theorem run_eqMt (m : Spn) (w : World) : (Op.equalIn 10000 36 (.agg (spC m).toArray) (.agg (spC m).toArray)).run Try.prog w = .ok true w := by
  rw [show (10000 : Nat) = 9999 + 1 from rfl, Op.equalIn]
  unfold spC
  simp only [Sem.run_bind, run_underlying Try.underlying36, Result.andThen_ok]
  simp only [Std.Legacy.Range.forIn_eq_forIn_range', Std.Legacy.Range.size, Nat.sub_zero, Nat.add_sub_cancel, Nat.div_one, List.range'_succ, List.range'_zero, List.forIn_cons, List.forIn_nil]
  go_simp
section
variable {N : Nat} {R : Regs} {S : World → Prop} {dst : Option Tmp} {ty t' : TypeId} {pos : String} {af : Array Edge} {gd : Option (Nat × Bool)} {x y : Operand}
theorem y_spEq {a b c e : Int} (hx : ev R x = some (.agg #[.int .i64 a, .int .i64 b])) (hy : ev R y = some (.agg #[.int .i64 c, .int .i64 e])) : Yv Try.prog N R S ⟨dst, .binOp .eql 34 x y t', ty, pos, af, gd⟩ (.bool (a == c && b == e)) :=
  y_bin hx hy fun w => by
    rw [Sem.run_bind, run_eqGuard_agg w _ _ _ _ _ _ (by kernel_rfl), Result.andThen_ok, run_eql_struct, run_eqSp]; rfl
theorem y_spNe {a b c e : Int} (hx : ev R x = some (.agg #[.int .i64 a, .int .i64 b])) (hy : ev R y = some (.agg #[.int .i64 c, .int .i64 e])) : Yv Try.prog N R S ⟨dst, .binOp .neq 34 x y t', ty, pos, af, gd⟩ (.bool (!(a == c && b == e))) :=
  y_bin hx hy fun w => by
    rw [Sem.run_bind, run_eqGuard_agg w _ _ _ _ _ _ (by kernel_rfl), Result.andThen_ok, run_neq_struct, run_eqSp]; rfl
theorem y_mtEq (m : Spn) (hx : ev R x = some (.agg (spC m).toArray)) (hy : ev R y = some (.agg (spC m).toArray)) : Yv Try.prog N R S ⟨dst, .binOp .eql 36 x y t', ty, pos, af, gd⟩ (.bool true) :=
  y_bin hx hy fun w => by
    rw [Sem.run_bind, run_eqGuard_agg w _ _ _ _ _ _ (by kernel_rfl), Result.andThen_ok, run_eql_struct, run_eqMt]; rfl
end
theorem findR_v {x : Tx} {k : Int} {s : Nat → Int} {a b c : Int} {v : Value} (u : Value) {q : List MT} {fr : Int} : findR x (.mk k s a b c v q) fr = findR x (.mk k s a b c u q) fr := by rw [← findR_er, er_mk, ← findR_er x (.mk k s a b c u q), er_mk]
theorem mM_ei {x : Tx} {s : Nat → Int} {a b c : Int} {v : Value} {t u : MT} {i j : Nat} : mM x (.mk 3 s a b c v [t, u]) i j = (mM x t i j || mM x u i j) := by
  rw [mM_mk, if_neg (by decide), if_neg (by decide), if_neg (by decide), if_neg (by decide), if_pos rfl, mAny_cons, mAny_cons, mAny_nil, Bool.or_false]
/-- What is found of either of two, by what is found of each. -/
theorem eith (x : Tx) (t u : MT) (s : Nat → Int) (a b c : Int) (hn : x.n ≤ 1024) : ∃ r p q : Spn × Bool, findR x t 0 = r ∧ findR x u 0 = p ∧ findR x (.mk 3 s a b c nilS [t, u]) 0 = q ∧
    ((r.2 = true ∧ p.2 = true ∧ q.2 = true ∧ (r.1 0).1 < (p.1 0).1 ∧ q.1 0 = r.1 0) ∨
    (r.2 = true ∧ p.2 = true ∧ q.2 = true ∧ (p.1 0).1 < (r.1 0).1 ∧ q.1 0 = p.1 0) ∨
    (r.2 = true ∧ p.2 = true ∧ q.2 = true ∧ (p.1 0).1 = (r.1 0).1 ∧ (r.1 0).2 < (p.1 0).2 ∧ q.1 0 = p.1 0) ∨
    (r.2 = true ∧ p.2 = true ∧ q.2 = true ∧ (p.1 0).1 = (r.1 0).1 ∧ (p.1 0).2 ≤ (r.1 0).2 ∧ q.1 0 = r.1 0) ∨
    (r.2 = true ∧ p.2 = false ∧ q.2 = true ∧ q.1 0 = r.1 0) ∨ (r.2 = false ∧ p.2 = true ∧ q.2 = true ∧ q.1 0 = p.1 0) ∨ (r.2 = false ∧ p.2 = false ∧ q.2 = false)) := by
  have key : ∀ i j, First x (.mk 3 s a b c nilS [t, u]) 0 i j → ∃ m : Spn, findR x (.mk 3 s a b c nilS [t, u]) 0 = (m, true) ∧ m 0 = ((i : Int), (j : Int)) := fun i j h => ⟨_, findR_yes (f := 0) hn h, by rw [gM_0]; rfl⟩
  have f0 : ∀ {w : MT} {i j : Nat}, (gM x w i j (setS mN 0 ((i : Int), (j : Int)))) 0 = ((i : Int), (j : Int)) := by intro w i j; rw [gM_0]; rfl
  have fst : ∀ {w v : MT} {i j : Nat}, First x w 0 i j → (∀ p q, p < i → mM x v p q = false) → (∀ q, j < q → mM x v i q = false) → ∀ z, (∀ p q, mM x z p q = (mM x w p q || mM x v p q)) → First x z 0 i j := by
    intro w v i j h h1 h2 z hz
    exact ⟨h.1, h.2.1, by rw [hz, h.2.2.1]; rfl, fun p q h3 h4 => by rw [hz, h.2.2.2.1 p q h3 h4, h1 p q h4]; rfl, fun q h3 => by rw [hz, h.2.2.2.2 q h3, h2 q h3]; rfl⟩
  have z1 : ∀ p q, mM x (.mk 3 s a b c nilS [t, u]) p q = (mM x t p q || mM x u p q) := fun p q => mM_ei
  have z2 : ∀ p q, mM x (.mk 3 s a b c nilS [t, u]) p q = (mM x u p q || mM x t p q) := fun p q => by rw [mM_ei, Bool.or_comm]
  rcases findR_cases x t 0 (Nat.zero_le _) hn with ⟨i, j, hA, eA⟩ | ⟨hA, eA⟩ <;> rcases findR_cases x u 0 (Nat.zero_le _) hn with ⟨i', j', hB, eB⟩ | ⟨hB, eB⟩
  · rcases Nat.lt_trichotomy i i' with hlt | heq | hgt
    · obtain ⟨m, e1, e2⟩ := key i j (fst hA (fun p q hp => hB.2.2.2.1 p q (Nat.zero_le _) (by omega)) (fun q hq => hB.2.2.2.1 i q (Nat.zero_le _) hlt) _ z1)
      refine ⟨_, _, _, eA, eB, e1, .inl ⟨rfl, rfl, rfl, ?_, ?_⟩⟩
      · dsimp only; rw [f0, f0]; dsimp only; omega
      · dsimp only; rw [f0, e2]
    · subst heq
      by_cases hj : j < j'
      · obtain ⟨m, e1, e2⟩ := key i j' (fst hB (fun p q hp => hA.2.2.2.1 p q (Nat.zero_le _) (by omega)) (fun q hq => hA.2.2.2.2 q (by omega)) _ z2)
        refine ⟨_, _, _, eA, eB, e1, .inr (.inr (.inl ⟨rfl, rfl, rfl, ?_, ?_, ?_⟩))⟩
        · dsimp only; rw [f0, f0]
        · dsimp only; rw [f0, f0]; dsimp only; omega
        · dsimp only; rw [f0, e2]
      · obtain ⟨m, e1, e2⟩ := key i j (fst hA (fun p q hp => hB.2.2.2.1 p q (Nat.zero_le _) (by omega)) (fun q hq => hB.2.2.2.2 q (by omega)) _ z1)
        refine ⟨_, _, _, eA, eB, e1, .inr (.inr (.inr (.inl ⟨rfl, rfl, rfl, ?_, ?_, ?_⟩)))⟩
        · dsimp only; rw [f0, f0]
        · dsimp only; rw [f0, f0]; dsimp only; omega
        · dsimp only; rw [f0, e2]
    · obtain ⟨m, e1, e2⟩ := key i' j' (fst hB (fun p q hp => hA.2.2.2.1 p q (Nat.zero_le _) (by omega)) (fun q hq => hA.2.2.2.1 i' q (Nat.zero_le _) hgt) _ z2)
      refine ⟨_, _, _, eA, eB, e1, .inr (.inl ⟨rfl, rfl, rfl, ?_, ?_⟩)⟩
      · dsimp only; rw [f0, f0]; dsimp only; omega
      · dsimp only; rw [f0, e2]
  · obtain ⟨m, e1, e2⟩ := key i j (fst hA (fun p q hp => hB p q (Nat.zero_le _) (by have := hA.2.1; omega)) (fun q hq => hB i q (Nat.zero_le _) hA.2.1) _ z1)
    exact ⟨_, _, _, eA, eB, e1, .inr (.inr (.inr (.inr (.inl ⟨rfl, rfl, rfl, by dsimp only; rw [f0, e2]⟩))))⟩
  · obtain ⟨m, e1, e2⟩ := key i' j' (fst hB (fun p q hp => hA p q (Nat.zero_le _) (by have := hB.2.1; omega)) (fun q hq => hA i' q (Nat.zero_le _) hB.2.1) _ z2)
    exact ⟨_, _, _, eA, eB, e1, .inr (.inr (.inr (.inr (.inr (.inl ⟨rfl, rfl, rfl, by dsimp only; rw [f0, e2]⟩)))))⟩
  · exact ⟨_, _, _, eA, eB, findR_no (f := 0) (fun p q hp hq => by rw [z1, hA p q hp hq, hB p q hp hq]; rfl), .inr (.inr (.inr (.inr (.inr (.inr ⟨rfl, rfl, rfl⟩)))))⟩
theorem wT_two {k : Int} {s : Nat → Int} {a b c : Int} {v : Value} {t u : MT} : wT (.mk k s a b c v [t, u]) = wT t + wT u + 1 := by
  simp only [wT_mk, wL]; omega

set_option maxRecDepth 100000 in
theorem meith_any (a b l : List UInt8) (ha : a.length ≤ maxLen) (hb : b.length ≤ maxLen) (hl : l.length ≤ maxLen) (w : World) (hz : MaxHere w) :
    Calls Try.prog 7 #[.agg #[st8 a, st8 b], st8 l] w fun e w' => e = .returned (.bool true) ∧ Below w.heap.size w w' := by
 have hmax : maxLen = 9223372036854775807 := rfl
 refine fn_intro Try.func7 rfl Try.ntmps7 rfl rfl ?_
 refine s_ (o_ ?_)
 refine g_box rfl rfl rfl rfl (fun b1 => ?_)
 refine xg 1 [] rfl rfl ?_
 refine ntso_ ?_
 refine xg 2 [0] rfl (by omega) ?_
 refine g_callNew (fun x : {x : MT × Int // parX true a x} => .tuple #[.agg (nC x.1.1).toArray, .int .i64 x.1.2]) (fun x => [.forest [x.1.1]]) rfl rfl rfl Try.call16 (fun w hS => parse_xe a w (hS.maxHere hz (by simp))) ?_
 rintro ⟨⟨ta, erna⟩, hpara⟩
 obtain ⟨nka, nsa, nma, nxa, nua, nva, nqa⟩ := ta
 refine g_kids 0 rfl (fun pva cva hva => ?_)
 cases hva
 dsimp only
 simp only [List.cons_append, List.nil_append]
 refine xg 3 [] rfl rfl ?_
 refine g_alloc rfl rfl Try.zeroValue28 rfl (fun b2 => ?_)
 refine xg 2 [0] rfl (by omega) ?_
 refine ntso_ ?_
 refine xg 2 [2] rfl (by omega) ?_
 refine g_callNew (fun x : {x : MT × Int // parX true b x} => .tuple #[.agg (nC x.1.1).toArray, .int .i64 x.1.2]) (fun x => [.forest [x.1.1]]) rfl rfl rfl Try.call16 (fun w hS => parse_xe b w (hS.maxHere hz (by simp))) ?_
 rintro ⟨⟨tb, ernb⟩, hparb⟩
 obtain ⟨nkb, nsb, nmb, nxb, nub, nvb, nqb⟩ := tb
 refine g_kids 0 rfl (fun pvb cvb hvb => ?_)
 cases hvb
 dsimp only
 simp only [List.cons_append, List.nil_append]
 refine xg 3 [] rfl rfl ?_
 refine g_alloc rfl rfl Try.zeroValue28 rfl (fun b3 => ?_)
 refine xg 2 [0] rfl (by omega) ?_
 refine n_ (t_ (s_ (s_ (o_ ?_))))
 refine xg 2 [4] rfl (by omega) ?_
 refine g_val (v := .int .i64 (a.length : Int)) rfl rfl rfl (y_val (y_slen rfl Try.underlying9) (by rw [size_mk])) ?_
 refine xg 2 [0] rfl rfl ?_
 refine g_casep 32 rfl (fun h1 => ?_) fun h1 => ?_
 ·refine xg 18 [] rfl rfl ?_
  refine n_ (t_ (g_cond_t rfl (s_ (o_ ?_))))
  refine g_call1 rfl rfl rfl Try.call13 (fun w hS => alive_any w (hS.maxHere hz (by simp))) ?_
  refine xg 1 [] rfl rfl ?_
  refine n_ (t_ (g_ret (g_then_ret ?_)))
  refine g_end1 Try.results7 rfl ?_
  exact fun w hS => ⟨rfl, hS.below⟩
 refine xg 2 [4] rfl (by omega) ?_
 refine g_val (v := .int .i64 (b.length : Int)) rfl rfl rfl (y_val (y_slen rfl Try.underlying9) (by rw [size_mk])) ?_
 refine xg 3 [0] rfl rfl ?_
 refine g_casep 38 rfl (fun h2 => ?_) fun h2 => ?_
 ·refine xg 12 [] rfl rfl ?_
  refine n_ (t_ (g_cond_t rfl (s_ (o_ ?_))))
  refine g_call1 rfl rfl rfl Try.call13 (fun w hS => alive_any w (hS.maxHere hz (by simp))) ?_
  refine xg 1 [] rfl rfl ?_
  refine n_ (t_ (g_ret (g_then_ret ?_)))
  refine g_end1 Try.results7 rfl ?_
  exact fun w hS => ⟨rfl, hS.below⟩
 refine xg 4 [0] rfl rfl ?_
 refine g_casep 42 rfl (fun h3 => ?_) fun h3 => ?_
 ·refine xg 8 [] rfl rfl ?_
  refine n_ (t_ (g_cond_t rfl (s_ (o_ ?_))))
  refine g_call1 rfl rfl rfl Try.call13 (fun w hS => alive_any w (hS.maxHere hz (by simp))) ?_
  refine xg 1 [] rfl rfl ?_
  refine n_ (t_ (g_ret (g_then_ret ?_)))
  refine g_end1 Try.results7 rfl ?_
  exact fun w hS => ⟨rfl, hS.below⟩
 refine xg 4 [0] rfl rfl ?_
 refine g_casep 46 rfl (fun h4 => ?_) fun h4 => ?_
 ·refine xg 4 [] rfl rfl ?_
  refine n_ (t_ (g_cond_t rfl (s_ (o_ ?_))))
  refine g_call1 rfl rfl rfl Try.call13 (fun w hS => alive_any w (hS.maxHere hz (by simp))) ?_
  refine xg 1 [] rfl rfl ?_
  refine n_ (t_ (g_ret (g_then_ret ?_)))
  refine g_end1 Try.results7 rfl ?_
  exact fun w hS => ⟨rfl, hS.below⟩
 refine xg 1 [] rfl rfl ?_
 refine g_val (v := .int .i64 (l.length : Int)) rfl rfl rfl (y_val (y_slen rfl Try.underlying9) (by rw [size_mk])) ?_
 refine xg 2 [0] rfl rfl ?_
 refine n_ (t_ ?_)
 refine g_casep 50 rfl (fun h5 => ?_) fun h5 => ?_
 ·refine g_cond_t rfl (s_ (o_ ?_))
  refine g_call1 rfl rfl rfl Try.call13 (fun w hS => alive_any w (hS.maxHere hz (by simp))) ?_
  refine xg 1 [] rfl rfl ?_
  refine n_ (t_ (g_ret (g_then_ret ?_)))
  refine g_end1 Try.results7 rfl ?_
  exact fun w hS => ⟨rfl, hS.below⟩
 refine g_cond_f rfl (g_skip (t_ (s_ ?_)))
 obtain rfl : erna = 0 := by omega
 obtain rfl : ernb = 0 := by omega
 obtain ⟨r, p, z, er, ep, ez, hc⟩ := eith ⟨l, true⟩ (.mk nka nsa nma nxa nua (.slice pva nqa.length cva) nqa) (.mk nkb nsb nmb nxb nub (.slice pvb nqb.length cvb) nqb) s0 0 0 0 (show l.length ≤ 1024 by omega)
 rcases hc with ⟨r2, p2, z2, c1, c2⟩ | ⟨r2, p2, z2, c1, c2⟩ | ⟨r2, p2, z2, c1, c3, c2⟩ | ⟨r2, p2, z2, c1, c3, c2⟩ | ⟨r2, p2, z2, c2⟩ | ⟨r2, p2, z2, c2⟩ | ⟨r2, p2, z2⟩
 ·have c4 := congrArg Prod.fst c2
  have c5 := congrArg Prod.snd c2
  refine o_ ?_
  refine xg 2 [2] rfl (by omega) ?_
  refine g_c1 (m_find ⟨l, true⟩ (.mk nka nsa nma nxa nua (.slice pva nqa.length cva) nqa) 0 (by show l.length ≤ _; omega) (by have := parX_size hpara; dsimp only at this; omega)) (fun w hS => forest_rd hS (i := 3) rfl) rfl rfl rfl ?_
  rw [er, r2]
  refine xg 3 [] rfl rfl ?_
  refine g_alloc rfl rfl Try.zeroValue36 rfl (fun b4 => ?_)
  refine xg 2 [0] rfl (by omega) ?_
  refine ntso_ ?_
  refine xg 2 [1] rfl (by omega) ?_
  refine g_c1 (m_find ⟨l, true⟩ (.mk nkb nsb nmb nxb nub (.slice pvb nqb.length cvb) nqb) 0 (by show l.length ≤ _; omega) (by have := parX_size hparb; dsimp only at this; omega)) (fun w hS => forest_rd hS (i := 2) rfl) rfl rfl rfl ?_
  rw [ep, p2]
  refine xg 3 [] rfl rfl ?_
  refine g_alloc rfl rfl Try.zeroValue36 rfl (fun b5 => ?_)
  refine xg 2 [0] rfl (by omega) ?_
  refine ntso_ ?_
  refine xg 2 [4,2] rfl (by omega) ?_
  refine g_buildSlice (offs := [0, 9]) rfl rfl Try.underlying26 rfl Try.zeroValue28 (by kernel_rfl) (fun b6 => ?_)
  refine xg 2 [] rfl rfl ?_
  refine g_c1 (m_find ⟨l, true⟩ (.mk 3 s0 0 0 0 (.slice (some ⟨b6, 0, none⟩) 2 2) [(.mk nka nsa nma nxa nua (.slice pva nqa.length cva) nqa), (.mk nkb nsb nmb nxb nub (.slice pvb nqb.length cvb) nqb)]) 0 (by show l.length ≤ _; omega) (by rw [wT_two]; have h1 := parX_size hpara; dsimp only at h1; have h2 := parX_size hparb; dsimp only at h2; omega)) (fun w hS => rd_node rfl (hS.cells (i := 0) rfl) (rdL_cons.2 ⟨forest_rd hS (i := 6) rfl, rdL_cons.2 ⟨forest_rd hS (i := 4) rfl, rdL_nil⟩⟩)) rfl rfl rfl ?_
  rw [findR_v nilS, ez, z2]
  refine xg 3 [] rfl rfl ?_
  refine g_alloc rfl rfl Try.zeroValue36 rfl (fun b7 => ?_)
  refine xg 2 [0] rfl (by omega) ?_
  refine ntso_ ?_
  refine xg 2 [3] rfl (by omega) ?_
  refine g_alloc rfl rfl Try.zeroValue34 rfl (fun b8 => ?_)
  refine xg 1 [0] rfl (by omega) ?_
  refine n_ (t_ (s_ (s_ (o_ ?_))))
  refine xg 29 [3,0,2,3,0,2] rfl (by omega) ?_
  refine n_ (t_ (g_cond_f rfl (g_skip (t_ (s_ (o_ ?_))))))
  refine g_call1 rfl rfl rfl Try.call13 (fun w hS => alive_any w (hS.maxHere hz (by simp))) ?_
  refine xg 6 [] rfl rfl ?_
  refine g_val rfl rfl rfl (y_lit true (y_beq rfl rfl (by kernel_rfl)) (rfl)) ?_
  refine xg 8 [1,0] rfl (by omega) ?_
  refine g_val (v := .bool true) rfl rfl rfl (y_val (y_spEq rfl rfl) (by rw [show ((z.1 0).1 == (r.1 0).1) = true from beq_iff_eq.2 (by omega), show ((z.1 0).2 == (r.1 0).2) = true from beq_iff_eq.2 (by omega)]; rfl)) ?_
  refine xg 3 [] rfl rfl ?_
  refine n_ (t_ (g_ret ?_))
  refine g_end1 Try.results7 rfl ?_
  exact fun w hS => ⟨rfl, hS.below⟩
 ·have c4 := congrArg Prod.fst c2
  have c5 := congrArg Prod.snd c2
  refine o_ ?_
  refine xg 2 [2] rfl (by omega) ?_
  refine g_c1 (m_find ⟨l, true⟩ (.mk nka nsa nma nxa nua (.slice pva nqa.length cva) nqa) 0 (by show l.length ≤ _; omega) (by have := parX_size hpara; dsimp only at this; omega)) (fun w hS => forest_rd hS (i := 3) rfl) rfl rfl rfl ?_
  rw [er, r2]
  refine xg 3 [] rfl rfl ?_
  refine g_alloc rfl rfl Try.zeroValue36 rfl (fun b9 => ?_)
  refine xg 2 [0] rfl (by omega) ?_
  refine ntso_ ?_
  refine xg 2 [1] rfl (by omega) ?_
  refine g_c1 (m_find ⟨l, true⟩ (.mk nkb nsb nmb nxb nub (.slice pvb nqb.length cvb) nqb) 0 (by show l.length ≤ _; omega) (by have := parX_size hparb; dsimp only at this; omega)) (fun w hS => forest_rd hS (i := 2) rfl) rfl rfl rfl ?_
  rw [ep, p2]
  refine xg 3 [] rfl rfl ?_
  refine g_alloc rfl rfl Try.zeroValue36 rfl (fun b10 => ?_)
  refine xg 2 [0] rfl (by omega) ?_
  refine ntso_ ?_
  refine xg 2 [4,2] rfl (by omega) ?_
  refine g_buildSlice (offs := [0, 9]) rfl rfl Try.underlying26 rfl Try.zeroValue28 (by kernel_rfl) (fun b11 => ?_)
  refine xg 2 [] rfl rfl ?_
  refine g_c1 (m_find ⟨l, true⟩ (.mk 3 s0 0 0 0 (.slice (some ⟨b11, 0, none⟩) 2 2) [(.mk nka nsa nma nxa nua (.slice pva nqa.length cva) nqa), (.mk nkb nsb nmb nxb nub (.slice pvb nqb.length cvb) nqb)]) 0 (by show l.length ≤ _; omega) (by rw [wT_two]; have h1 := parX_size hpara; dsimp only at h1; have h2 := parX_size hparb; dsimp only at h2; omega)) (fun w hS => rd_node rfl (hS.cells (i := 0) rfl) (rdL_cons.2 ⟨forest_rd hS (i := 6) rfl, rdL_cons.2 ⟨forest_rd hS (i := 4) rfl, rdL_nil⟩⟩)) rfl rfl rfl ?_
  rw [findR_v nilS, ez, z2]
  refine xg 3 [] rfl rfl ?_
  refine g_alloc rfl rfl Try.zeroValue36 rfl (fun b12 => ?_)
  refine xg 2 [0] rfl (by omega) ?_
  refine ntso_ ?_
  refine xg 2 [3] rfl (by omega) ?_
  refine g_alloc rfl rfl Try.zeroValue34 rfl (fun b13 => ?_)
  refine xg 1 [0] rfl (by omega) ?_
  refine n_ (t_ (s_ (s_ (o_ ?_))))
  refine xg 29 [3,0,1] rfl (by omega) ?_
  refine n_ (t_ (g_cond_t rfl (o_ ?_)))
  refine xg 3 [3,0] rfl (by omega) ?_
  refine ntso_ ?_
  refine g_call1 rfl rfl rfl Try.call13 (fun w hS => alive_any w (hS.maxHere hz (by simp))) ?_
  refine xg 6 [] rfl rfl ?_
  refine g_val rfl rfl rfl (y_lit true (y_beq rfl rfl (by kernel_rfl)) (rfl)) ?_
  refine xg 8 [1,0] rfl (by omega) ?_
  refine g_val (v := .bool true) rfl rfl rfl (y_val (y_spEq rfl rfl) (by rw [show ((z.1 0).1 == (p.1 0).1) = true from beq_iff_eq.2 (by omega), show ((z.1 0).2 == (p.1 0).2) = true from beq_iff_eq.2 (by omega)]; rfl)) ?_
  refine xg 3 [] rfl rfl ?_
  refine n_ (t_ (g_ret ?_))
  refine g_end1 Try.results7 rfl ?_
  exact fun w hS => ⟨rfl, hS.below⟩
 ·have c4 := congrArg Prod.fst c2
  have c5 := congrArg Prod.snd c2
  refine o_ ?_
  refine xg 2 [2] rfl (by omega) ?_
  refine g_c1 (m_find ⟨l, true⟩ (.mk nka nsa nma nxa nua (.slice pva nqa.length cva) nqa) 0 (by show l.length ≤ _; omega) (by have := parX_size hpara; dsimp only at this; omega)) (fun w hS => forest_rd hS (i := 3) rfl) rfl rfl rfl ?_
  rw [er, r2]
  refine xg 3 [] rfl rfl ?_
  refine g_alloc rfl rfl Try.zeroValue36 rfl (fun b14 => ?_)
  refine xg 2 [0] rfl (by omega) ?_
  refine ntso_ ?_
  refine xg 2 [1] rfl (by omega) ?_
  refine g_c1 (m_find ⟨l, true⟩ (.mk nkb nsb nmb nxb nub (.slice pvb nqb.length cvb) nqb) 0 (by show l.length ≤ _; omega) (by have := parX_size hparb; dsimp only at this; omega)) (fun w hS => forest_rd hS (i := 2) rfl) rfl rfl rfl ?_
  rw [ep, p2]
  refine xg 3 [] rfl rfl ?_
  refine g_alloc rfl rfl Try.zeroValue36 rfl (fun b15 => ?_)
  refine xg 2 [0] rfl (by omega) ?_
  refine ntso_ ?_
  refine xg 2 [4,2] rfl (by omega) ?_
  refine g_buildSlice (offs := [0, 9]) rfl rfl Try.underlying26 rfl Try.zeroValue28 (by kernel_rfl) (fun b16 => ?_)
  refine xg 2 [] rfl rfl ?_
  refine g_c1 (m_find ⟨l, true⟩ (.mk 3 s0 0 0 0 (.slice (some ⟨b16, 0, none⟩) 2 2) [(.mk nka nsa nma nxa nua (.slice pva nqa.length cva) nqa), (.mk nkb nsb nmb nxb nub (.slice pvb nqb.length cvb) nqb)]) 0 (by show l.length ≤ _; omega) (by rw [wT_two]; have h1 := parX_size hpara; dsimp only at h1; have h2 := parX_size hparb; dsimp only at h2; omega)) (fun w hS => rd_node rfl (hS.cells (i := 0) rfl) (rdL_cons.2 ⟨forest_rd hS (i := 6) rfl, rdL_cons.2 ⟨forest_rd hS (i := 4) rfl, rdL_nil⟩⟩)) rfl rfl rfl ?_
  rw [findR_v nilS, ez, z2]
  refine xg 3 [] rfl rfl ?_
  refine g_alloc rfl rfl Try.zeroValue36 rfl (fun b17 => ?_)
  refine xg 2 [0] rfl (by omega) ?_
  refine ntso_ ?_
  refine xg 2 [3] rfl (by omega) ?_
  refine g_alloc rfl rfl Try.zeroValue34 rfl (fun b18 => ?_)
  refine xg 1 [0] rfl (by omega) ?_
  refine n_ (t_ (s_ (s_ (o_ ?_))))
  refine xg 29 [3,0,2,3,0,1,3,0,1] rfl (by omega) ?_
  refine n_ (t_ (g_cond_t rfl (o_ ?_)))
  refine xg 3 [3,0] rfl (by omega) ?_
  refine ntso_ ?_
  refine g_call1 rfl rfl rfl Try.call13 (fun w hS => alive_any w (hS.maxHere hz (by simp))) ?_
  refine xg 6 [] rfl rfl ?_
  refine g_val rfl rfl rfl (y_lit true (y_beq rfl rfl (by kernel_rfl)) (rfl)) ?_
  refine xg 8 [1,0] rfl (by omega) ?_
  refine g_val (v := .bool true) rfl rfl rfl (y_val (y_spEq rfl rfl) (by rw [show ((z.1 0).1 == (p.1 0).1) = true from beq_iff_eq.2 (by omega), show ((z.1 0).2 == (p.1 0).2) = true from beq_iff_eq.2 (by omega)]; rfl)) ?_
  refine xg 3 [] rfl rfl ?_
  refine n_ (t_ (g_ret ?_))
  refine g_end1 Try.results7 rfl ?_
  exact fun w hS => ⟨rfl, hS.below⟩
 ·have c4 := congrArg Prod.fst c2
  have c5 := congrArg Prod.snd c2
  refine o_ ?_
  refine xg 2 [2] rfl (by omega) ?_
  refine g_c1 (m_find ⟨l, true⟩ (.mk nka nsa nma nxa nua (.slice pva nqa.length cva) nqa) 0 (by show l.length ≤ _; omega) (by have := parX_size hpara; dsimp only at this; omega)) (fun w hS => forest_rd hS (i := 3) rfl) rfl rfl rfl ?_
  rw [er, r2]
  refine xg 3 [] rfl rfl ?_
  refine g_alloc rfl rfl Try.zeroValue36 rfl (fun b19 => ?_)
  refine xg 2 [0] rfl (by omega) ?_
  refine ntso_ ?_
  refine xg 2 [1] rfl (by omega) ?_
  refine g_c1 (m_find ⟨l, true⟩ (.mk nkb nsb nmb nxb nub (.slice pvb nqb.length cvb) nqb) 0 (by show l.length ≤ _; omega) (by have := parX_size hparb; dsimp only at this; omega)) (fun w hS => forest_rd hS (i := 2) rfl) rfl rfl rfl ?_
  rw [ep, p2]
  refine xg 3 [] rfl rfl ?_
  refine g_alloc rfl rfl Try.zeroValue36 rfl (fun b20 => ?_)
  refine xg 2 [0] rfl (by omega) ?_
  refine ntso_ ?_
  refine xg 2 [4,2] rfl (by omega) ?_
  refine g_buildSlice (offs := [0, 9]) rfl rfl Try.underlying26 rfl Try.zeroValue28 (by kernel_rfl) (fun b21 => ?_)
  refine xg 2 [] rfl rfl ?_
  refine g_c1 (m_find ⟨l, true⟩ (.mk 3 s0 0 0 0 (.slice (some ⟨b21, 0, none⟩) 2 2) [(.mk nka nsa nma nxa nua (.slice pva nqa.length cva) nqa), (.mk nkb nsb nmb nxb nub (.slice pvb nqb.length cvb) nqb)]) 0 (by show l.length ≤ _; omega) (by rw [wT_two]; have h1 := parX_size hpara; dsimp only at h1; have h2 := parX_size hparb; dsimp only at h2; omega)) (fun w hS => rd_node rfl (hS.cells (i := 0) rfl) (rdL_cons.2 ⟨forest_rd hS (i := 6) rfl, rdL_cons.2 ⟨forest_rd hS (i := 4) rfl, rdL_nil⟩⟩)) rfl rfl rfl ?_
  rw [findR_v nilS, ez, z2]
  refine xg 3 [] rfl rfl ?_
  refine g_alloc rfl rfl Try.zeroValue36 rfl (fun b22 => ?_)
  refine xg 2 [0] rfl (by omega) ?_
  refine ntso_ ?_
  refine xg 2 [3] rfl (by omega) ?_
  refine g_alloc rfl rfl Try.zeroValue34 rfl (fun b23 => ?_)
  refine xg 1 [0] rfl (by omega) ?_
  refine n_ (t_ (s_ (s_ (o_ ?_))))
  refine xg 29 [3,0,2,3,0,1,3,0,2] rfl (by omega) ?_
  refine n_ (t_ (g_cond_f rfl (g_skip (t_ (s_ (o_ ?_))))))
  refine g_call1 rfl rfl rfl Try.call13 (fun w hS => alive_any w (hS.maxHere hz (by simp))) ?_
  refine xg 6 [] rfl rfl ?_
  refine g_val rfl rfl rfl (y_lit true (y_beq rfl rfl (by kernel_rfl)) (rfl)) ?_
  refine xg 8 [1,0] rfl (by omega) ?_
  refine g_val (v := .bool true) rfl rfl rfl (y_val (y_spEq rfl rfl) (by rw [show ((z.1 0).1 == (r.1 0).1) = true from beq_iff_eq.2 (by omega), show ((z.1 0).2 == (r.1 0).2) = true from beq_iff_eq.2 (by omega)]; rfl)) ?_
  refine xg 3 [] rfl rfl ?_
  refine n_ (t_ (g_ret ?_))
  refine g_end1 Try.results7 rfl ?_
  exact fun w hS => ⟨rfl, hS.below⟩
 ·have c4 := congrArg Prod.fst c2
  have c5 := congrArg Prod.snd c2
  refine o_ ?_
  refine xg 2 [2] rfl (by omega) ?_
  refine g_c1 (m_find ⟨l, true⟩ (.mk nka nsa nma nxa nua (.slice pva nqa.length cva) nqa) 0 (by show l.length ≤ _; omega) (by have := parX_size hpara; dsimp only at this; omega)) (fun w hS => forest_rd hS (i := 3) rfl) rfl rfl rfl ?_
  rw [er, r2]
  refine xg 3 [] rfl rfl ?_
  refine g_alloc rfl rfl Try.zeroValue36 rfl (fun b24 => ?_)
  refine xg 2 [0] rfl (by omega) ?_
  refine ntso_ ?_
  refine xg 2 [1] rfl (by omega) ?_
  refine g_c1 (m_find ⟨l, true⟩ (.mk nkb nsb nmb nxb nub (.slice pvb nqb.length cvb) nqb) 0 (by show l.length ≤ _; omega) (by have := parX_size hparb; dsimp only at this; omega)) (fun w hS => forest_rd hS (i := 2) rfl) rfl rfl rfl ?_
  rw [ep, p2]
  refine xg 3 [] rfl rfl ?_
  refine g_alloc rfl rfl Try.zeroValue36 rfl (fun b25 => ?_)
  refine xg 2 [0] rfl (by omega) ?_
  refine ntso_ ?_
  refine xg 2 [4,2] rfl (by omega) ?_
  refine g_buildSlice (offs := [0, 9]) rfl rfl Try.underlying26 rfl Try.zeroValue28 (by kernel_rfl) (fun b26 => ?_)
  refine xg 2 [] rfl rfl ?_
  refine g_c1 (m_find ⟨l, true⟩ (.mk 3 s0 0 0 0 (.slice (some ⟨b26, 0, none⟩) 2 2) [(.mk nka nsa nma nxa nua (.slice pva nqa.length cva) nqa), (.mk nkb nsb nmb nxb nub (.slice pvb nqb.length cvb) nqb)]) 0 (by show l.length ≤ _; omega) (by rw [wT_two]; have h1 := parX_size hpara; dsimp only at h1; have h2 := parX_size hparb; dsimp only at h2; omega)) (fun w hS => rd_node rfl (hS.cells (i := 0) rfl) (rdL_cons.2 ⟨forest_rd hS (i := 6) rfl, rdL_cons.2 ⟨forest_rd hS (i := 4) rfl, rdL_nil⟩⟩)) rfl rfl rfl ?_
  rw [findR_v nilS, ez, z2]
  refine xg 3 [] rfl rfl ?_
  refine g_alloc rfl rfl Try.zeroValue36 rfl (fun b27 => ?_)
  refine xg 2 [0] rfl (by omega) ?_
  refine ntso_ ?_
  refine xg 2 [3] rfl (by omega) ?_
  refine g_alloc rfl rfl Try.zeroValue34 rfl (fun b28 => ?_)
  refine xg 1 [0] rfl (by omega) ?_
  refine n_ (t_ (s_ (s_ (o_ ?_))))
  refine xg 29 [] rfl rfl ?_
  refine n_ (t_ (g_cond_f rfl (g_skip (t_ (s_ (o_ ?_))))))
  refine g_call1 rfl rfl rfl Try.call13 (fun w hS => alive_any w (hS.maxHere hz (by simp))) ?_
  refine xg 6 [] rfl rfl ?_
  refine g_val rfl rfl rfl (y_lit true (y_beq rfl rfl (by kernel_rfl)) (rfl)) ?_
  refine xg 8 [1,0] rfl (by omega) ?_
  refine g_val (v := .bool true) rfl rfl rfl (y_val (y_spEq rfl rfl) (by rw [show ((z.1 0).1 == (r.1 0).1) = true from beq_iff_eq.2 (by omega), show ((z.1 0).2 == (r.1 0).2) = true from beq_iff_eq.2 (by omega)]; rfl)) ?_
  refine xg 3 [] rfl rfl ?_
  refine n_ (t_ (g_ret ?_))
  refine g_end1 Try.results7 rfl ?_
  exact fun w hS => ⟨rfl, hS.below⟩
 ·have c4 := congrArg Prod.fst c2
  have c5 := congrArg Prod.snd c2
  refine o_ ?_
  refine xg 2 [2] rfl (by omega) ?_
  refine g_c1 (m_find ⟨l, true⟩ (.mk nka nsa nma nxa nua (.slice pva nqa.length cva) nqa) 0 (by show l.length ≤ _; omega) (by have := parX_size hpara; dsimp only at this; omega)) (fun w hS => forest_rd hS (i := 3) rfl) rfl rfl rfl ?_
  rw [er, r2]
  refine xg 3 [] rfl rfl ?_
  refine g_alloc rfl rfl Try.zeroValue36 rfl (fun b29 => ?_)
  refine xg 2 [0] rfl (by omega) ?_
  refine ntso_ ?_
  refine xg 2 [1] rfl (by omega) ?_
  refine g_c1 (m_find ⟨l, true⟩ (.mk nkb nsb nmb nxb nub (.slice pvb nqb.length cvb) nqb) 0 (by show l.length ≤ _; omega) (by have := parX_size hparb; dsimp only at this; omega)) (fun w hS => forest_rd hS (i := 2) rfl) rfl rfl rfl ?_
  rw [ep, p2]
  refine xg 3 [] rfl rfl ?_
  refine g_alloc rfl rfl Try.zeroValue36 rfl (fun b30 => ?_)
  refine xg 2 [0] rfl (by omega) ?_
  refine ntso_ ?_
  refine xg 2 [4,2] rfl (by omega) ?_
  refine g_buildSlice (offs := [0, 9]) rfl rfl Try.underlying26 rfl Try.zeroValue28 (by kernel_rfl) (fun b31 => ?_)
  refine xg 2 [] rfl rfl ?_
  refine g_c1 (m_find ⟨l, true⟩ (.mk 3 s0 0 0 0 (.slice (some ⟨b31, 0, none⟩) 2 2) [(.mk nka nsa nma nxa nua (.slice pva nqa.length cva) nqa), (.mk nkb nsb nmb nxb nub (.slice pvb nqb.length cvb) nqb)]) 0 (by show l.length ≤ _; omega) (by rw [wT_two]; have h1 := parX_size hpara; dsimp only at h1; have h2 := parX_size hparb; dsimp only at h2; omega)) (fun w hS => rd_node rfl (hS.cells (i := 0) rfl) (rdL_cons.2 ⟨forest_rd hS (i := 6) rfl, rdL_cons.2 ⟨forest_rd hS (i := 4) rfl, rdL_nil⟩⟩)) rfl rfl rfl ?_
  rw [findR_v nilS, ez, z2]
  refine xg 3 [] rfl rfl ?_
  refine g_alloc rfl rfl Try.zeroValue36 rfl (fun b32 => ?_)
  refine xg 2 [0] rfl (by omega) ?_
  refine ntso_ ?_
  refine xg 2 [3] rfl (by omega) ?_
  refine g_alloc rfl rfl Try.zeroValue34 rfl (fun b33 => ?_)
  refine xg 1 [0] rfl (by omega) ?_
  refine n_ (t_ (s_ (s_ (o_ ?_))))
  refine xg 29 [] rfl rfl ?_
  refine n_ (t_ (g_cond_t rfl (o_ ?_)))
  refine xg 3 [3,0] rfl (by omega) ?_
  refine ntso_ ?_
  refine g_call1 rfl rfl rfl Try.call13 (fun w hS => alive_any w (hS.maxHere hz (by simp))) ?_
  refine xg 6 [] rfl rfl ?_
  refine g_val rfl rfl rfl (y_lit true (y_beq rfl rfl (by kernel_rfl)) (rfl)) ?_
  refine xg 8 [1,0] rfl (by omega) ?_
  refine g_val (v := .bool true) rfl rfl rfl (y_val (y_spEq rfl rfl) (by rw [show ((z.1 0).1 == (p.1 0).1) = true from beq_iff_eq.2 (by omega), show ((z.1 0).2 == (p.1 0).2) = true from beq_iff_eq.2 (by omega)]; rfl)) ?_
  refine xg 3 [] rfl rfl ?_
  refine n_ (t_ (g_ret ?_))
  refine g_end1 Try.results7 rfl ?_
  exact fun w hS => ⟨rfl, hS.below⟩
 refine o_ ?_
 refine xg 2 [2] rfl (by omega) ?_
 refine g_c1 (m_find ⟨l, true⟩ (.mk nka nsa nma nxa nua (.slice pva nqa.length cva) nqa) 0 (by show l.length ≤ _; omega) (by have := parX_size hpara; dsimp only at this; omega)) (fun w hS => forest_rd hS (i := 3) rfl) rfl rfl rfl ?_
 rw [er, r2]
 refine xg 3 [] rfl rfl ?_
 refine g_alloc rfl rfl Try.zeroValue36 rfl (fun b34 => ?_)
 refine xg 2 [0] rfl (by omega) ?_
 refine ntso_ ?_
 refine xg 2 [1] rfl (by omega) ?_
 refine g_c1 (m_find ⟨l, true⟩ (.mk nkb nsb nmb nxb nub (.slice pvb nqb.length cvb) nqb) 0 (by show l.length ≤ _; omega) (by have := parX_size hparb; dsimp only at this; omega)) (fun w hS => forest_rd hS (i := 2) rfl) rfl rfl rfl ?_
 rw [ep, p2]
 refine xg 3 [] rfl rfl ?_
 refine g_alloc rfl rfl Try.zeroValue36 rfl (fun b35 => ?_)
 refine xg 2 [0] rfl (by omega) ?_
 refine ntso_ ?_
 refine xg 2 [4,2] rfl (by omega) ?_
 refine g_buildSlice (offs := [0, 9]) rfl rfl Try.underlying26 rfl Try.zeroValue28 (by kernel_rfl) (fun b36 => ?_)
 refine xg 2 [] rfl rfl ?_
 refine g_c1 (m_find ⟨l, true⟩ (.mk 3 s0 0 0 0 (.slice (some ⟨b36, 0, none⟩) 2 2) [(.mk nka nsa nma nxa nua (.slice pva nqa.length cva) nqa), (.mk nkb nsb nmb nxb nub (.slice pvb nqb.length cvb) nqb)]) 0 (by show l.length ≤ _; omega) (by rw [wT_two]; have h1 := parX_size hpara; dsimp only at h1; have h2 := parX_size hparb; dsimp only at h2; omega)) (fun w hS => rd_node rfl (hS.cells (i := 0) rfl) (rdL_cons.2 ⟨forest_rd hS (i := 6) rfl, rdL_cons.2 ⟨forest_rd hS (i := 4) rfl, rdL_nil⟩⟩)) rfl rfl rfl ?_
 rw [findR_v nilS, ez, z2]
 refine xg 3 [] rfl rfl ?_
 refine g_alloc rfl rfl Try.zeroValue36 rfl (fun b37 => ?_)
 refine xg 2 [0] rfl (by omega) ?_
 refine ntso_ ?_
 refine xg 2 [3] rfl (by omega) ?_
 refine g_alloc rfl rfl Try.zeroValue34 rfl (fun b38 => ?_)
 refine xg 1 [0] rfl (by omega) ?_
 refine n_ (t_ (s_ (s_ (o_ ?_))))
 refine xg 29 [] rfl rfl ?_
 refine n_ (t_ (g_cond_t rfl (o_ ?_)))
 refine xg 3 [3,0] rfl (by omega) ?_
 refine ntso_ ?_
 refine g_call1 rfl rfl rfl Try.call13 (fun w hS => alive_any w (hS.maxHere hz (by simp))) ?_
 refine xg 6 [] rfl rfl ?_
 refine g_val rfl rfl rfl (y_lit true (y_beq rfl rfl (by kernel_rfl)) (rfl)) ?_
 refine xg 12 [] rfl rfl ?_
 refine n_ (t_ (g_ret ?_))
 refine g_end1 Try.results7 rfl ?_
 exact fun w hS => ⟨rfl, hS.below⟩

theorem meith_law (s u t : ByteArray) (hs : s.size ≤ maxLen) (hu : u.size ≤ maxLen) (ht : t.size ≤ maxLen) (w : World) (hsh : w.ShapedOpen Try.prog) : Calls Try.prog 7 #[.agg #[.string s, .string u], .string t] w fun e w' => e = .returned (.bool true) ∧ Below w.heap.size w w' := by
  have h := meith_any s.data.toList u.data.toList t.data.toList (by rw [Array.length_toList]; exact hs) (by rw [Array.length_toList]; exact hu) (by rw [Array.length_toList]; exact ht) w (maxHere_of hsh)
  unfold st8 at h
  rw [Array.toArray_toList, Array.toArray_toList, Array.toArray_toList] at h
  exact h
end Go.Proofs.Ytfcamlkbkehlnaa

