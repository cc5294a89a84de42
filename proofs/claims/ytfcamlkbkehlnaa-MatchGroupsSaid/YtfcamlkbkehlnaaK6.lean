/- The texts that the proof leans on, one behind the other (6 of 6). -/
import Derived.Laws.StructEq
import Derived.Test.YtfcamlkbkehlnaaK5
/- MatchEither. -/
namespace Go.Proofs.Ytfcamlkbkehlnaa
open Go Go.RowKit

theorem run_eqSp (a b c e : Int) (w : World) : (Op.equalIn 10000 34 (.agg #[.int .i64 a, .int .i64 b]) (.agg #[.int .i64 c, .int .i64 e])).run Try.prog w = .ok (a == c && b == e) w := by
  have u3 := Try.underlying3
  rw [show (10000 : Nat) = 9999 + 1 from rfl, Op.equalIn]
  simp only [Sem.run_bind, run_underlying Try.underlying34, Result.andThen_ok]
  go_simp
  by_cases h1 : a = c <;> by_cases h2 : b = e <;> simp [h1, h2]
theorem run_eqMt (m : Spn) (w : World) : (Op.equalIn 10000 36 (.agg (spC m).toArray) (.agg (spC m).toArray)).run Try.prog w = .ok true w := by
  rw [show (10000 : Nat) = 9999 + 1 from rfl, Op.equalIn]
  unfold spC
  simp only [Sem.run_bind, run_underlying Try.underlying36, Result.andThen_ok]
  simp only [Std.Legacy.Range.forIn_eq_forIn_range', Std.Legacy.Range.size, Nat.sub_zero, Nat.add_sub_cancel, Nat.div_one, List.range'_succ, List.range'_zero, List.forIn_cons, List.forIn_nil]
  go_simp
section
variable {N : Nat} {R : Regs} {S : World → Prop} {dst : Option Tmp} {ty t' : TypeId} {pos : String} {af : Array Edge} {gd : Option (Nat × Bool)} {x y : Operand}
theorem y_spEq {a b c e : Int} (hx : ev R x = some (.agg #[.int .i64 a, .int .i64 b])) (hy : ev R y = some (.agg #[.int .i64 c, .int .i64 e])) : Yv Try.prog N R S ⟨dst, .binOp .eql 34 x y t', ty, pos, af, gd⟩ (.bool (a == c && b == e)) :=
  y_bin hx hy fun w => by
    rw [Sem.run_bind, run_eqGuard_agg w _ _ _ _ _ _ (by kernel_rfl), Result.andThen_ok, run_eql_struct, run_eqSp]; rfl
theorem y_spNe {a b c e : Int} (hx : ev R x = some (.agg #[.int .i64 a, .int .i64 b])) (hy : ev R y = some (.agg #[.int .i64 c, .int .i64 e])) : Yv Try.prog N R S ⟨dst, .binOp .neq 34 x y t', ty, pos, af, gd⟩ (.bool (!(a == c && b == e))) :=
  y_bin hx hy fun w => by
    rw [Sem.run_bind, run_eqGuard_agg w _ _ _ _ _ _ (by kernel_rfl), Result.andThen_ok, run_neq_struct, run_eqSp]; rfl
theorem y_mtEq (m : Spn) (hx : ev R x = some (.agg (spC m).toArray)) (hy : ev R y = some (.agg (spC m).toArray)) : Yv Try.prog N R S ⟨dst, .binOp .eql 36 x y t', ty, pos, af, gd⟩ (.bool true) :=
  y_bin hx hy fun w => by
    rw [Sem.run_bind, run_eqGuard_agg w _ _ _ _ _ _ (by kernel_rfl), Result.andThen_ok, run_eql_struct, run_eqMt]; rfl
end
theorem findR_v {x : Tx} {k : Int} {s : Nat → Int} {a b c : Int} {v : Value} (u : Value) {q : List MT} {fr : Int} : findR x (.mk k s a b c v q) fr = findR x (.mk k s a b c u q) fr := by rw [← findR_er, er_mk, ← findR_er x (.mk k s a b c u q), er_mk]
theorem mM_ei {x : Tx} {s : Nat → Int} {a b c : Int} {v : Value} {t u : MT} {i j : Nat} : mM x (.mk 3 s a b c v [t, u]) i j = (mM x t i j || mM x u i j) := by
  rw [mM_mk, if_neg (by decide), if_neg (by decide), if_neg (by decide), if_neg (by decide), if_pos rfl, mAny_cons, mAny_cons, mAny_nil, Bool.or_false]
/-- What is found of either of two, by what is found of each. -/
theorem eith (x : Tx) (t u : MT) (s : Nat → Int) (a b c : Int) (hn : x.n ≤ 1024) : ∃ r p q : Spn × Bool, findR x t 0 = r ∧ findR x u 0 = p ∧ findR x (.mk 3 s a b c nilS [t, u]) 0 = q ∧
    ((r.2 = true ∧ p.2 = true ∧ q.2 = true ∧ (r.1 0).1 < (p.1 0).1 ∧ q.1 0 = r.1 0) ∨
    (r.2 = true ∧ p.2 = true ∧ q.2 = true ∧ (p.1 0).1 < (r.1 0).1 ∧ q.1 0 = p.1 0) ∨
    (r.2 = true ∧ p.2 = true ∧ q.2 = true ∧ (p.1 0).1 = (r.1 0).1 ∧ (r.1 0).2 < (p.1 0).2 ∧ q.1 0 = p.1 0) ∨
    (r.2 = true ∧ p.2 = true ∧ q.2 = true ∧ (p.1 0).1 = (r.1 0).1 ∧ (p.1 0).2 ≤ (r.1 0).2 ∧ q.1 0 = r.1 0) ∨
    (r.2 = true ∧ p.2 = false ∧ q.2 = true ∧ q.1 0 = r.1 0) ∨ (r.2 = false ∧ p.2 = true ∧ q.2 = true ∧ q.1 0 = p.1 0) ∨ (r.2 = false ∧ p.2 = false ∧ q.2 = false)) := by
  have key : ∀ i j, First x (.mk 3 s a b c nilS [t, u]) 0 i j → ∃ m : Spn, findR x (.mk 3 s a b c nilS [t, u]) 0 = (m, true) ∧ m 0 = ((i : Int), (j : Int)) := fun i j h => ⟨_, findR_yes (f := 0) hn h, by rw [gM_0]; rfl⟩
  have f0 : ∀ {w : MT} {i j : Nat}, (gM x w i j (setS mN 0 ((i : Int), (j : Int)))) 0 = ((i : Int), (j : Int)) := by intro w i j; rw [gM_0]; rfl
  have fst : ∀ {w v : MT} {i j : Nat}, First x w 0 i j → (∀ p q, p < i → mM x v p q = false) → (∀ q, j < q → mM x v i q = false) → ∀ z, (∀ p q, mM x z p q = (mM x w p q || mM x v p q)) → First x z 0 i j := by
    intro w v i j h h1 h2 z hz
    exact ⟨h.1, h.2.1, by rw [hz, h.2.2.1]; rfl, fun p q h3 h4 => by rw [hz, h.2.2.2.1 p q h3 h4, h1 p q h4]; rfl, fun q h3 => by rw [hz, h.2.2.2.2 q h3, h2 q h3]; rfl⟩
  have z1 : ∀ p q, mM x (.mk 3 s a b c nilS [t, u]) p q = (mM x t p q || mM x u p q) := fun p q => mM_ei
  have z2 : ∀ p q, mM x (.mk 3 s a b c nilS [t, u]) p q = (mM x u p q || mM x t p q) := fun p q => by rw [mM_ei, Bool.or_comm]
  rcases findR_cases x t 0 (Nat.zero_le _) hn with ⟨i, j, hA, eA⟩ | ⟨hA, eA⟩ <;> rcases findR_cases x u 0 (Nat.zero_le _) hn with ⟨i', j', hB, eB⟩ | ⟨hB, eB⟩
  · rcases Nat.lt_trichotomy i i' with hlt | heq | hgt
    · obtain ⟨m, e1, e2⟩ := key i j (fst hA (fun p q hp => hB.2.2.2.1 p q (Nat.zero_le _) (by omega)) (fun q hq => hB.2.2.2.1 i q (Nat.zero_le _) hlt) _ z1)
      refine ⟨_, _, _, eA, eB, e1, .inl ⟨rfl, rfl, rfl, ?_, ?_⟩⟩
      · dsimp only; rw [f0, f0]; dsimp only; omega
      · dsimp only; rw [f0, e2]
    · subst heq
      by_cases hj : j < j'
      · obtain ⟨m, e1, e2⟩ := key i j' (fst hB (fun p q hp => hA.2.2.2.1 p q (Nat.zero_le _) (by omega)) (fun q hq => hA.2.2.2.2 q (by omega)) _ z2)
        refine ⟨_, _, _, eA, eB, e1, .inr (.inr (.inl ⟨rfl, rfl, rfl, ?_, ?_, ?_⟩))⟩
        · dsimp only; rw [f0, f0]
        · dsimp only; rw [f0, f0]; dsimp only; omega
        · dsimp only; rw [f0, e2]
      · obtain ⟨m, e1, e2⟩ := key i j (fst hA (fun p q hp => hB.2.2.2.1 p q (Nat.zero_le _) (by omega)) (fun q hq => hB.2.2.2.2 q (by omega)) _ z1)
        refine ⟨_, _, _, eA, eB, e1, .inr (.inr (.inr (.inl ⟨rfl, rfl, rfl, ?_, ?_, ?_⟩)))⟩
        · dsimp only; rw [f0, f0]
        · dsimp only; rw [f0, f0]; dsimp only; omega
        · dsimp only; rw [f0, e2]
    · obtain ⟨m, e1, e2⟩ := key i' j' (fst hB (fun p q hp => hA.2.2.2.1 p q (Nat.zero_le _) (by omega)) (fun q hq => hA.2.2.2.1 i' q (Nat.zero_le _) hgt) _ z2)
      refine ⟨_, _, _, eA, eB, e1, .inr (.inl ⟨rfl, rfl, rfl, ?_, ?_⟩)⟩
      · dsimp only; rw [f0, f0]; dsimp only; omega
      · dsimp only; rw [f0, e2]
  · obtain ⟨m, e1, e2⟩ := key i j (fst hA (fun p q hp => hB p q (Nat.zero_le _) (by have := hA.2.1; omega)) (fun q hq => hB i q (Nat.zero_le _) hA.2.1) _ z1)
    exact ⟨_, _, _, eA, eB, e1, .inr (.inr (.inr (.inr (.inl ⟨rfl, rfl, rfl, by dsimp only; rw [f0, e2]⟩))))⟩
  · obtain ⟨m, e1, e2⟩ := key i' j' (fst hB (fun p q hp => hA p q (Nat.zero_le _) (by have := hB.2.1; omega)) (fun q hq => hA i' q (Nat.zero_le _) hB.2.1) _ z2)
    exact ⟨_, _, _, eA, eB, e1, .inr (.inr (.inr (.inr (.inr (.inl ⟨rfl, rfl, rfl, by dsimp only; rw [f0, e2]⟩)))))⟩
  · exact ⟨_, _, _, eA, eB, findR_no (f := 0) (fun p q hp hq => by rw [z1, hA p q hp hq, hB p q hp hq]; rfl), .inr (.inr (.inr (.inr (.inr (.inr ⟨rfl, rfl, rfl⟩)))))⟩
theorem wT_two {k : Int} {s : Nat → Int} {a b c : Int} {v : Value} {t u : MT} : wT (.mk k s a b c v [t, u]) = wT t + wT u + 1 := by
  simp only [wT_mk, wL]; omega

set_option maxRecDepth 100000 in
theorem meith_any (a b l : List UInt8) (ha : a.length ≤ maxLen) (hb : b.length ≤ maxLen) (hl : l.length ≤ maxLen) (w : World) (hz : MaxHere w) :
    Calls Try.prog 7 #[.agg #[st8 a, st8 b], st8 l] w fun e w' => e = .returned (.bool true) ∧ Below w.heap.size w w' := by
 have hmax : maxLen = 9223372036854775807 := rfl
 refine fn_intro Try.func7 rfl Try.ntmps7 rfl rfl ?_
 refine s_ (o_ ?_)
 refine g_box rfl rfl rfl rfl (fun b1 => ?_)
 refine xg 1 [] rfl rfl ?_
 refine ntso_ ?_
 refine xg 2 [0] rfl (by omega) ?_
 refine g_callNew (fun x : {x : MT × Int // parX true a x} => .tuple #[.agg (nC x.1.1).toArray, .int .i64 x.1.2]) (fun x => [.forest [x.1.1]]) rfl rfl rfl Try.call16 (fun w hS => parse_xe a w (hS.maxHere hz (by simp))) ?_
 rintro ⟨⟨ta, erna⟩, hpara⟩
 obtain ⟨nka, nsa, nma, nxa, nua, nva, nqa⟩ := ta
 refine g_kids 0 rfl (fun pva cva hva => ?_)
 cases hva
 dsimp only
 simp only [List.cons_append, List.nil_append]
 refine xg 3 [] rfl rfl ?_
 refine g_alloc rfl rfl Try.zeroValue28 rfl (fun b2 => ?_)
 refine xg 2 [0] rfl (by omega) ?_
 refine ntso_ ?_
 refine xg 2 [2] rfl (by omega) ?_
 refine g_callNew (fun x : {x : MT × Int // parX true b x} => .tuple #[.agg (nC x.1.1).toArray, .int .i64 x.1.2]) (fun x => [.forest [x.1.1]]) rfl rfl rfl Try.call16 (fun w hS => parse_xe b w (hS.maxHere hz (by simp))) ?_
 rintro ⟨⟨tb, ernb⟩, hparb⟩
 obtain ⟨nkb, nsb, nmb, nxb, nub, nvb, nqb⟩ := tb
 refine g_kids 0 rfl (fun pvb cvb hvb => ?_)
 cases hvb
 dsimp only
 simp only [List.cons_append, List.nil_append]
 refine xg 3 [] rfl rfl ?_
 refine g_alloc rfl rfl Try.zeroValue28 rfl (fun b3 => ?_)
 refine xg 2 [0] rfl (by omega) ?_
 refine n_ (t_ (s_ (s_ (o_ ?_))))
 refine xg 2 [4] rfl (by omega) ?_
 refine g_val (v := .int .i64 (a.length : Int)) rfl rfl rfl (y_val (y_slen rfl Try.underlying9) (by rw [size_mk])) ?_
 refine xg 2 [0] rfl rfl ?_
 refine g_casep 32 rfl (fun h1 => ?_) fun h1 => ?_
 ·refine xg 18 [] rfl rfl ?_
  refine n_ (t_ (g_cond_t rfl (s_ (o_ ?_))))
  refine g_call1 rfl rfl rfl Try.call13 (fun w hS => alive_any w (hS.maxHere hz (by simp))) ?_
  refine xg 1 [] rfl rfl ?_
  refine n_ (t_ (g_ret (g_then_ret ?_)))
  refine g_end1 Try.results7 rfl ?_
  exact fun w hS => ⟨rfl, hS.below⟩
 refine xg 2 [4] rfl (by omega) ?_
 refine g_val (v := .int .i64 (b.length : Int)) rfl rfl rfl (y_val (y_slen rfl Try.underlying9) (by rw [size_mk])) ?_
 refine xg 3 [0] rfl rfl ?_
 refine g_casep 38 rfl (fun h2 => ?_) fun h2 => ?_
 ·refine xg 12 [] rfl rfl ?_
  refine n_ (t_ (g_cond_t rfl (s_ (o_ ?_))))
  refine g_call1 rfl rfl rfl Try.call13 (fun w hS => alive_any w (hS.maxHere hz (by simp))) ?_
  refine xg 1 [] rfl rfl ?_
  refine n_ (t_ (g_ret (g_then_ret ?_)))
  refine g_end1 Try.results7 rfl ?_
  exact fun w hS => ⟨rfl, hS.below⟩
 refine xg 4 [0] rfl rfl ?_
 refine g_casep 42 rfl (fun h3 => ?_) fun h3 => ?_
 ·refine xg 8 [] rfl rfl ?_
  refine n_ (t_ (g_cond_t rfl (s_ (o_ ?_))))
  refine g_call1 rfl rfl rfl Try.call13 (fun w hS => alive_any w (hS.maxHere hz (by simp))) ?_
  refine xg 1 [] rfl rfl ?_
  refine n_ (t_ (g_ret (g_then_ret ?_)))
  refine g_end1 Try.results7 rfl ?_
  exact fun w hS => ⟨rfl, hS.below⟩
 refine xg 4 [0] rfl rfl ?_
 refine g_casep 46 rfl (fun h4 => ?_) fun h4 => ?_
 ·refine xg 4 [] rfl rfl ?_
  refine n_ (t_ (g_cond_t rfl (s_ (o_ ?_))))
  refine g_call1 rfl rfl rfl Try.call13 (fun w hS => alive_any w (hS.maxHere hz (by simp))) ?_
  refine xg 1 [] rfl rfl ?_
  refine n_ (t_ (g_ret (g_then_ret ?_)))
  refine g_end1 Try.results7 rfl ?_
  exact fun w hS => ⟨rfl, hS.below⟩
 refine xg 1 [] rfl rfl ?_
 refine g_val (v := .int .i64 (l.length : Int)) rfl rfl rfl (y_val (y_slen rfl Try.underlying9) (by rw [size_mk])) ?_
 refine xg 2 [0] rfl rfl ?_
 refine n_ (t_ ?_)
 refine g_casep 50 rfl (fun h5 => ?_) fun h5 => ?_
 ·refine g_cond_t rfl (s_ (o_ ?_))
  refine g_call1 rfl rfl rfl Try.call13 (fun w hS => alive_any w (hS.maxHere hz (by simp))) ?_
  refine xg 1 [] rfl rfl ?_
  refine n_ (t_ (g_ret (g_then_ret ?_)))
  refine g_end1 Try.results7 rfl ?_
  exact fun w hS => ⟨rfl, hS.below⟩
 refine g_cond_f rfl (g_skip (t_ (s_ ?_)))
 obtain rfl : erna = 0 := by omega
 obtain rfl : ernb = 0 := by omega
 obtain ⟨r, p, z, er, ep, ez, hc⟩ := eith ⟨l, true⟩ (.mk nka nsa nma nxa nua (.slice pva nqa.length cva) nqa) (.mk nkb nsb nmb nxb nub (.slice pvb nqb.length cvb) nqb) s0 0 0 0 (show l.length ≤ 1024 by omega)
 rcases hc with ⟨r2, p2, z2, c1, c2⟩ | ⟨r2, p2, z2, c1, c2⟩ | ⟨r2, p2, z2, c1, c3, c2⟩ | ⟨r2, p2, z2, c1, c3, c2⟩ | ⟨r2, p2, z2, c2⟩ | ⟨r2, p2, z2, c2⟩ | ⟨r2, p2, z2⟩
 ·have c4 := congrArg Prod.fst c2
  have c5 := congrArg Prod.snd c2
  refine o_ ?_
  refine xg 2 [2] rfl (by omega) ?_
  refine g_c1 (m_find ⟨l, true⟩ (.mk nka nsa nma nxa nua (.slice pva nqa.length cva) nqa) 0 (by show l.length ≤ _; omega) (by have := parX_size hpara; dsimp only at this; omega)) (fun w hS => forest_rd hS (i := 3) rfl) rfl rfl rfl ?_
  rw [er, r2]
  refine xg 3 [] rfl rfl ?_
  refine g_alloc rfl rfl Try.zeroValue36 rfl (fun b4 => ?_)
  refine xg 2 [0] rfl (by omega) ?_
  refine ntso_ ?_
  refine xg 2 [1] rfl (by omega) ?_
  refine g_c1 (m_find ⟨l, true⟩ (.mk nkb nsb nmb nxb nub (.slice pvb nqb.length cvb) nqb) 0 (by show l.length ≤ _; omega) (by have := parX_size hparb; dsimp only at this; omega)) (fun w hS => forest_rd hS (i := 2) rfl) rfl rfl rfl ?_
  rw [ep, p2]
  refine xg 3 [] rfl rfl ?_
  refine g_alloc rfl rfl Try.zeroValue36 rfl (fun b5 => ?_)
  refine xg 2 [0] rfl (by omega) ?_
  refine ntso_ ?_
  refine xg 2 [4,2] rfl (by omega) ?_
  refine g_buildSlice (offs := [0, 9]) rfl rfl Try.underlying26 rfl Try.zeroValue28 (by kernel_rfl) (fun b6 => ?_)
  refine xg 2 [] rfl rfl ?_
  refine g_c1 (m_find ⟨l, true⟩ (.mk 3 s0 0 0 0 (.slice (some ⟨b6, 0, none⟩) 2 2) [(.mk nka nsa nma nxa nua (.slice pva nqa.length cva) nqa), (.mk nkb nsb nmb nxb nub (.slice pvb nqb.length cvb) nqb)]) 0 (by show l.length ≤ _; omega) (by rw [wT_two]; have h1 := parX_size hpara; dsimp only at h1; have h2 := parX_size hparb; dsimp only at h2; omega)) (fun w hS => rd_node rfl (hS.cells (i := 0) rfl) (rdL_cons.2 ⟨forest_rd hS (i := 6) rfl, rdL_cons.2 ⟨forest_rd hS (i := 4) rfl, rdL_nil⟩⟩)) rfl rfl rfl ?_
  rw [findR_v nilS, ez, z2]
  refine xg 3 [] rfl rfl ?_
  refine g_alloc rfl rfl Try.zeroValue36 rfl (fun b7 => ?_)
  refine xg 2 [0] rfl (by omega) ?_
  refine ntso_ ?_
  refine xg 2 [3] rfl (by omega) ?_
  refine g_alloc rfl rfl Try.zeroValue34 rfl (fun b8 => ?_)
  refine xg 1 [0] rfl (by omega) ?_
  refine n_ (t_ (s_ (s_ (o_ ?_))))
  refine xg 29 [3,0,2,3,0,2] rfl (by omega) ?_
  refine n_ (t_ (g_cond_f rfl (g_skip (t_ (s_ (o_ ?_))))))
  refine g_call1 rfl rfl rfl Try.call13 (fun w hS => alive_any w (hS.maxHere hz (by simp))) ?_
  refine xg 6 [] rfl rfl ?_
  refine g_val rfl rfl rfl (y_lit true (y_beq rfl rfl (by kernel_rfl)) (rfl)) ?_
  refine xg 8 [1,0] rfl (by omega) ?_
  refine g_val (v := .bool true) rfl rfl rfl (y_val (y_spEq rfl rfl) (by rw [show ((z.1 0).1 == (r.1 0).1) = true from beq_iff_eq.2 (by omega), show ((z.1 0).2 == (r.1 0).2) = true from beq_iff_eq.2 (by omega)]; rfl)) ?_
  refine xg 3 [] rfl rfl ?_
  refine n_ (t_ (g_ret ?_))
  refine g_end1 Try.results7 rfl ?_
  exact fun w hS => ⟨rfl, hS.below⟩
 ·have c4 := congrArg Prod.fst c2
  have c5 := congrArg Prod.snd c2
  refine o_ ?_
  refine xg 2 [2] rfl (by omega) ?_
  refine g_c1 (m_find ⟨l, true⟩ (.mk nka nsa nma nxa nua (.slice pva nqa.length cva) nqa) 0 (by show l.length ≤ _; omega) (by have := parX_size hpara; dsimp only at this; omega)) (fun w hS => forest_rd hS (i := 3) rfl) rfl rfl rfl ?_
  rw [er, r2]
  refine xg 3 [] rfl rfl ?_
  refine g_alloc rfl rfl Try.zeroValue36 rfl (fun b9 => ?_)
  refine xg 2 [0] rfl (by omega) ?_
  refine ntso_ ?_
  refine xg 2 [1] rfl (by omega) ?_
  refine g_c1 (m_find ⟨l, true⟩ (.mk nkb nsb nmb nxb nub (.slice pvb nqb.length cvb) nqb) 0 (by show l.length ≤ _; omega) (by have := parX_size hparb; dsimp only at this; omega)) (fun w hS => forest_rd hS (i := 2) rfl) rfl rfl rfl ?_
  rw [ep, p2]
  refine xg 3 [] rfl rfl ?_
  refine g_alloc rfl rfl Try.zeroValue36 rfl (fun b10 => ?_)
  refine xg 2 [0] rfl (by omega) ?_
  refine ntso_ ?_
  refine xg 2 [4,2] rfl (by omega) ?_
  refine g_buildSlice (offs := [0, 9]) rfl rfl Try.underlying26 rfl Try.zeroValue28 (by kernel_rfl) (fun b11 => ?_)
  refine xg 2 [] rfl rfl ?_
  refine g_c1 (m_find ⟨l, true⟩ (.mk 3 s0 0 0 0 (.slice (some ⟨b11, 0, none⟩) 2 2) [(.mk nka nsa nma nxa nua (.slice pva nqa.length cva) nqa), (.mk nkb nsb nmb nxb nub (.slice pvb nqb.length cvb) nqb)]) 0 (by show l.length ≤ _; omega) (by rw [wT_two]; have h1 := parX_size hpara; dsimp only at h1; have h2 := parX_size hparb; dsimp only at h2; omega)) (fun w hS => rd_node rfl (hS.cells (i := 0) rfl) (rdL_cons.2 ⟨forest_rd hS (i := 6) rfl, rdL_cons.2 ⟨forest_rd hS (i := 4) rfl, rdL_nil⟩⟩)) rfl rfl rfl ?_
  rw [findR_v nilS, ez, z2]
  refine xg 3 [] rfl rfl ?_
  refine g_alloc rfl rfl Try.zeroValue36 rfl (fun b12 => ?_)
  refine xg 2 [0] rfl (by omega) ?_
  refine ntso_ ?_
  refine xg 2 [3] rfl (by omega) ?_
  refine g_alloc rfl rfl Try.zeroValue34 rfl (fun b13 => ?_)
  refine xg 1 [0] rfl (by omega) ?_
  refine n_ (t_ (s_ (s_ (o_ ?_))))
  refine xg 29 [3,0,1] rfl (by omega) ?_
  refine n_ (t_ (g_cond_t rfl (o_ ?_)))
  refine xg 3 [3,0] rfl (by omega) ?_
  refine ntso_ ?_
  refine g_call1 rfl rfl rfl Try.call13 (fun w hS => alive_any w (hS.maxHere hz (by simp))) ?_
  refine xg 6 [] rfl rfl ?_
  refine g_val rfl rfl rfl (y_lit true (y_beq rfl rfl (by kernel_rfl)) (rfl)) ?_
  refine xg 8 [1,0] rfl (by omega) ?_
  refine g_val (v := .bool true) rfl rfl rfl (y_val (y_spEq rfl rfl) (by rw [show ((z.1 0).1 == (p.1 0).1) = true from beq_iff_eq.2 (by omega), show ((z.1 0).2 == (p.1 0).2) = true from beq_iff_eq.2 (by omega)]; rfl)) ?_
  refine xg 3 [] rfl rfl ?_
  refine n_ (t_ (g_ret ?_))
  refine g_end1 Try.results7 rfl ?_
  exact fun w hS => ⟨rfl, hS.below⟩
 ·have c4 := congrArg Prod.fst c2
  have c5 := congrArg Prod.snd c2
  refine o_ ?_
  refine xg 2 [2] rfl (by omega) ?_
  refine g_c1 (m_find ⟨l, true⟩ (.mk nka nsa nma nxa nua (.slice pva nqa.length cva) nqa) 0 (by show l.length ≤ _; omega) (by have := parX_size hpara; dsimp only at this; omega)) (fun w hS => forest_rd hS (i := 3) rfl) rfl rfl rfl ?_
  rw [er, r2]
  refine xg 3 [] rfl rfl ?_
  refine g_alloc rfl rfl Try.zeroValue36 rfl (fun b14 => ?_)
  refine xg 2 [0] rfl (by omega) ?_
  refine ntso_ ?_
  refine xg 2 [1] rfl (by omega) ?_
  refine g_c1 (m_find ⟨l, true⟩ (.mk nkb nsb nmb nxb nub (.slice pvb nqb.length cvb) nqb) 0 (by show l.length ≤ _; omega) (by have := parX_size hparb; dsimp only at this; omega)) (fun w hS => forest_rd hS (i := 2) rfl) rfl rfl rfl ?_
  rw [ep, p2]
  refine xg 3 [] rfl rfl ?_
  refine g_alloc rfl rfl Try.zeroValue36 rfl (fun b15 => ?_)
  refine xg 2 [0] rfl (by omega) ?_
  refine ntso_ ?_
  refine xg 2 [4,2] rfl (by omega) ?_
  refine g_buildSlice (offs := [0, 9]) rfl rfl Try.underlying26 rfl Try.zeroValue28 (by kernel_rfl) (fun b16 => ?_)
  refine xg 2 [] rfl rfl ?_
  refine g_c1 (m_find ⟨l, true⟩ (.mk 3 s0 0 0 0 (.slice (some ⟨b16, 0, none⟩) 2 2) [(.mk nka nsa nma nxa nua (.slice pva nqa.length cva) nqa), (.mk nkb nsb nmb nxb nub (.slice pvb nqb.length cvb) nqb)]) 0 (by show l.length ≤ _; omega) (by rw [wT_two]; have h1 := parX_size hpara; dsimp only at h1; have h2 := parX_size hparb; dsimp only at h2; omega)) (fun w hS => rd_node rfl (hS.cells (i := 0) rfl) (rdL_cons.2 ⟨forest_rd hS (i := 6) rfl, rdL_cons.2 ⟨forest_rd hS (i := 4) rfl, rdL_nil⟩⟩)) rfl rfl rfl ?_
  rw [findR_v nilS, ez, z2]
  refine xg 3 [] rfl rfl ?_
  refine g_alloc rfl rfl Try.zeroValue36 rfl (fun b17 => ?_)
  refine xg 2 [0] rfl (by omega) ?_
  refine ntso_ ?_
  refine xg 2 [3] rfl (by omega) ?_
  refine g_alloc rfl rfl Try.zeroValue34 rfl (fun b18 => ?_)
  refine xg 1 [0] rfl (by omega) ?_
  refine n_ (t_ (s_ (s_ (o_ ?_))))
  refine xg 29 [3,0,2,3,0,1,3,0,1] rfl (by omega) ?_
  refine n_ (t_ (g_cond_t rfl (o_ ?_)))
  refine xg 3 [3,0] rfl (by omega) ?_
  refine ntso_ ?_
  refine g_call1 rfl rfl rfl Try.call13 (fun w hS => alive_any w (hS.maxHere hz (by simp))) ?_
  refine xg 6 [] rfl rfl ?_
  refine g_val rfl rfl rfl (y_lit true (y_beq rfl rfl (by kernel_rfl)) (rfl)) ?_
  refine xg 8 [1,0] rfl (by omega) ?_
  refine g_val (v := .bool true) rfl rfl rfl (y_val (y_spEq rfl rfl) (by rw [show ((z.1 0).1 == (p.1 0).1) = true from beq_iff_eq.2 (by omega), show ((z.1 0).2 == (p.1 0).2) = true from beq_iff_eq.2 (by omega)]; rfl)) ?_
  refine xg 3 [] rfl rfl ?_
  refine n_ (t_ (g_ret ?_))
  refine g_end1 Try.results7 rfl ?_
  exact fun w hS => ⟨rfl, hS.below⟩
 ·have c4 := congrArg Prod.fst c2
  have c5 := congrArg Prod.snd c2
  refine o_ ?_
  refine xg 2 [2] rfl (by omega) ?_
  refine g_c1 (m_find ⟨l, true⟩ (.mk nka nsa nma nxa nua (.slice pva nqa.length cva) nqa) 0 (by show l.length ≤ _; omega) (by have := parX_size hpara; dsimp only at this; omega)) (fun w hS => forest_rd hS (i := 3) rfl) rfl rfl rfl ?_
  rw [er, r2]
  refine xg 3 [] rfl rfl ?_
  refine g_alloc rfl rfl Try.zeroValue36 rfl (fun b19 => ?_)
  refine xg 2 [0] rfl (by omega) ?_
  refine ntso_ ?_
  refine xg 2 [1] rfl (by omega) ?_
  refine g_c1 (m_find ⟨l, true⟩ (.mk nkb nsb nmb nxb nub (.slice pvb nqb.length cvb) nqb) 0 (by show l.length ≤ _; omega) (by have := parX_size hparb; dsimp only at this; omega)) (fun w hS => forest_rd hS (i := 2) rfl) rfl rfl rfl ?_
  rw [ep, p2]
  refine xg 3 [] rfl rfl ?_
  refine g_alloc rfl rfl Try.zeroValue36 rfl (fun b20 => ?_)
  refine xg 2 [0] rfl (by omega) ?_
  refine ntso_ ?_
  refine xg 2 [4,2] rfl (by omega) ?_
  refine g_buildSlice (offs := [0, 9]) rfl rfl Try.underlying26 rfl Try.zeroValue28 (by kernel_rfl) (fun b21 => ?_)
  refine xg 2 [] rfl rfl ?_
  refine g_c1 (m_find ⟨l, true⟩ (.mk 3 s0 0 0 0 (.slice (some ⟨b21, 0, none⟩) 2 2) [(.mk nka nsa nma nxa nua (.slice pva nqa.length cva) nqa), (.mk nkb nsb nmb nxb nub (.slice pvb nqb.length cvb) nqb)]) 0 (by show l.length ≤ _; omega) (by rw [wT_two]; have h1 := parX_size hpara; dsimp only at h1; have h2 := parX_size hparb; dsimp only at h2; omega)) (fun w hS => rd_node rfl (hS.cells (i := 0) rfl) (rdL_cons.2 ⟨forest_rd hS (i := 6) rfl, rdL_cons.2 ⟨forest_rd hS (i := 4) rfl, rdL_nil⟩⟩)) rfl rfl rfl ?_
  rw [findR_v nilS, ez, z2]
  refine xg 3 [] rfl rfl ?_
  refine g_alloc rfl rfl Try.zeroValue36 rfl (fun b22 => ?_)
  refine xg 2 [0] rfl (by omega) ?_
  refine ntso_ ?_
  refine xg 2 [3] rfl (by omega) ?_
  refine g_alloc rfl rfl Try.zeroValue34 rfl (fun b23 => ?_)
  refine xg 1 [0] rfl (by omega) ?_
  refine n_ (t_ (s_ (s_ (o_ ?_))))
  refine xg 29 [3,0,2,3,0,1,3,0,2] rfl (by omega) ?_
  refine n_ (t_ (g_cond_f rfl (g_skip (t_ (s_ (o_ ?_))))))
  refine g_call1 rfl rfl rfl Try.call13 (fun w hS => alive_any w (hS.maxHere hz (by simp))) ?_
  refine xg 6 [] rfl rfl ?_
  refine g_val rfl rfl rfl (y_lit true (y_beq rfl rfl (by kernel_rfl)) (rfl)) ?_
  refine xg 8 [1,0] rfl (by omega) ?_
  refine g_val (v := .bool true) rfl rfl rfl (y_val (y_spEq rfl rfl) (by rw [show ((z.1 0).1 == (r.1 0).1) = true from beq_iff_eq.2 (by omega), show ((z.1 0).2 == (r.1 0).2) = true from beq_iff_eq.2 (by omega)]; rfl)) ?_
  refine xg 3 [] rfl rfl ?_
  refine n_ (t_ (g_ret ?_))
  refine g_end1 Try.results7 rfl ?_
  exact fun w hS => ⟨rfl, hS.below⟩
 ·have c4 := congrArg Prod.fst c2
  have c5 := congrArg Prod.snd c2
  refine o_ ?_
  refine xg 2 [2] rfl (by omega) ?_
  refine g_c1 (m_find ⟨l, true⟩ (.mk nka nsa nma nxa nua (.slice pva nqa.length cva) nqa) 0 (by show l.length ≤ _; omega) (by have := parX_size hpara; dsimp only at this; omega)) (fun w hS => forest_rd hS (i := 3) rfl) rfl rfl rfl ?_
  rw [er, r2]
  refine xg 3 [] rfl rfl ?_
  refine g_alloc rfl rfl Try.zeroValue36 rfl (fun b24 => ?_)
  refine xg 2 [0] rfl (by omega) ?_
  refine ntso_ ?_
  refine xg 2 [1] rfl (by omega) ?_
  refine g_c1 (m_find ⟨l, true⟩ (.mk nkb nsb nmb nxb nub (.slice pvb nqb.length cvb) nqb) 0 (by show l.length ≤ _; omega) (by have := parX_size hparb; dsimp only at this; omega)) (fun w hS => forest_rd hS (i := 2) rfl) rfl rfl rfl ?_
  rw [ep, p2]
  refine xg 3 [] rfl rfl ?_
  refine g_alloc rfl rfl Try.zeroValue36 rfl (fun b25 => ?_)
  refine xg 2 [0] rfl (by omega) ?_
  refine ntso_ ?_
  refine xg 2 [4,2] rfl (by omega) ?_
  refine g_buildSlice (offs := [0, 9]) rfl rfl Try.underlying26 rfl Try.zeroValue28 (by kernel_rfl) (fun b26 => ?_)
  refine xg 2 [] rfl rfl ?_
  refine g_c1 (m_find ⟨l, true⟩ (.mk 3 s0 0 0 0 (.slice (some ⟨b26, 0, none⟩) 2 2) [(.mk nka nsa nma nxa nua (.slice pva nqa.length cva) nqa), (.mk nkb nsb nmb nxb nub (.slice pvb nqb.length cvb) nqb)]) 0 (by show l.length ≤ _; omega) (by rw [wT_two]; have h1 := parX_size hpara; dsimp only at h1; have h2 := parX_size hparb; dsimp only at h2; omega)) (fun w hS => rd_node rfl (hS.cells (i := 0) rfl) (rdL_cons.2 ⟨forest_rd hS (i := 6) rfl, rdL_cons.2 ⟨forest_rd hS (i := 4) rfl, rdL_nil⟩⟩)) rfl rfl rfl ?_
  rw [findR_v nilS, ez, z2]
  refine xg 3 [] rfl rfl ?_
  refine g_alloc rfl rfl Try.zeroValue36 rfl (fun b27 => ?_)
  refine xg 2 [0] rfl (by omega) ?_
  refine ntso_ ?_
  refine xg 2 [3] rfl (by omega) ?_
  refine g_alloc rfl rfl Try.zeroValue34 rfl (fun b28 => ?_)
  refine xg 1 [0] rfl (by omega) ?_
  refine n_ (t_ (s_ (s_ (o_ ?_))))
  refine xg 29 [] rfl rfl ?_
  refine n_ (t_ (g_cond_f rfl (g_skip (t_ (s_ (o_ ?_))))))
  refine g_call1 rfl rfl rfl Try.call13 (fun w hS => alive_any w (hS.maxHere hz (by simp))) ?_
  refine xg 6 [] rfl rfl ?_
  refine g_val rfl rfl rfl (y_lit true (y_beq rfl rfl (by kernel_rfl)) (rfl)) ?_
  refine xg 8 [1,0] rfl (by omega) ?_
  refine g_val (v := .bool true) rfl rfl rfl (y_val (y_spEq rfl rfl) (by rw [show ((z.1 0).1 == (r.1 0).1) = true from beq_iff_eq.2 (by omega), show ((z.1 0).2 == (r.1 0).2) = true from beq_iff_eq.2 (by omega)]; rfl)) ?_
  refine xg 3 [] rfl rfl ?_
  refine n_ (t_ (g_ret ?_))
  refine g_end1 Try.results7 rfl ?_
  exact fun w hS => ⟨rfl, hS.below⟩
 ·have c4 := congrArg Prod.fst c2
  have c5 := congrArg Prod.snd c2
  refine o_ ?_
  refine xg 2 [2] rfl (by omega) ?_
  refine g_c1 (m_find ⟨l, true⟩ (.mk nka nsa nma nxa nua (.slice pva nqa.length cva) nqa) 0 (by show l.length ≤ _; omega) (by have := parX_size hpara; dsimp only at this; omega)) (fun w hS => forest_rd hS (i := 3) rfl) rfl rfl rfl ?_
  rw [er, r2]
  refine xg 3 [] rfl rfl ?_
  refine g_alloc rfl rfl Try.zeroValue36 rfl (fun b29 => ?_)
  refine xg 2 [0] rfl (by omega) ?_
  refine ntso_ ?_
  refine xg 2 [1] rfl (by omega) ?_
  refine g_c1 (m_find ⟨l, true⟩ (.mk nkb nsb nmb nxb nub (.slice pvb nqb.length cvb) nqb) 0 (by show l.length ≤ _; omega) (by have := parX_size hparb; dsimp only at this; omega)) (fun w hS => forest_rd hS (i := 2) rfl) rfl rfl rfl ?_
  rw [ep, p2]
  refine xg 3 [] rfl rfl ?_
  refine g_alloc rfl rfl Try.zeroValue36 rfl (fun b30 => ?_)
  refine xg 2 [0] rfl (by omega) ?_
  refine ntso_ ?_
  refine xg 2 [4,2] rfl (by omega) ?_
  refine g_buildSlice (offs := [0, 9]) rfl rfl Try.underlying26 rfl Try.zeroValue28 (by kernel_rfl) (fun b31 => ?_)
  refine xg 2 [] rfl rfl ?_
  refine g_c1 (m_find ⟨l, true⟩ (.mk 3 s0 0 0 0 (.slice (some ⟨b31, 0, none⟩) 2 2) [(.mk nka nsa nma nxa nua (.slice pva nqa.length cva) nqa), (.mk nkb nsb nmb nxb nub (.slice pvb nqb.length cvb) nqb)]) 0 (by show l.length ≤ _; omega) (by rw [wT_two]; have h1 := parX_size hpara; dsimp only at h1; have h2 := parX_size hparb; dsimp only at h2; omega)) (fun w hS => rd_node rfl (hS.cells (i := 0) rfl) (rdL_cons.2 ⟨forest_rd hS (i := 6) rfl, rdL_cons.2 ⟨forest_rd hS (i := 4) rfl, rdL_nil⟩⟩)) rfl rfl rfl ?_
  rw [findR_v nilS, ez, z2]
  refine xg 3 [] rfl rfl ?_
  refine g_alloc rfl rfl Try.zeroValue36 rfl (fun b32 => ?_)
  refine xg 2 [0] rfl (by omega) ?_
  refine ntso_ ?_
  refine xg 2 [3] rfl (by omega) ?_
  refine g_alloc rfl rfl Try.zeroValue34 rfl (fun b33 => ?_)
  refine xg 1 [0] rfl (by omega) ?_
  refine n_ (t_ (s_ (s_ (o_ ?_))))
  refine xg 29 [] rfl rfl ?_
  refine n_ (t_ (g_cond_t rfl (o_ ?_)))
  refine xg 3 [3,0] rfl (by omega) ?_
  refine ntso_ ?_
  refine g_call1 rfl rfl rfl Try.call13 (fun w hS => alive_any w (hS.maxHere hz (by simp))) ?_
  refine xg 6 [] rfl rfl ?_
  refine g_val rfl rfl rfl (y_lit true (y_beq rfl rfl (by kernel_rfl)) (rfl)) ?_
  refine xg 8 [1,0] rfl (by omega) ?_
  refine g_val (v := .bool true) rfl rfl rfl (y_val (y_spEq rfl rfl) (by rw [show ((z.1 0).1 == (p.1 0).1) = true from beq_iff_eq.2 (by omega), show ((z.1 0).2 == (p.1 0).2) = true from beq_iff_eq.2 (by omega)]; rfl)) ?_
  refine xg 3 [] rfl rfl ?_
  refine n_ (t_ (g_ret ?_))
  refine g_end1 Try.results7 rfl ?_
  exact fun w hS => ⟨rfl, hS.below⟩
 refine o_ ?_
 refine xg 2 [2] rfl (by omega) ?_
 refine g_c1 (m_find ⟨l, true⟩ (.mk nka nsa nma nxa nua (.slice pva nqa.length cva) nqa) 0 (by show l.length ≤ _; omega) (by have := parX_size hpara; dsimp only at this; omega)) (fun w hS => forest_rd hS (i := 3) rfl) rfl rfl rfl ?_
 rw [er, r2]
 refine xg 3 [] rfl rfl ?_
 refine g_alloc rfl rfl Try.zeroValue36 rfl (fun b34 => ?_)
 refine xg 2 [0] rfl (by omega) ?_
 refine ntso_ ?_
 refine xg 2 [1] rfl (by omega) ?_
 refine g_c1 (m_find ⟨l, true⟩ (.mk nkb nsb nmb nxb nub (.slice pvb nqb.length cvb) nqb) 0 (by show l.length ≤ _; omega) (by have := parX_size hparb; dsimp only at this; omega)) (fun w hS => forest_rd hS (i := 2) rfl) rfl rfl rfl ?_
 rw [ep, p2]
 refine xg 3 [] rfl rfl ?_
 refine g_alloc rfl rfl Try.zeroValue36 rfl (fun b35 => ?_)
 refine xg 2 [0] rfl (by omega) ?_
 refine ntso_ ?_
 refine xg 2 [4,2] rfl (by omega) ?_
 refine g_buildSlice (offs := [0, 9]) rfl rfl Try.underlying26 rfl Try.zeroValue28 (by kernel_rfl) (fun b36 => ?_)
 refine xg 2 [] rfl rfl ?_
 refine g_c1 (m_find ⟨l, true⟩ (.mk 3 s0 0 0 0 (.slice (some ⟨b36, 0, none⟩) 2 2) [(.mk nka nsa nma nxa nua (.slice pva nqa.length cva) nqa), (.mk nkb nsb nmb nxb nub (.slice pvb nqb.length cvb) nqb)]) 0 (by show l.length ≤ _; omega) (by rw [wT_two]; have h1 := parX_size hpara; dsimp only at h1; have h2 := parX_size hparb; dsimp only at h2; omega)) (fun w hS => rd_node rfl (hS.cells (i := 0) rfl) (rdL_cons.2 ⟨forest_rd hS (i := 6) rfl, rdL_cons.2 ⟨forest_rd hS (i := 4) rfl, rdL_nil⟩⟩)) rfl rfl rfl ?_
 rw [findR_v nilS, ez, z2]
 refine xg 3 [] rfl rfl ?_
 refine g_alloc rfl rfl Try.zeroValue36 rfl (fun b37 => ?_)
 refine xg 2 [0] rfl (by omega) ?_
 refine ntso_ ?_
 refine xg 2 [3] rfl (by omega) ?_
 refine g_alloc rfl rfl Try.zeroValue34 rfl (fun b38 => ?_)
 refine xg 1 [0] rfl (by omega) ?_
 refine n_ (t_ (s_ (s_ (o_ ?_))))
 refine xg 29 [] rfl rfl ?_
 refine n_ (t_ (g_cond_t rfl (o_ ?_)))
 refine xg 3 [3,0] rfl (by omega) ?_
 refine ntso_ ?_
 refine g_call1 rfl rfl rfl Try.call13 (fun w hS => alive_any w (hS.maxHere hz (by simp))) ?_
 refine xg 6 [] rfl rfl ?_
 refine g_val rfl rfl rfl (y_lit true (y_beq rfl rfl (by kernel_rfl)) (rfl)) ?_
 refine xg 12 [] rfl rfl ?_
 refine n_ (t_ (g_ret ?_))
 refine g_end1 Try.results7 rfl ?_
 exact fun w hS => ⟨rfl, hS.below⟩

theorem meith_law (s u t : ByteArray) (hs : s.size ≤ maxLen) (hu : u.size ≤ maxLen) (ht : t.size ≤ maxLen) (w : World) (hsh : w.ShapedOpen Try.prog) : Calls Try.prog 7 #[.agg #[.string s, .string u], .string t] w fun e w' => e = .returned (.bool true) ∧ Below w.heap.size w w' := by
  have h := meith_any s.data.toList u.data.toList t.data.toList (by rw [Array.length_toList]; exact hs) (by rw [Array.length_toList]; exact hu) (by rw [Array.length_toList]; exact ht) w (maxHere_of hsh)
  unfold st8 at h
  rw [Array.toArray_toList, Array.toArray_toList, Array.toArray_toList] at h
  exact h
end Go.Proofs.Ytfcamlkbkehlnaa

/- A tree as an argument, read; few, count. -/
namespace Go.Proofs.Ytfcamlkbkehlnaa
open Go Go.RowKit
open Go.ChangeShapes Go.WideShapes Go.ChangeAt

section
variable {H : Type} {enc : TypeId × Value → H}
theorem trod_u64 {W : World} {base : Nat} {spare : Nat → Bool} {held : Bool} {n : Nat} {cs : List Value} {y : DataW H × List MemPlace} (h : DataW.trod enc Try.prog W base spare held n 23 cs = some y) : ∃ z, cs = [.int .u64 z] := by
  obtain ⟨z, h1, _⟩ := DataW.trod_int Try.underlying23 h; exact ⟨z, h1⟩
theorem fld_of {W : World} {base : Nat} {spare : Nat → Bool} {held : Bool} {n : Nat} {cs : List Value} {fs : Array Field} {xs : List (DataW H × List MemPlace)} (hlen : xs.length = fs.size) (hg : ∀ (i : Nat) (f : Field), fs[i]? = some f → DataW.trod enc Try.prog W base spare held n f.type ((cs.drop f.offset).take (Try.prog.cellsOf f.type)) = xs[i]?) :
    ∀ (i : Nat) (f : Field), fs[i]? = some f → ∀ o s ty, f.offset = o → Try.prog.cellsOf f.type = s → f.type = ty → ∃ y, DataW.trod enc Try.prog W base spare held n ty ((cs.drop o).take s) = some y := by
  intro i f hf o s ty ho hs hty
  subst ho hs hty
  have hil : i < fs.size := (Array.getElem?_eq_some_iff.1 hf).1
  exact ⟨xs[i]'(by omega), by rw [← List.getElem?_eq_getElem]; exact hg i f hf⟩
set_option maxRecDepth 100000 in
/-- A tree that is read as data can be read as a tree. -/
theorem tree_read {W : World} {base : Nat} {spare : Nat → Bool} {held : Bool} : ∀ (fuel : Nat) (cs : List Value) (y : DataW H × List MemPlace), DataW.trod enc Try.prog W base spare held fuel 28 cs = some y → ∃ t : MT, cs = nC t ∧ t.rd W := by
  intro fuel
  induction fuel using Nat.strongRecOn with
  | _ fuel ih =>
  intro cs y h
  obtain ⟨xs, n, hn, _, hl, hlen, hg⟩ := DataW.trod_struct Try.underlying28 h
  have hc : Try.prog.cellsOf 28 = 9 := by kernel_rfl
  rw [hc] at hl
  obtain ⟨c0, c1, c2, c3, c4, c5, c6, c7, c8, rfl⟩ : ∃ a b c d e f g h i, cs = [a, b, c, d, e, f, g, h, i] := by
    match cs, hl with | [a, b, c, d, e, f, g, h, i], _ => exact ⟨a, b, c, d, e, f, g, h, i, rfl⟩
  have fld := fld_of hlen hg
  obtain ⟨y0, e0⟩ := fld 0 _ rfl 0 1 22 rfl (by kernel_rfl) rfl
  obtain ⟨y1, e1⟩ := fld 1 _ rfl 1 4 25 rfl (by kernel_rfl) rfl
  obtain ⟨y2, e2⟩ := fld 2 _ rfl 5 1 3 rfl (by kernel_rfl) rfl
  obtain ⟨y3, e3⟩ := fld 3 _ rfl 6 1 3 rfl (by kernel_rfl) rfl
  obtain ⟨y4, e4⟩ := fld 4 _ rfl 7 1 3 rfl (by kernel_rfl) rfl
  obtain ⟨y5, e5⟩ := fld 5 _ rfl 8 1 26 rfl (by kernel_rfl) rfl
  obtain ⟨k, z0, _⟩ := DataW.trod_int Try.underlying22 e0
  obtain ⟨mi, z2, _⟩ := DataW.trod_int Try.underlying3 e2
  obtain ⟨ma, z3, _⟩ := DataW.trod_int Try.underlying3 e3
  obtain ⟨nu, z4, _⟩ := DataW.trod_int Try.underlying3 e4
  obtain ⟨m, ha⟩ := rd_array2 Try.underlying25 e1
  obtain ⟨x0, f0⟩ := ha 0 (by decide) 0 1 23 (by kernel_rfl) (by kernel_rfl) rfl
  obtain ⟨x1, f1⟩ := ha 1 (by decide) 1 1 23 (by kernel_rfl) (by kernel_rfl) rfl
  obtain ⟨x2, f2⟩ := ha 2 (by decide) 2 1 23 (by kernel_rfl) (by kernel_rfl) rfl
  obtain ⟨x3, f3⟩ := ha 3 (by decide) 3 1 23 (by kernel_rfl) (by kernel_rfl) rfl
  obtain ⟨a0, w0⟩ := trod_u64 f0
  obtain ⟨a1, w1⟩ := trod_u64 f1
  obtain ⟨a2, w2⟩ := trod_u64 f2
  obtain ⟨a3, w3⟩ := trod_u64 f3
  simp only [List.drop_succ_cons, List.drop_zero, List.take_succ_cons, List.take_zero, List.cons.injEq, and_true] at z0 z2 z3 z4 w0 w1 w2 w3
  subst z0 z2 z3 z4 w0 w1 w2 w3
  have key : ∃ q : List MT, rdV W c8 q ∧ rdL W q := by
    rcases DataW.trod_slice Try.underlying26 e5 with ⟨h5, _⟩ | ⟨a, len, cap, elems, rest, n', hn', h5, _, _, _, _, hel, hi, _, _⟩
    · have : c8 = .slice none 0 0 := by simpa using h5
      subst this
      exact ⟨[], ⟨none, 0, rfl, fun h => absurd h (by decide), fun h => absurd h (by decide), fun i j h => absurd h (Nat.not_lt_zero _)⟩, rdL_nil⟩
    · have : c8 = .slice (some a) len cap := by simpa using h5
      subst this
      have each : ∀ i, i < len → ∃ t : MT, (∀ j, j < 9 → W.cell? (a.add (i * 9 + j)) = (nC t)[j]?) ∧ t.rd W := by
        intro i hil
        have h6 := hi i hil
        rw [List.getElem?_eq_getElem (by omega)] at h6
        obtain ⟨cs', h7, h8⟩ := Option.bind_eq_some_iff.1 h6
        obtain ⟨t, rfl, ht⟩ := ih n' (by omega) cs' _ h8
        rw [hc] at h7
        obtain ⟨_, _, h9⟩ := World.cells?_some h7
        refine ⟨t, fun j hj => ?_, ht⟩
        have := h9 j (by omega)
        rw [Addr.add_add] at this
        exact this
      refine ⟨(List.range len).map fun i => if hlt : i < len then Classical.choose (each i hlt) else zMT, ⟨some a, cap, by simp, fun _ => rfl, fun h0 => ?_, fun i j hi' hj => ?_⟩, ?_⟩
      · have h1 := (Classical.choose_spec (each 0 (by simpa using h0))).1 0 (by decide)
        rw [List.getElem?_eq_getElem (by rw [nC_len]; decide)] at h1
        have := block_lt_of_cell h1
        rwa [block_add] at this
      · have hil : i < len := by simpa using hi'
        have h1 := (Classical.choose_spec (each i hil)).1 j hj
        rw [Option.getD_some, h1, List.getElem?_eq_getElem (by rw [nC_len]; exact hj)]
        have e : (List.map (fun i => if hlt : i < len then Classical.choose (each i hlt) else zMT) (List.range len)).getD i default = Classical.choose (each i hil) := by
          rw [List.getD_eq_getElem?_getD, List.getElem?_map, List.getElem?_range hil]
          simp [hil]
        rw [e, List.getElem?_eq_getElem (by rw [nC_len]; exact hj)]; rfl
      · have all : ∀ q : List MT, (∀ t ∈ q, t.rd W) → rdL W q := by
          intro q
          induction q with
          | nil => intro _; exact rdL_nil
          | cons t q ihq => intro hq; exact rdL_cons.2 ⟨hq t (List.mem_cons_self ..), ihq fun u hu => hq u (List.mem_cons_of_mem _ hu)⟩
        refine all _ fun t ht => ?_
        obtain ⟨i, hi', rfl⟩ := List.mem_map.1 ht
        rw [dif_pos (List.mem_range.1 hi')]
        exact (Classical.choose_spec (each i (List.mem_range.1 hi'))).2
  obtain ⟨q, hq1, hq2⟩ := key
  exact ⟨.mk k (fun j => if j = 0 then a0 else if j = 1 then a1 else if j = 2 then a2 else a3) mi ma nu c8 q, rfl, rd_mk.2 ⟨hq1, hq2⟩⟩
set_option maxRecDepth 100000 in
theorem rd_tree {r : Reach} {b0 base : Nat} {spare : Nat → Bool} {held : Bool} {W : World} {v : Value} {d : DataW H} {p : List MemPlace} (hv : Value.okWide Try.prog W r b0 28 v) (h : DataW.Trod enc Try.prog W base spare held 28 v d p) : ∃ t : MT, v = .agg (nC t).toArray ∧ t.rd W := by
  obtain ⟨cs, rfl, hsz⟩ := okWide_struct Try.underlying28 hv
  obtain ⟨fuel, hf⟩ := h
  obtain ⟨t, h1, h2⟩ := tree_read fuel _ _ hf
  refine ⟨t, ?_, h2⟩
  have h3 : cs.toList = nC t := h1
  rw [← h3]
end
/-! ### few -/
theorem wL_take2 {q : List MT} {i : Nat} {u : MT} (h : q[i]? = some u) : wL (q.take (i + 1)) = wL (q.take i) + wT u := by
  rw [List.take_add_one, h, wL_app]
  show _ + wL [u] = _
  rw [wL_one]
theorem wT_pos (t : MT) : 1 ≤ wT t := by cases t; rw [wT_mk]; omega

set_option maxRecDepth 100000 in
theorem count_any (k : Int) (s : Nat → Int) (nmi nma nnu : Int) (pq : Option Addr) (cq : Nat) (q : List MT) (lim : Int) (hl1 : 1 ≤ lim) (hl2 : lim ≤ 1000) (ih : ∀ u, u ∈ q → ∀ (lim : Int), 1 ≤ lim → lim ≤ 1000 → ∀ w, u.rd w → Calls Try.prog 32 #[.agg (nC u).toArray, .int .i64 lim] w fun e w' => e = .returned (.int .i64 (min (wT u : Int) lim)) ∧ Below w.heap.size w w') (w : World) (hok : MT.rd w (MT.mk k s nmi nma nnu (Value.slice pq q.length cq) q)) :
    Calls Try.prog 32 #[.agg (nC (MT.mk k s nmi nma nnu (Value.slice pq q.length cq) q)).toArray, .int .i64 lim] w fun e w' => e = .returned (.int .i64 (min (wT (MT.mk k s nmi nma nnu (Value.slice pq q.length cq) q) : Int) lim)) ∧ Below w.heap.size w w' := by
 obtain ⟨hrq, _, hqk⟩ := rd_facts (F := []) hok (fun _ _ => List.not_mem_nil)
 have hmax : maxLen = 9223372036854775807 := rfl
 have hwq := wT_mk (k := k) (s := s) (mi := nmi) (ma := nma) (nu := nnu) (v := .slice pq q.length cq) (q := q)
 refine fn_intro Try.func32 rfl Try.ntmps32 rfl rfl ?_
 refine s_ (o_ ?_)
 refine g_box rfl rfl rfl rfl (fun b1 => ?_)
 refine xg 1 [] rfl rfl ?_
 refine ntso_ ?_
 refine xg 1 [] rfl rfl ?_
 refine n_ (t_ (s_ (s_ (o_ ?_))))
 refine xg 1 [] rfl rfl ?_
 refine n_ (t_ (g_block ?_))
 refine g_loop (α := {x : Nat × Int // x.1 ≤ q.length ∧ x.2 = min (1 + wL (q.take x.1) : Int) lim}) (fun x => [(1, .int .i64 lim), (2, .pointer (some ⟨b1, 0, none⟩)), (5, .int .i64 x.1.2), (6, .int .i64 (x.1.1 : Int))]) (fun x => St w [] [.cells b1 28 (nC (MT.mk k s nmi nma nnu (Value.slice pq q.length cq) q))]) (fun x => q.length - x.1.1) ⟨(0, 1), Nat.zero_le _, by show (1 : Int) = min (1 + ((wL (q.take 0) : Nat) : Int)) lim; rw [List.take_zero, wL]; omega⟩ [1, 2, 5, 6] rfl (fun w h => h.pick [0] rfl) ?_
 rintro ⟨⟨i, c⟩, hi, hc⟩
 dsimp only
 dsimp only at hi hc
 have hil : i ≤ wL (q.take i) := by
   have := wL_len (q.take i); rw [List.length_take] at this; omega
 refine s_ (s_ (o_ ?_))
 refine xg 3 [0] rfl (by omega) ?_
 refine g_val (v := .int .i64 ((q.length : Nat) : Int)) rfl rfl rfl (y_llen rfl Try.underlying26) ?_
 refine xg 2 [0] rfl rfl ?_
 refine g_casep 12 rfl (fun h1 => ?_) fun h1 => ?_
 ·refine xg 4 [0] rfl rfl ?_
  refine n_ (t_ ?_)
  refine g_casep 16 rfl (fun h2 => ?_) fun h2 => ?_
  ·refine g_cond_t rfl (g_skip (t_ (s_ (g_block (o_ ?_)))))
   refine xg 4 [0] rfl (by omega) ?_
   refine g_val rfl rfl rfl (y_rdAddr hrq rfl rfl Try.underlying26 Try.sizeOf28 (by omega) (by omega)) ?_
   obtain ⟨u, hu⟩ : ∃ u, q[i]? = some u := ⟨_, List.getElem?_eq_getElem (by omega)⟩
   have huk := (hqk i u hu).1
   have hupos := wT_pos u
   have hnx := wL_take2 hu
   refine g_val (v := .agg (nC u).toArray) rfl rfl rfl (y_rdAggF (i := (i : Int)) (vs := nC u) hrq List.not_mem_nil rfl Try.isAgg28 Try.sizeOf28 (by omega) (by omega) (nC_len _) (fun jj hjj => by rw [Int.toNat_natCast, List.getD_eq_getElem?_getD, hu]; rw [Option.getD_some, List.getElem?_eq_getElem (show jj < (nC u).length by rw [nC_len]; exact hjj)]; rfl)) ?_
   refine xg 3 [] rfl (by omega) ?_
   refine g_call1 (v := .int .i64 (min (wT u : Int) (lim - c))) rfl rfl rfl Try.call32 (fun w1 hS => ih u (List.mem_of_getElem? hu) (lim - c) (by omega) (by omega) w1 (hS.okOf huk (fun _ _ => List.not_mem_nil))) ?_
   refine xg 2 [] rfl (by omega) ?_
   refine n_ (g_in_normal (t_ (o_ ?_)))
   refine xg 3 [] rfl (by omega) ?_
   refine n_ ?_
   exact g_again ⟨(i + 1, c + min (wT u : Int) (lim - c)), by dsimp only; omega, by dsimp only; omega⟩ [1, 2, 5, 6] (by dsimp only; omega) rfl (fun w h => h.pick [0] rfl)
  refine g_cond_f rfl (g_exit (g_then_exit (g_then_exit (g_in_exit (t_ (s_ (o_ ?_)))))))
  refine xg 2 [] rfl rfl ?_
  refine n_ (t_ (g_ret ?_))
  refine g_end1 Try.results32 rfl ?_
  have htk : wL (q.take i) ≤ wL q := wL_take i
  have htl : i = q.length → wL (q.take i) = wL q := fun h => by rw [h, List.take_length]
  rw [show min ((wT (MT.mk k s nmi nma nnu (Value.slice pq q.length cq) q) : Nat) : Int) lim = c by omega]
  exact fun w hS => ⟨rfl, hS.below⟩
 refine xg 4 [] rfl rfl ?_
 refine n_ (t_ (g_cond_f rfl (g_exit (g_then_exit (g_then_exit (g_in_exit (t_ (s_ (o_ ?_)))))))))
 refine xg 2 [] rfl rfl ?_
 refine n_ (t_ (g_ret ?_))
 refine g_end1 Try.results32 rfl ?_
 have htk : wL (q.take i) ≤ wL q := wL_take i
 have htl : i = q.length → wL (q.take i) = wL q := fun h => by rw [h, List.take_length]
 rw [show min ((wT (MT.mk k s nmi nma nnu (Value.slice pq q.length cq) q) : Nat) : Int) lim = c by omega]
 exact fun w hS => ⟨rfl, hS.below⟩

theorem count_t : ∀ (D : Nat) (t : MT), wT t ≤ D → ∀ (lim : Int), 1 ≤ lim → lim ≤ 1000 → ∀ w, t.rd w → Calls Try.prog 32 #[.agg (nC t).toArray, .int .i64 lim] w fun e w' => e = .returned (.int .i64 (min (wT t : Int) lim)) ∧ Below w.heap.size w w' := by
  intro D
  induction D with
  | zero => intro t h; have := wT_pos t; omega
  | succ D ihD =>
    intro t hD lim h1 h2 w hok
    obtain ⟨k, s, mi, ma, nu, p, c, q, rfl⟩ := rd_v hok
    rw [wT_mk] at hD
    exact count_any k s mi ma nu p c q lim h1 h2 (fun u hu => ihD u (by have := wT_mem hu; omega)) w hok

set_option maxRecDepth 100000 in
theorem few_any (t : MT) (w : World) (hok : t.rd w) :
    Calls Try.prog 19 #[.agg (nC t).toArray] w fun e w' => e = .returned (.bool (decide ((wT t : Int) ≤ 30))) ∧ Below w.heap.size w w' := by
 obtain ⟨k, s, mi, ma, nu, p, c, q, rfl⟩ := rd_v hok
 refine fn_intro Try.func19 rfl Try.ntmps19 rfl rfl ?_
 refine s_ (o_ ?_)
 refine g_box rfl rfl rfl rfl (fun b1 => ?_)
 refine xg 1 [] rfl rfl ?_
 refine ntso_ ?_
 refine xg 1 [0] rfl (by omega) ?_
 refine g_call1 (v := .int .i64 (min (wT (.mk k s mi ma nu (.slice p q.length c) q) : Int) 31)) rfl rfl rfl Try.call32 (fun w1 hS => count_t _ _ (Nat.le_refl _) 31 (by decide) (by decide) w1 (hS.okOf hok (fun _ _ => List.not_mem_nil))) ?_
 refine xg 2 [0] rfl rfl ?_
 refine n_ (t_ (g_ret ?_))
 refine g_end1 Try.results19 rfl ?_
 rw [show decide ((wT (.mk k s mi ma nu (.slice p q.length c) q) : Int) ≤ 30) = decide (min (wT (.mk k s mi ma nu (.slice p q.length c) q) : Int) 31 ≤ 30) by congr 1; apply propext; omega]
 exact fun w hS => ⟨rfl, hS.below⟩

theorem m_few (t : MT) : Meets Try.prog (fun w => t.rd w) 19 [.agg (nC t).toArray] (fun _ : Unit => .bool (decide ((wT t : Int) ≤ 30))) [] (fun _ => []) := meets1 Try.call19 (fun w hI => few_any t w hI)
end Go.Proofs.Ytfcamlkbkehlnaa

/- MatchPlain. -/
namespace Go.Proofs.Ytfcamlkbkehlnaa
open Go Go.RowKit

theorem st8_mid (a b : Nat) (l : List UInt8) : (⟨l.toArray⟩ : ByteArray).extract a b = ⟨((l.drop a).take (b - a)).toArray⟩ := by
  apply ByteArray.ext
  show ((⟨l.toArray⟩ : ByteArray).extract a b).data = _
  rw [ByteArray.data_extract]
  simp
theorem occ_iff {l p : List UInt8} {i n : Nat} : (⟨l.toArray⟩ : ByteArray).extract (i : Int).toNat ((i : Int) + (n : Int)).toNat = ⟨p.toArray⟩ ↔ (l.drop i).take n = p := by
  rw [st8_mid, show ((i : Int) + (n : Int)).toNat - (i : Int).toNat = n by omega, Int.toNat_natCast]
  constructor
  · intro h; injection h with h; exact List.toArray_inj h
  · intro h; rw [h]
def plP (p : List UInt8) (m : Nat) : Prop := ∃ c, p[m]? = some c ∧ ((97 ≤ c.toNat ∧ c.toNat ≤ 122) ∨ (48 ≤ c.toNat ∧ c.toNat ≤ 57))
theorem plP_all {p : List UInt8} (h : ∀ m, 0 ≤ m → m < p.length → plP p m) : ∀ c, c ∈ p → plainC c := fun c hc => by
  obtain ⟨m, hm, rfl⟩ := List.mem_iff_getElem.1 hc
  obtain ⟨c, h1, h2⟩ := h m (Nat.zero_le _) hm
  rw [List.getElem?_eq_getElem hm] at h1
  cases h1
  unfold plainC
  rcases h2 with h2 | h2
  · exact .inl h2
  · exact .inr (.inr h2)
def occ (l p : List UInt8) (i : Nat) : Prop := (l.drop i).take p.length = p
theorem occ_le {l p : List UInt8} {i : Nat} (h : occ l p i) : i + p.length ≤ l.length ∨ p = [] := by
  unfold occ at h
  have := congrArg List.length h
  rw [List.length_take, List.length_drop] at this
  cases p with
  | nil => exact .inr rfl
  | cons c p => left; simp only [List.length_cons] at this ⊢; omega
theorem mRow_plain {x : Tx} : ∀ (p : List UInt8) {i j : Nat}, i ≤ x.n → (mRow x (p.map oneM) i j = true ↔ j = i + p.length ∧ occ x.l p i)
  | [], i, j, hi => by rw [List.map_nil, mRow_nil]; unfold occ; simp
  | c :: p, i, j, hi => by
    rw [List.map_cons, mRow_two]
    constructor
    · rintro ⟨k, h1, h2, h3, h4⟩
      rw [mM_one] at h3
      simp only [Bool.and_eq_true, decide_eq_true_eq] at h3
      obtain ⟨rfl, h3⟩ := h3
      obtain ⟨rfl, h5⟩ := (mRow_plain p h1).1 h4
      refine ⟨by rw [List.length_cons]; omega, ?_⟩
      unfold occ at *
      have hlt := (List.getElem?_eq_some_iff.1 h3)
      rw [List.drop_eq_getElem_cons hlt.1, List.length_cons, List.take_succ_cons, h5, hlt.2]
    · rintro ⟨rfl, h⟩
      unfold occ at h
      cases hd : x.l.drop i with
      | nil => rw [hd] at h; cases h
      | cons d r =>
        rw [hd, List.length_cons, List.take_succ_cons] at h
        injection h with h1 h2
        subst h1
        have h3 : x.l[i]? = some d := by
          have := congrArg (·[0]?) hd
          simpa using this
        have h4 : x.l.drop (i + 1) = r := by rw [← List.drop_drop, hd]; rfl
        have h5 := one_in i h3
        exact ⟨i + 1, by omega, by omega, by rw [mM_one]; simp [h3], (mRow_plain p (by omega)).2 ⟨by rw [List.length_cons]; omega, by unfold occ; rw [h4]; exact h2⟩⟩
theorem ngL_one : ∀ (p : List UInt8), ngL (p.map oneM)
  | [] => ngL_nil
  | c :: p => ngL_cons.2 ⟨ng_one c, ngL_one p⟩
/-- What a plain text is parsed to finds that text. -/
theorem plain_mM {ext : Bool} {p : List UInt8} {t : MT × Int} (h : parX ext p t) (hp : ∀ c, c ∈ p → plainC c) (h1 : 1 ≤ p.length) (h2 : p.length ≤ 20) : t.2 = 0 ∧ ngT t.1 ∧ ∀ (x : Tx) (i j : Nat), i ≤ x.n → (mM x t.1 i j = true ↔ j = i + p.length ∧ occ x.l p i) := by
  have hne : p ≠ [] := fun e => by subst e; exact absurd h1 (by decide)
  have h3 : parR (tokX ext) p t := parX_R (fun c hc => plain_ok (hp c hc)) h
  have h4 := parse_plain (f := tokX ext) (fun c ts d hc => by cases ext; exact tokB_plain hc ts d; exact tokE_plain hc ts d) hp hne (by omega) h3
  rcases h4 with ⟨h0, ⟨c, rfl, h5⟩ | ⟨_, v, h5⟩⟩
  · refine ⟨h0, by rw [h5]; exact ng_one c, fun x i j hi => ?_⟩
    have := mRow_plain (x := x) [c] (j := j) hi
    rw [List.map_cons, List.map_nil, mRow_one hi] at this
    rw [h5]; exact this
  · refine ⟨h0, by rw [h5]; exact ngT_mk.2 ⟨by decide, ngL_one p⟩, fun x i j hi => ?_⟩
    rw [h5, mM_mk, if_neg (by decide), if_neg (by decide), if_neg (by decide), if_pos rfl]
    exact mRow_plain p hi
theorem occ_at {l p : List UInt8} {i : Nat} {z : Int} (h : (z = -1 ∧ (∀ m, m < i → ¬ occ l p m)) ∨ (∃ a : Nat, z = a ∧ a + p.length ≤ l.length ∧ occ l p a ∧ (∀ m, m < a → ¬ occ l p m))) (hz : z < 0) : z = -1 ∧ ∀ m, m < i → ¬ occ l p m := by
  rcases h with h | ⟨a, h, _⟩
  · exact h
  · omega
theorem occ_next {l p : List UInt8} {i : Nat} (h0 : ∀ m, m < i → ¬ occ l p m) (h : ¬ (⟨l.toArray⟩ : ByteArray).extract (i : Int).toNat ((i : Int) + (p.length : Int)).toNat = ⟨p.toArray⟩) : ∀ m, m < i + 1 → ¬ occ l p m := fun m hm hh => by
  by_cases e : m = i
  · subst e; exact h (occ_iff.2 hh)
  · exact h0 m (by omega) hh
theorem occ_stop {l p : List UInt8} {i : Nat} {z : Int} (h : (z = -1 ∧ (∀ m, m < i → ¬ occ l p m)) ∨ (∃ a : Nat, z = a ∧ a + p.length ≤ l.length ∧ occ l p a ∧ (∀ m, m < a → ¬ occ l p m))) (hp : 1 ≤ p.length) (hi : z < 0 → l.length < i + p.length) : (z = -1 ∧ (∀ m, ¬ occ l p m)) ∨ (∃ a : Nat, z = a ∧ a + p.length ≤ l.length ∧ occ l p a ∧ (∀ m, m < a → ¬ occ l p m)) := by
  rcases h with ⟨h1, h2⟩ | h
  · refine .inl ⟨h1, fun m hm => ?_⟩
    by_cases e : m < i
    · exact h2 m e hm
    · have := hi (by omega)
      rcases occ_le hm with q | q
      · omega
      · subst q; exact absurd hp (by decide)
  · exact .inr h
theorem plain_none {l p : List UInt8} {t : MT} (ht : ∀ (x : Tx) (i j : Nat), i ≤ x.n → (mM x t i j = true ↔ j = i + p.length ∧ occ x.l p i)) (h : ∀ m, ¬ occ l p m) : findR ⟨l, false⟩ t 0 = (m0, false) :=
  findR_no (f := 0) fun a b _ ha => false_of fun hm => h a ((ht ⟨l, false⟩ a b ha).1 hm).2
theorem plain_some {l p : List UInt8} {t : MT} {a : Nat} (hng : ngT t) (ht : ∀ (x : Tx) (i j : Nat), i ≤ x.n → (mM x t i j = true ↔ j = i + p.length ∧ occ x.l p i)) (hn : l.length ≤ 60) (ha : a + p.length ≤ l.length) (h1 : occ l p a) (h0 : ∀ m, m < a → ¬ occ l p m) : findR ⟨l, false⟩ t 0 = (setS mN 0 ((a : Int), ((a + p.length : Nat) : Int)), true) := by
  have hx : ∀ b, b ≤ l.length → b ≤ Tx.n ⟨l, false⟩ := fun b h => h
  rw [show (0 : Int) = ((0 : Nat) : Int) from rfl, findR_yes (x := ⟨l, false⟩) (t := t) (f := 0) (i := a) (j := a + p.length) (show l.length ≤ 1024 by omega) ⟨Nat.zero_le _, hx a (by omega), (ht ⟨l, false⟩ a _ (hx a (by omega))).2 ⟨rfl, h1⟩, fun b c _ hb => false_of fun hm => h0 b hb ((ht ⟨l, false⟩ b c (hx b (by omega))).1 hm).2, fun c hc => false_of fun hm => ?_⟩, gM_ng t _ _ _ hng]
  have := ((ht ⟨l, false⟩ a c (hx a (by omega))).1 hm).1; omega

set_option maxRecDepth 100000 in
theorem mplain_any (p l : List UInt8) (ext : Bool) (hp : p.length ≤ maxLen) (hl : l.length ≤ maxLen) (w : World) (hz : MaxHere w) :
    Calls Try.prog 5 #[st8 p, st8 l, .bool ext] w fun e w' => e = .returned (.bool true) ∧ Below w.heap.size w w' := by
 have hmax : maxLen = 9223372036854775807 := rfl
 have hsl := size_mk l
 have hsp := size_mk p
 refine fn_intro Try.func5 rfl Try.ntmps5 rfl rfl ?_
 refine s_ ?_
 cases ext
 ·refine o_ ?_
  refine xg 1 [] rfl rfl ?_
  refine ntso_ ?_
  refine xg 2 [] rfl rfl ?_
  refine g_callNew (fun x : {x : MT × Int // parX false p x} => .tuple #[.agg (nC x.1.1).toArray, .int .i64 x.1.2]) (fun x => [.forest [x.1.1]]) rfl rfl rfl Try.call16 (fun w hS => parse_xb p w (hS.maxHere hz (by simp))) ?_
  rintro ⟨⟨t, ern⟩, hpar⟩
  obtain ⟨nk, ns, nm, nx, nu, nv, nq⟩ := t
  refine g_kids 0 rfl (fun pv cv hv => ?_)
  cases hv
  dsimp only
  simp only [List.cons_append, List.nil_append]
  refine xg 3 [] rfl rfl ?_
  refine g_alloc rfl rfl Try.zeroValue28 rfl (fun b1 => ?_)
  refine xg 2 [0] rfl (by omega) ?_
  refine ntso_ ?_
  refine xg 1 [] rfl rfl ?_
  refine g_val (v := .int .i64 (p.length : Int)) rfl rfl rfl (y_val (y_slen rfl Try.underlying9) (by rw [size_mk])) ?_
  refine xg 2 [0] rfl rfl ?_
  refine g_casep 24 rfl (fun h1 => ?_) fun h1 => ?_
  ·refine xg 1 [] rfl rfl ?_
   refine g_val (v := .int .i64 (p.length : Int)) rfl rfl rfl (y_val (y_slen rfl Try.underlying9) (by rw [size_mk])) ?_
   refine xg 3 [0] rfl rfl ?_
   refine g_casep 29 rfl (fun h2 => ?_) fun h2 => ?_
   ·refine xg 1 [] rfl rfl ?_
    refine g_val (v := .int .i64 (l.length : Int)) rfl rfl rfl (y_val (y_slen rfl Try.underlying9) (by rw [size_mk])) ?_
    refine xg 3 [0] rfl rfl ?_
    refine n_ (t_ (s_ (s_ ?_)))
    refine g_casep 9 rfl (fun h9 => ?_) fun h9 => ?_
    ·refine o_ ?_
     refine xg 1 [] rfl rfl ?_
     refine n_ (t_ ?_)
     refine g_cutc (α := {x : Bool // x = true → (1 ≤ p.length ∧ p.length ≤ 20 ∧ l.length ≤ 60) ∧ (∀ m, 0 ≤ m → m < p.length → plP p m)}) (fun x => [(0, st8 p), (1, st8 l), (7, .pointer (some ⟨b1, 0, none⟩)), (8, .int .i64 ern), (9, .bool x.1)]) (fun x => [.cells b1 28 (nC (.mk nk ns nm nx nu (.slice pv nq.length cv) nq)), .forest [(.mk nk ns nm nx nu (.slice pv nq.length cv) nq)]]) ?_ ?_
     ·rintro ⟨b, gx⟩
      try dsimp only
      refine t_ (s_ (s_ (o_ ?_)))
      refine xg 2 [] rfl rfl ?_
      refine n_ (t_ ?_)
      first | refine g_casep 66 rfl (fun h3 => ?_) fun h3 => ?_ | refine g_caseb 66 rfl (fun h3 => ?_) fun h3 => ?_
      ·refine g_cond_t rfl (s_ (o_ ?_))
       refine g_call1 rfl rfl rfl Try.call13 (fun w hS => alive_any w (hS.maxHere hz (by simp))) ?_
       refine xg 1 [] rfl rfl ?_
       refine n_ (t_ (g_ret (g_then_ret ?_)))
       refine g_end1 Try.results5 rfl ?_
       exact fun w hS => ⟨rfl, hS.below⟩
      refine g_cond_f rfl (g_skip (t_ (s_ ?_)))
      obtain ⟨hcn, hall⟩ := gx (by simpa using ‹(!b) = false›)
      obtain ⟨h0, hng, htm⟩ := plain_mM hpar (plP_all hall) hcn.1 hcn.2.1
      dsimp only at h0 hng htm
      subst h0
      refine o_ ?_
      refine xg 1 [] rfl rfl ?_
      refine n_ (t_ (s_ (s_ (o_ ?_))))
      refine xg 1 [] rfl rfl ?_
      refine n_ (t_ ?_)
      refine g_cutc (α := {x : Int // (x = -1 ∧ (∀ m, ¬ occ l p m)) ∨ (∃ a : Nat, x = a ∧ a + p.length ≤ l.length ∧ occ l p a ∧ (∀ m, m < a → ¬ occ l p m))}) (fun x => [(0, st8 p), (1, st8 l), (7, .pointer (some ⟨b1, 0, none⟩)), (8, .int .i64 0), (11, .int .i64 x.1)]) (fun x => [.cells b1 28 (nC (.mk nk ns nm nx nu (.slice pv nq.length cv) nq)), .forest [(.mk nk ns nm nx nu (.slice pv nq.length cv) nq)]]) ?_ ?_
      ·rintro ⟨at_, gx⟩
       try dsimp only
       refine t_ (s_ ?_)
       rcases gx with ⟨rfl, hno⟩ | ⟨a, rfl, ha1, ha2, ha3⟩
       ·refine o_ ?_
        refine xg 2 [0] rfl (by omega) ?_
        refine g_c1 (m_find ⟨l, false⟩ (.mk nk ns nm nx nu (.slice pv nq.length cv) nq) 0 (by show l.length ≤ _; omega) (by have := parX_size hpar; dsimp only at this; omega)) (fun w hS => forest_rd hS (i := 1) rfl) rfl rfl rfl ?_
        rw [plain_none htm hno, sp_none]
        refine xg 3 [] rfl rfl ?_
        refine g_alloc rfl rfl Try.zeroValue36 rfl (fun b2 => ?_)
        refine xg 2 [0] rfl (by omega) ?_
        refine n_ (t_ (s_ (s_ (o_ ?_))))
        refine xg 2 [1] rfl (by omega) ?_
        refine n_ (t_ (g_cond_t rfl (s_ (o_ ?_))))
        refine g_call1 rfl rfl rfl Try.call13 (fun w hS => alive_any w (hS.maxHere hz (by simp))) ?_
        refine xg 9 [1] rfl (by omega) ?_
        refine n_ (t_ (g_ret (g_then_ret ?_)))
        refine g_end1 Try.results5 rfl ?_
        exact fun w hS => ⟨rfl, hS.below⟩
       refine o_ ?_
       refine xg 2 [0] rfl (by omega) ?_
       refine g_c1 (m_find ⟨l, false⟩ (.mk nk ns nm nx nu (.slice pv nq.length cv) nq) 0 (by show l.length ≤ _; omega) (by have := parX_size hpar; dsimp only at this; omega)) (fun w hS => forest_rd hS (i := 1) rfl) rfl rfl rfl ?_
       rw [plain_some hng htm hcn.2.2 ha1 ha2 ha3, sp_found]
       refine xg 3 [] rfl rfl ?_
       refine g_alloc rfl rfl Try.zeroValue36 rfl (fun b3 => ?_)
       refine xg 2 [0] rfl (by omega) ?_
       refine n_ (t_ (s_ (s_ (o_ ?_))))
       refine xg 2 [2] rfl (by omega) ?_
       refine n_ (t_ (g_cond_f rfl (g_skip (t_ (s_ (o_ ?_))))))
       refine g_call1 rfl rfl rfl Try.call13 (fun w hS => alive_any w (hS.maxHere hz (by simp))) ?_
       refine xg 20 [1,0,1,0] rfl (by omega) ?_
       refine g_val (v := .int .i64 (p.length : Int)) rfl rfl rfl (y_val (y_slen rfl Try.underlying9) (by rw [size_mk])) ?_
       refine xg 10 [1,0,1] rfl (by omega) ?_
       refine n_ (t_ (g_ret ?_))
       refine g_end1 Try.results5 rfl ?_
       exact fun w hS => ⟨rfl, hS.below⟩
      intro hj
      refine g_block ?_
      refine g_loop (α := {x : Nat × Int // x.1 ≤ l.length + 1 ∧ ((x.2 = -1 ∧ (∀ m, m < x.1 → ¬ occ l p m)) ∨ (∃ a : Nat, x.2 = a ∧ a + p.length ≤ l.length ∧ occ l p a ∧ (∀ m, m < a → ¬ occ l p m)))}) (fun x => [(0, st8 p), (1, st8 l), (7, .pointer (some ⟨b1, 0, none⟩)), (8, .int .i64 0), (11, .int .i64 x.1.2), (12, .int .i64 (x.1.1 : Int))]) (fun x => St w [] [.cells b1 28 (nC (.mk nk ns nm nx nu (.slice pv nq.length cv) nq)), .forest [(.mk nk ns nm nx nu (.slice pv nq.length cv) nq)]]) (fun x => l.length + 1 - x.1.1) ⟨(0, -1), Nat.zero_le _, .inl ⟨rfl, fun m h => by omega⟩⟩ [0, 1, 7, 8, 11, 12] rfl (fun w h => h.pick [0,0] rfl) ?_
      rintro ⟨⟨i, at_⟩, gi, gx⟩
      dsimp only
      dsimp only at gi gx
      refine s_ (s_ (o_ ?_))
      refine xg 3 [0] rfl rfl ?_
      refine g_casep 70 rfl (fun h4 => ?_) fun h4 => ?_
      ·refine xg 2 [] rfl rfl ?_
       refine g_val (v := .int .i64 (p.length : Int)) rfl rfl rfl (y_val (y_slen rfl Try.underlying9) (by rw [size_mk])) ?_
       refine xg 2 [] rfl (by omega) ?_
       refine g_val (v := .int .i64 (l.length : Int)) rfl rfl rfl (y_val (y_slen rfl Try.underlying9) (by rw [size_mk])) ?_
       refine xg 2 [0] rfl rfl ?_
       refine n_ (t_ ?_)
       refine g_casep 78 rfl (fun h5 => ?_) fun h5 => ?_
       ·refine g_cond_t rfl (g_skip (t_ (s_ (g_block (s_ ?_)))))
        obtain ⟨rfl, gx0⟩ := occ_at gx (by omega)
        refine o_ ?_
        refine xg 4 [] rfl rfl ?_
        refine g_val (v := .int .i64 (p.length : Int)) rfl rfl rfl (y_val (y_slen rfl Try.underlying9) (by rw [size_mk])) ?_
        refine xg 4 [] rfl (by omega) ?_
        refine n_ (t_ ?_)
        refine g_casep 89 rfl (fun h6 => ?_) fun h6 => ?_
        ·refine g_cond_t rfl (o_ ?_)
         refine xg 2 [] rfl rfl ?_
         refine n_ (g_in_normal (t_ (o_ ?_)))
         refine xg 3 [] rfl (by omega) ?_
         refine n_ ?_
         exact g_again ⟨(i + 1, (i : Int)), by dsimp only; omega, .inr ⟨i, rfl, by omega, occ_iff.1 (by assumption), gx0⟩⟩ [0, 1, 7, 8, 11, 12] (by dsimp only; omega) rfl (fun w h => h.pick [0,0] rfl)
        refine g_cond_f rfl (g_skip (g_in_normal (t_ (o_ ?_))))
        refine xg 3 [] rfl (by omega) ?_
        refine n_ ?_
        exact g_again ⟨(i + 1, -1), by dsimp only; omega, .inl ⟨rfl, occ_next gx0 (by assumption)⟩⟩ [0, 1, 7, 8, 11, 12] (by dsimp only; omega) rfl (fun w h => h.pick [0,0] rfl)
       refine g_cond_f rfl (g_exit (g_then_exit (g_then_exit (g_in_exit ?_))))
       exact g_fall (hj ⟨at_, occ_stop gx hcn.1 (fun _ => by omega)⟩) [0, 1, 7, 8, 11] rfl (fun w h => h.pick [0,0] rfl)
      refine xg 8 [] rfl rfl ?_
      refine n_ (t_ (g_cond_f rfl (g_exit (g_then_exit (g_then_exit (g_in_exit ?_))))))
      exact g_fall (hj ⟨at_, occ_stop gx hcn.1 (fun _ => by omega)⟩) [0, 1, 7, 8, 11] rfl (fun w h => h.pick [0,0] rfl)
     intro hj
     refine g_block ?_
     refine g_loop (α := {x : Nat × Bool // x.1 ≤ p.length ∧ (x.2 = true → (1 ≤ p.length ∧ p.length ≤ 20 ∧ l.length ≤ 60) ∧ (∀ m, 0 ≤ m → m < x.1 → plP p m))}) (fun x => [(0, st8 p), (1, st8 l), (7, .pointer (some ⟨b1, 0, none⟩)), (8, .int .i64 ern), (9, .bool x.1.2), (10, .int .i64 (x.1.1 : Int))]) (fun x => St w [] [.cells b1 28 (nC (.mk nk ns nm nx nu (.slice pv nq.length cv) nq)), .forest [(.mk nk ns nm nx nu (.slice pv nq.length cv) nq)]]) (fun x => p.length - x.1.1) ⟨(0, true), Nat.zero_le _, fun _ => ⟨by omega, fun m h1 h2 => by omega⟩⟩ [0, 1, 7, 8, 9, 10] rfl (fun w h => h.pick [0,0] rfl) ?_
     rintro ⟨⟨i, b⟩, gi, gx⟩
     dsimp only
     dsimp only at gi gx
     refine s_ (s_ (o_ ?_))
     refine xg 2 [] rfl rfl ?_
     refine g_val (v := .int .i64 (p.length : Int)) rfl rfl rfl (y_val (y_slen rfl Try.underlying9) (by rw [size_mk])) ?_
     refine xg 2 [0] rfl rfl ?_
     refine g_casep 38 rfl (fun h7 => ?_) fun h7 => ?_
     ·refine xg 2 [] rfl rfl ?_
      refine n_ (t_ ?_)
      refine g_caseb 40 rfl (fun h8 => ?_) fun h8 => ?_
      ·refine g_cond_t rfl (g_skip (t_ (s_ (g_block (o_ ?_)))))
       refine xg 2 [] rfl rfl ?_
       obtain ⟨ch, hch, hch8⟩ := st8_get (l := p) (i := i) (by omega)
       refine g_val rfl rfl rfl (y_sidx (i := i) rfl rfl Try.underlying9 hch8) ?_
       refine xg 2 [0] rfl rfl ?_
       refine g_casep 47 rfl (fun h9 => ?_) fun h9 => ?_
       ·refine xg 2 [] rfl rfl ?_
        refine g_val rfl rfl rfl (y_sidx (i := i) rfl rfl Try.underlying9 hch8) ?_
        refine xg 3 [0] rfl rfl ?_
        refine g_casep 53 rfl (fun h10 => ?_) fun h10 => ?_
        ·refine xg 12 [] rfl rfl ?_
         refine n_ (g_in_normal (t_ (o_ ?_)))
         refine xg 3 [] rfl (by omega) ?_
         refine n_ ?_
         exact g_again ⟨(i + 1, true), by dsimp only; omega, fun _ => ⟨(gx (by assumption)).1, run_more (l := p) (P := plP p) (gx (by assumption)).2 ⟨ch, hch, by omega⟩⟩⟩ [0, 1, 7, 8, 9, 10] (by dsimp only; omega) rfl (fun w h => h.pick [0,0] rfl)
        refine xg 2 [] rfl rfl ?_
        refine g_val rfl rfl rfl (y_sidx (i := i) rfl rfl Try.underlying9 hch8) ?_
        refine xg 2 [0] rfl rfl ?_
        refine g_casep 58 rfl (fun h11 => ?_) fun h11 => ?_
        ·refine xg 2 [] rfl rfl ?_
         refine g_val rfl rfl rfl (y_sidx (i := i) rfl rfl Try.underlying9 hch8) ?_
         refine xg 4 [0] rfl rfl ?_
         refine n_ (g_in_normal (t_ (o_ ?_)))
         refine xg 3 [] rfl (by omega) ?_
         refine n_ ?_
         first | refine g_casep 9 rfl (fun h12 => ?_) (fun h12 => ?_) | refine g_caseb 9 rfl (fun h12 => ?_) (fun h12 => ?_)
         · exact g_again ⟨(i + 1, true), by dsimp only; omega, fun _ => ⟨(gx (by assumption)).1, run_more (l := p) (P := plP p) (gx (by assumption)).2 ⟨ch, hch, by omega⟩⟩⟩ [0, 1, 7, 8, 9, 10] (by dsimp only; omega) rfl (fun w h => h.pick [0,0] rfl)
         · exact g_again ⟨(i + 1, false), by dsimp only; omega, fun h => by cases h⟩ [0, 1, 7, 8, 9, 10] (by dsimp only; omega) rfl (fun w h => h.pick [0,0] rfl)
        refine xg 7 [] rfl rfl ?_
        refine n_ (g_in_normal (t_ (o_ ?_)))
        refine xg 3 [] rfl (by omega) ?_
        refine n_ ?_
        exact g_again ⟨(i + 1, false), by dsimp only; omega, fun h => by cases h⟩ [0, 1, 7, 8, 9, 10] (by dsimp only; omega) rfl (fun w h => h.pick [0,0] rfl)
       refine xg 8 [] rfl rfl ?_
       refine g_val rfl rfl rfl (y_sidx (i := i) rfl rfl Try.underlying9 hch8) ?_
       refine xg 2 [0] rfl rfl ?_
       refine g_casep 58 rfl (fun h13 => ?_) fun h13 => ?_
       ·refine xg 2 [] rfl rfl ?_
        refine g_val rfl rfl rfl (y_sidx (i := i) rfl rfl Try.underlying9 hch8) ?_
        refine xg 4 [0] rfl rfl ?_
        refine n_ (g_in_normal (t_ (o_ ?_)))
        refine xg 3 [] rfl (by omega) ?_
        refine n_ ?_
        first | refine g_casep 9 rfl (fun h14 => ?_) (fun h14 => ?_) | refine g_caseb 9 rfl (fun h14 => ?_) (fun h14 => ?_)
        · exact g_again ⟨(i + 1, true), by dsimp only; omega, fun _ => ⟨(gx (by assumption)).1, run_more (l := p) (P := plP p) (gx (by assumption)).2 ⟨ch, hch, by omega⟩⟩⟩ [0, 1, 7, 8, 9, 10] (by dsimp only; omega) rfl (fun w h => h.pick [0,0] rfl)
        · exact g_again ⟨(i + 1, false), by dsimp only; omega, fun h => by cases h⟩ [0, 1, 7, 8, 9, 10] (by dsimp only; omega) rfl (fun w h => h.pick [0,0] rfl)
       refine xg 7 [] rfl rfl ?_
       refine n_ (g_in_normal (t_ (o_ ?_)))
       refine xg 3 [] rfl (by omega) ?_
       refine n_ ?_
       exact g_again ⟨(i + 1, false), by dsimp only; omega, fun h => by cases h⟩ [0, 1, 7, 8, 9, 10] (by dsimp only; omega) rfl (fun w h => h.pick [0,0] rfl)
      refine g_cond_f rfl (g_exit (g_then_exit (g_then_exit (g_in_exit ?_))))
      exact g_fall (hj ⟨b, fun hb => by first | exact ⟨(gx hb).1, fun m h1 h2 => (gx hb).2 m h1 (by omega)⟩ | (rw [show b = false by assumption] at hb; cases hb)⟩) [0, 1, 7, 8, 9] rfl (fun w h => h.pick [0,0] rfl)
     refine xg 2 [] rfl rfl ?_
     refine n_ (t_ (g_cond_f rfl (g_exit (g_then_exit (g_then_exit (g_in_exit ?_))))))
     exact g_fall (hj ⟨b, fun hb => by first | exact ⟨(gx hb).1, fun m h1 h2 => (gx hb).2 m h1 (by omega)⟩ | (rw [show b = false by assumption] at hb; cases hb)⟩) [0, 1, 7, 8, 9] rfl (fun w h => h.pick [0,0] rfl)
    refine o_ ?_
    refine xg 1 [] rfl rfl ?_
    refine n_ (t_ ?_)
    refine g_cutc (α := {x : Bool // x = true → (1 ≤ p.length ∧ p.length ≤ 20 ∧ l.length ≤ 60) ∧ (∀ m, 0 ≤ m → m < p.length → plP p m)}) (fun x => [(0, st8 p), (1, st8 l), (7, .pointer (some ⟨b1, 0, none⟩)), (8, .int .i64 ern), (9, .bool x.1)]) (fun x => [.cells b1 28 (nC (.mk nk ns nm nx nu (.slice pv nq.length cv) nq)), .forest [(.mk nk ns nm nx nu (.slice pv nq.length cv) nq)]]) ?_ ?_
    ·rintro ⟨b, gx⟩
     try dsimp only
     refine t_ (s_ (s_ (o_ ?_)))
     refine xg 2 [] rfl rfl ?_
     refine n_ (t_ ?_)
     first | refine g_casep 66 rfl (fun h15 => ?_) fun h15 => ?_ | refine g_caseb 66 rfl (fun h15 => ?_) fun h15 => ?_
     ·refine g_cond_t rfl (s_ (o_ ?_))
      refine g_call1 rfl rfl rfl Try.call13 (fun w hS => alive_any w (hS.maxHere hz (by simp))) ?_
      refine xg 1 [] rfl rfl ?_
      refine n_ (t_ (g_ret (g_then_ret ?_)))
      refine g_end1 Try.results5 rfl ?_
      exact fun w hS => ⟨rfl, hS.below⟩
     refine g_cond_f rfl (g_skip (t_ (s_ ?_)))
     obtain ⟨hcn, hall⟩ := gx (by simpa using ‹(!b) = false›)
     obtain ⟨h0, hng, htm⟩ := plain_mM hpar (plP_all hall) hcn.1 hcn.2.1
     dsimp only at h0 hng htm
     subst h0
     refine o_ ?_
     refine xg 1 [] rfl rfl ?_
     refine n_ (t_ (s_ (s_ (o_ ?_))))
     refine xg 1 [] rfl rfl ?_
     refine n_ (t_ ?_)
     refine g_cutc (α := {x : Int // (x = -1 ∧ (∀ m, ¬ occ l p m)) ∨ (∃ a : Nat, x = a ∧ a + p.length ≤ l.length ∧ occ l p a ∧ (∀ m, m < a → ¬ occ l p m))}) (fun x => [(0, st8 p), (1, st8 l), (7, .pointer (some ⟨b1, 0, none⟩)), (8, .int .i64 0), (11, .int .i64 x.1)]) (fun x => [.cells b1 28 (nC (.mk nk ns nm nx nu (.slice pv nq.length cv) nq)), .forest [(.mk nk ns nm nx nu (.slice pv nq.length cv) nq)]]) ?_ ?_
     ·rintro ⟨at_, gx⟩
      try dsimp only
      refine t_ (s_ ?_)
      rcases gx with ⟨rfl, hno⟩ | ⟨a, rfl, ha1, ha2, ha3⟩
      ·refine o_ ?_
       refine xg 2 [0] rfl (by omega) ?_
       refine g_c1 (m_find ⟨l, false⟩ (.mk nk ns nm nx nu (.slice pv nq.length cv) nq) 0 (by show l.length ≤ _; omega) (by have := parX_size hpar; dsimp only at this; omega)) (fun w hS => forest_rd hS (i := 1) rfl) rfl rfl rfl ?_
       rw [plain_none htm hno, sp_none]
       refine xg 3 [] rfl rfl ?_
       refine g_alloc rfl rfl Try.zeroValue36 rfl (fun b4 => ?_)
       refine xg 2 [0] rfl (by omega) ?_
       refine n_ (t_ (s_ (s_ (o_ ?_))))
       refine xg 2 [1] rfl (by omega) ?_
       refine n_ (t_ (g_cond_t rfl (s_ (o_ ?_))))
       refine g_call1 rfl rfl rfl Try.call13 (fun w hS => alive_any w (hS.maxHere hz (by simp))) ?_
       refine xg 9 [1] rfl (by omega) ?_
       refine n_ (t_ (g_ret (g_then_ret ?_)))
       refine g_end1 Try.results5 rfl ?_
       exact fun w hS => ⟨rfl, hS.below⟩
      refine o_ ?_
      refine xg 2 [0] rfl (by omega) ?_
      refine g_c1 (m_find ⟨l, false⟩ (.mk nk ns nm nx nu (.slice pv nq.length cv) nq) 0 (by show l.length ≤ _; omega) (by have := parX_size hpar; dsimp only at this; omega)) (fun w hS => forest_rd hS (i := 1) rfl) rfl rfl rfl ?_
      rw [plain_some hng htm hcn.2.2 ha1 ha2 ha3, sp_found]
      refine xg 3 [] rfl rfl ?_
      refine g_alloc rfl rfl Try.zeroValue36 rfl (fun b5 => ?_)
      refine xg 2 [0] rfl (by omega) ?_
      refine n_ (t_ (s_ (s_ (o_ ?_))))
      refine xg 2 [2] rfl (by omega) ?_
      refine n_ (t_ (g_cond_f rfl (g_skip (t_ (s_ (o_ ?_))))))
      refine g_call1 rfl rfl rfl Try.call13 (fun w hS => alive_any w (hS.maxHere hz (by simp))) ?_
      refine xg 20 [1,0,1,0] rfl (by omega) ?_
      refine g_val (v := .int .i64 (p.length : Int)) rfl rfl rfl (y_val (y_slen rfl Try.underlying9) (by rw [size_mk])) ?_
      refine xg 10 [1,0,1] rfl (by omega) ?_
      refine n_ (t_ (g_ret ?_))
      refine g_end1 Try.results5 rfl ?_
      exact fun w hS => ⟨rfl, hS.below⟩
     intro hj
     refine g_block ?_
     refine g_loop (α := {x : Nat × Int // x.1 ≤ l.length + 1 ∧ ((x.2 = -1 ∧ (∀ m, m < x.1 → ¬ occ l p m)) ∨ (∃ a : Nat, x.2 = a ∧ a + p.length ≤ l.length ∧ occ l p a ∧ (∀ m, m < a → ¬ occ l p m)))}) (fun x => [(0, st8 p), (1, st8 l), (7, .pointer (some ⟨b1, 0, none⟩)), (8, .int .i64 0), (11, .int .i64 x.1.2), (12, .int .i64 (x.1.1 : Int))]) (fun x => St w [] [.cells b1 28 (nC (.mk nk ns nm nx nu (.slice pv nq.length cv) nq)), .forest [(.mk nk ns nm nx nu (.slice pv nq.length cv) nq)]]) (fun x => l.length + 1 - x.1.1) ⟨(0, -1), Nat.zero_le _, .inl ⟨rfl, fun m h => by omega⟩⟩ [0, 1, 7, 8, 11, 12] rfl (fun w h => h.pick [0,0] rfl) ?_
     rintro ⟨⟨i, at_⟩, gi, gx⟩
     dsimp only
     dsimp only at gi gx
     refine s_ (s_ (o_ ?_))
     refine xg 3 [0] rfl rfl ?_
     refine g_casep 70 rfl (fun h16 => ?_) fun h16 => ?_
     ·refine xg 2 [] rfl rfl ?_
      refine g_val (v := .int .i64 (p.length : Int)) rfl rfl rfl (y_val (y_slen rfl Try.underlying9) (by rw [size_mk])) ?_
      refine xg 2 [] rfl (by omega) ?_
      refine g_val (v := .int .i64 (l.length : Int)) rfl rfl rfl (y_val (y_slen rfl Try.underlying9) (by rw [size_mk])) ?_
      refine xg 2 [0] rfl rfl ?_
      refine n_ (t_ ?_)
      refine g_casep 78 rfl (fun h17 => ?_) fun h17 => ?_
      ·refine g_cond_t rfl (g_skip (t_ (s_ (g_block (s_ ?_)))))
       obtain ⟨rfl, gx0⟩ := occ_at gx (by omega)
       refine o_ ?_
       refine xg 4 [] rfl rfl ?_
       refine g_val (v := .int .i64 (p.length : Int)) rfl rfl rfl (y_val (y_slen rfl Try.underlying9) (by rw [size_mk])) ?_
       refine xg 4 [] rfl (by omega) ?_
       refine n_ (t_ ?_)
       refine g_casep 89 rfl (fun h18 => ?_) fun h18 => ?_
       ·refine g_cond_t rfl (o_ ?_)
        refine xg 2 [] rfl rfl ?_
        refine n_ (g_in_normal (t_ (o_ ?_)))
        refine xg 3 [] rfl (by omega) ?_
        refine n_ ?_
        exact g_again ⟨(i + 1, (i : Int)), by dsimp only; omega, .inr ⟨i, rfl, by omega, occ_iff.1 (by assumption), gx0⟩⟩ [0, 1, 7, 8, 11, 12] (by dsimp only; omega) rfl (fun w h => h.pick [0,0] rfl)
       refine g_cond_f rfl (g_skip (g_in_normal (t_ (o_ ?_))))
       refine xg 3 [] rfl (by omega) ?_
       refine n_ ?_
       exact g_again ⟨(i + 1, -1), by dsimp only; omega, .inl ⟨rfl, occ_next gx0 (by assumption)⟩⟩ [0, 1, 7, 8, 11, 12] (by dsimp only; omega) rfl (fun w h => h.pick [0,0] rfl)
      refine g_cond_f rfl (g_exit (g_then_exit (g_then_exit (g_in_exit ?_))))
      exact g_fall (hj ⟨at_, occ_stop gx hcn.1 (fun _ => by omega)⟩) [0, 1, 7, 8, 11] rfl (fun w h => h.pick [0,0] rfl)
     refine xg 8 [] rfl rfl ?_
     refine n_ (t_ (g_cond_f rfl (g_exit (g_then_exit (g_then_exit (g_in_exit ?_))))))
     exact g_fall (hj ⟨at_, occ_stop gx hcn.1 (fun _ => by omega)⟩) [0, 1, 7, 8, 11] rfl (fun w h => h.pick [0,0] rfl)
    intro hj
    refine g_block ?_
    refine g_loop (α := {x : Nat × Bool // x.1 ≤ p.length ∧ (x.2 = true → (1 ≤ p.length ∧ p.length ≤ 20 ∧ l.length ≤ 60) ∧ (∀ m, 0 ≤ m → m < x.1 → plP p m))}) (fun x => [(0, st8 p), (1, st8 l), (7, .pointer (some ⟨b1, 0, none⟩)), (8, .int .i64 ern), (9, .bool x.1.2), (10, .int .i64 (x.1.1 : Int))]) (fun x => St w [] [.cells b1 28 (nC (.mk nk ns nm nx nu (.slice pv nq.length cv) nq)), .forest [(.mk nk ns nm nx nu (.slice pv nq.length cv) nq)]]) (fun x => p.length - x.1.1) ⟨(0, false), Nat.zero_le _, fun h => by cases h⟩ [0, 1, 7, 8, 9, 10] rfl (fun w h => h.pick [0,0] rfl) ?_
    rintro ⟨⟨i, b⟩, gi, gx⟩
    dsimp only
    dsimp only at gi gx
    refine s_ (s_ (o_ ?_))
    refine xg 2 [] rfl rfl ?_
    refine g_val (v := .int .i64 (p.length : Int)) rfl rfl rfl (y_val (y_slen rfl Try.underlying9) (by rw [size_mk])) ?_
    refine xg 2 [0] rfl rfl ?_
    refine g_casep 38 rfl (fun h19 => ?_) fun h19 => ?_
    ·refine xg 2 [] rfl rfl ?_
     refine n_ (t_ ?_)
     refine g_caseb 40 rfl (fun h20 => ?_) fun h20 => ?_
     ·refine g_cond_t rfl (g_skip (t_ (s_ (g_block (o_ ?_)))))
      refine xg 2 [] rfl rfl ?_
      obtain ⟨ch, hch, hch8⟩ := st8_get (l := p) (i := i) (by omega)
      refine g_val rfl rfl rfl (y_sidx (i := i) rfl rfl Try.underlying9 hch8) ?_
      refine xg 2 [0] rfl rfl ?_
      refine g_casep 47 rfl (fun h21 => ?_) fun h21 => ?_
      ·refine xg 2 [] rfl rfl ?_
       refine g_val rfl rfl rfl (y_sidx (i := i) rfl rfl Try.underlying9 hch8) ?_
       refine xg 3 [0] rfl rfl ?_
       refine g_casep 53 rfl (fun h22 => ?_) fun h22 => ?_
       ·refine xg 12 [] rfl rfl ?_
        refine n_ (g_in_normal (t_ (o_ ?_)))
        refine xg 3 [] rfl (by omega) ?_
        refine n_ ?_
        exact g_again ⟨(i + 1, true), by dsimp only; omega, fun _ => ⟨(gx (by assumption)).1, run_more (l := p) (P := plP p) (gx (by assumption)).2 ⟨ch, hch, by omega⟩⟩⟩ [0, 1, 7, 8, 9, 10] (by dsimp only; omega) rfl (fun w h => h.pick [0,0] rfl)
       refine xg 2 [] rfl rfl ?_
       refine g_val rfl rfl rfl (y_sidx (i := i) rfl rfl Try.underlying9 hch8) ?_
       refine xg 2 [0] rfl rfl ?_
       refine g_casep 58 rfl (fun h23 => ?_) fun h23 => ?_
       ·refine xg 2 [] rfl rfl ?_
        refine g_val rfl rfl rfl (y_sidx (i := i) rfl rfl Try.underlying9 hch8) ?_
        refine xg 4 [0] rfl rfl ?_
        refine n_ (g_in_normal (t_ (o_ ?_)))
        refine xg 3 [] rfl (by omega) ?_
        refine n_ ?_
        first | refine g_casep 9 rfl (fun h24 => ?_) (fun h24 => ?_) | refine g_caseb 9 rfl (fun h24 => ?_) (fun h24 => ?_)
        · exact g_again ⟨(i + 1, true), by dsimp only; omega, fun _ => ⟨(gx (by assumption)).1, run_more (l := p) (P := plP p) (gx (by assumption)).2 ⟨ch, hch, by omega⟩⟩⟩ [0, 1, 7, 8, 9, 10] (by dsimp only; omega) rfl (fun w h => h.pick [0,0] rfl)
        · exact g_again ⟨(i + 1, false), by dsimp only; omega, fun h => by cases h⟩ [0, 1, 7, 8, 9, 10] (by dsimp only; omega) rfl (fun w h => h.pick [0,0] rfl)
       refine xg 7 [] rfl rfl ?_
       refine n_ (g_in_normal (t_ (o_ ?_)))
       refine xg 3 [] rfl (by omega) ?_
       refine n_ ?_
       exact g_again ⟨(i + 1, false), by dsimp only; omega, fun h => by cases h⟩ [0, 1, 7, 8, 9, 10] (by dsimp only; omega) rfl (fun w h => h.pick [0,0] rfl)
      refine xg 8 [] rfl rfl ?_
      refine g_val rfl rfl rfl (y_sidx (i := i) rfl rfl Try.underlying9 hch8) ?_
      refine xg 2 [0] rfl rfl ?_
      refine g_casep 58 rfl (fun h25 => ?_) fun h25 => ?_
      ·refine xg 2 [] rfl rfl ?_
       refine g_val rfl rfl rfl (y_sidx (i := i) rfl rfl Try.underlying9 hch8) ?_
       refine xg 4 [0] rfl rfl ?_
       refine n_ (g_in_normal (t_ (o_ ?_)))
       refine xg 3 [] rfl (by omega) ?_
       refine n_ ?_
       first | refine g_casep 9 rfl (fun h26 => ?_) (fun h26 => ?_) | refine g_caseb 9 rfl (fun h26 => ?_) (fun h26 => ?_)
       · exact g_again ⟨(i + 1, true), by dsimp only; omega, fun _ => ⟨(gx (by assumption)).1, run_more (l := p) (P := plP p) (gx (by assumption)).2 ⟨ch, hch, by omega⟩⟩⟩ [0, 1, 7, 8, 9, 10] (by dsimp only; omega) rfl (fun w h => h.pick [0,0] rfl)
       · exact g_again ⟨(i + 1, false), by dsimp only; omega, fun h => by cases h⟩ [0, 1, 7, 8, 9, 10] (by dsimp only; omega) rfl (fun w h => h.pick [0,0] rfl)
      refine xg 7 [] rfl rfl ?_
      refine n_ (g_in_normal (t_ (o_ ?_)))
      refine xg 3 [] rfl (by omega) ?_
      refine n_ ?_
      exact g_again ⟨(i + 1, false), by dsimp only; omega, fun h => by cases h⟩ [0, 1, 7, 8, 9, 10] (by dsimp only; omega) rfl (fun w h => h.pick [0,0] rfl)
     refine g_cond_f rfl (g_exit (g_then_exit (g_then_exit (g_in_exit ?_))))
     exact g_fall (hj ⟨b, fun hb => by first | exact ⟨(gx hb).1, fun m h1 h2 => (gx hb).2 m h1 (by omega)⟩ | (rw [show b = false by assumption] at hb; cases hb)⟩) [0, 1, 7, 8, 9] rfl (fun w h => h.pick [0,0] rfl)
    refine xg 2 [] rfl rfl ?_
    refine n_ (t_ (g_cond_f rfl (g_exit (g_then_exit (g_then_exit (g_in_exit ?_))))))
    exact g_fall (hj ⟨b, fun hb => by first | exact ⟨(gx hb).1, fun m h1 h2 => (gx hb).2 m h1 (by omega)⟩ | (rw [show b = false by assumption] at hb; cases hb)⟩) [0, 1, 7, 8, 9] rfl (fun w h => h.pick [0,0] rfl)
   refine xg 5 [] rfl rfl ?_
   refine n_ (t_ (s_ (s_ (o_ ?_))))
   refine xg 1 [] rfl rfl ?_
   refine n_ (t_ ?_)
   refine g_cutc (α := {x : Bool // x = true → (1 ≤ p.length ∧ p.length ≤ 20 ∧ l.length ≤ 60) ∧ (∀ m, 0 ≤ m → m < p.length → plP p m)}) (fun x => [(0, st8 p), (1, st8 l), (7, .pointer (some ⟨b1, 0, none⟩)), (8, .int .i64 ern), (9, .bool x.1)]) (fun x => [.cells b1 28 (nC (.mk nk ns nm nx nu (.slice pv nq.length cv) nq)), .forest [(.mk nk ns nm nx nu (.slice pv nq.length cv) nq)]]) ?_ ?_
   ·rintro ⟨b, gx⟩
    try dsimp only
    refine t_ (s_ (s_ (o_ ?_)))
    refine xg 2 [] rfl rfl ?_
    refine n_ (t_ ?_)
    first | refine g_casep 66 rfl (fun h27 => ?_) fun h27 => ?_ | refine g_caseb 66 rfl (fun h27 => ?_) fun h27 => ?_
    ·refine g_cond_t rfl (s_ (o_ ?_))
     refine g_call1 rfl rfl rfl Try.call13 (fun w hS => alive_any w (hS.maxHere hz (by simp))) ?_
     refine xg 1 [] rfl rfl ?_
     refine n_ (t_ (g_ret (g_then_ret ?_)))
     refine g_end1 Try.results5 rfl ?_
     exact fun w hS => ⟨rfl, hS.below⟩
    refine g_cond_f rfl (g_skip (t_ (s_ ?_)))
    obtain ⟨hcn, hall⟩ := gx (by simpa using ‹(!b) = false›)
    obtain ⟨h0, hng, htm⟩ := plain_mM hpar (plP_all hall) hcn.1 hcn.2.1
    dsimp only at h0 hng htm
    subst h0
    refine o_ ?_
    refine xg 1 [] rfl rfl ?_
    refine n_ (t_ (s_ (s_ (o_ ?_))))
    refine xg 1 [] rfl rfl ?_
    refine n_ (t_ ?_)
    refine g_cutc (α := {x : Int // (x = -1 ∧ (∀ m, ¬ occ l p m)) ∨ (∃ a : Nat, x = a ∧ a + p.length ≤ l.length ∧ occ l p a ∧ (∀ m, m < a → ¬ occ l p m))}) (fun x => [(0, st8 p), (1, st8 l), (7, .pointer (some ⟨b1, 0, none⟩)), (8, .int .i64 0), (11, .int .i64 x.1)]) (fun x => [.cells b1 28 (nC (.mk nk ns nm nx nu (.slice pv nq.length cv) nq)), .forest [(.mk nk ns nm nx nu (.slice pv nq.length cv) nq)]]) ?_ ?_
    ·rintro ⟨at_, gx⟩
     try dsimp only
     refine t_ (s_ ?_)
     rcases gx with ⟨rfl, hno⟩ | ⟨a, rfl, ha1, ha2, ha3⟩
     ·refine o_ ?_
      refine xg 2 [0] rfl (by omega) ?_
      refine g_c1 (m_find ⟨l, false⟩ (.mk nk ns nm nx nu (.slice pv nq.length cv) nq) 0 (by show l.length ≤ _; omega) (by have := parX_size hpar; dsimp only at this; omega)) (fun w hS => forest_rd hS (i := 1) rfl) rfl rfl rfl ?_
      rw [plain_none htm hno, sp_none]
      refine xg 3 [] rfl rfl ?_
      refine g_alloc rfl rfl Try.zeroValue36 rfl (fun b6 => ?_)
      refine xg 2 [0] rfl (by omega) ?_
      refine n_ (t_ (s_ (s_ (o_ ?_))))
      refine xg 2 [1] rfl (by omega) ?_
      refine n_ (t_ (g_cond_t rfl (s_ (o_ ?_))))
      refine g_call1 rfl rfl rfl Try.call13 (fun w hS => alive_any w (hS.maxHere hz (by simp))) ?_
      refine xg 9 [1] rfl (by omega) ?_
      refine n_ (t_ (g_ret (g_then_ret ?_)))
      refine g_end1 Try.results5 rfl ?_
      exact fun w hS => ⟨rfl, hS.below⟩
     refine o_ ?_
     refine xg 2 [0] rfl (by omega) ?_
     refine g_c1 (m_find ⟨l, false⟩ (.mk nk ns nm nx nu (.slice pv nq.length cv) nq) 0 (by show l.length ≤ _; omega) (by have := parX_size hpar; dsimp only at this; omega)) (fun w hS => forest_rd hS (i := 1) rfl) rfl rfl rfl ?_
     rw [plain_some hng htm hcn.2.2 ha1 ha2 ha3, sp_found]
     refine xg 3 [] rfl rfl ?_
     refine g_alloc rfl rfl Try.zeroValue36 rfl (fun b7 => ?_)
     refine xg 2 [0] rfl (by omega) ?_
     refine n_ (t_ (s_ (s_ (o_ ?_))))
     refine xg 2 [2] rfl (by omega) ?_
     refine n_ (t_ (g_cond_f rfl (g_skip (t_ (s_ (o_ ?_))))))
     refine g_call1 rfl rfl rfl Try.call13 (fun w hS => alive_any w (hS.maxHere hz (by simp))) ?_
     refine xg 20 [1,0,1,0] rfl (by omega) ?_
     refine g_val (v := .int .i64 (p.length : Int)) rfl rfl rfl (y_val (y_slen rfl Try.underlying9) (by rw [size_mk])) ?_
     refine xg 10 [1,0,1] rfl (by omega) ?_
     refine n_ (t_ (g_ret ?_))
     refine g_end1 Try.results5 rfl ?_
     exact fun w hS => ⟨rfl, hS.below⟩
    intro hj
    refine g_block ?_
    refine g_loop (α := {x : Nat × Int // x.1 ≤ l.length + 1 ∧ ((x.2 = -1 ∧ (∀ m, m < x.1 → ¬ occ l p m)) ∨ (∃ a : Nat, x.2 = a ∧ a + p.length ≤ l.length ∧ occ l p a ∧ (∀ m, m < a → ¬ occ l p m)))}) (fun x => [(0, st8 p), (1, st8 l), (7, .pointer (some ⟨b1, 0, none⟩)), (8, .int .i64 0), (11, .int .i64 x.1.2), (12, .int .i64 (x.1.1 : Int))]) (fun x => St w [] [.cells b1 28 (nC (.mk nk ns nm nx nu (.slice pv nq.length cv) nq)), .forest [(.mk nk ns nm nx nu (.slice pv nq.length cv) nq)]]) (fun x => l.length + 1 - x.1.1) ⟨(0, -1), Nat.zero_le _, .inl ⟨rfl, fun m h => by omega⟩⟩ [0, 1, 7, 8, 11, 12] rfl (fun w h => h.pick [0,0] rfl) ?_
    rintro ⟨⟨i, at_⟩, gi, gx⟩
    dsimp only
    dsimp only at gi gx
    refine s_ (s_ (o_ ?_))
    refine xg 3 [0] rfl rfl ?_
    refine g_casep 70 rfl (fun h28 => ?_) fun h28 => ?_
    ·refine xg 2 [] rfl rfl ?_
     refine g_val (v := .int .i64 (p.length : Int)) rfl rfl rfl (y_val (y_slen rfl Try.underlying9) (by rw [size_mk])) ?_
     refine xg 2 [] rfl (by omega) ?_
     refine g_val (v := .int .i64 (l.length : Int)) rfl rfl rfl (y_val (y_slen rfl Try.underlying9) (by rw [size_mk])) ?_
     refine xg 2 [0] rfl rfl ?_
     refine n_ (t_ ?_)
     refine g_casep 78 rfl (fun h29 => ?_) fun h29 => ?_
     ·refine g_cond_t rfl (g_skip (t_ (s_ (g_block (s_ ?_)))))
      obtain ⟨rfl, gx0⟩ := occ_at gx (by omega)
      refine o_ ?_
      refine xg 4 [] rfl rfl ?_
      refine g_val (v := .int .i64 (p.length : Int)) rfl rfl rfl (y_val (y_slen rfl Try.underlying9) (by rw [size_mk])) ?_
      refine xg 4 [] rfl (by omega) ?_
      refine n_ (t_ ?_)
      refine g_casep 89 rfl (fun h30 => ?_) fun h30 => ?_
      ·refine g_cond_t rfl (o_ ?_)
       refine xg 2 [] rfl rfl ?_
       refine n_ (g_in_normal (t_ (o_ ?_)))
       refine xg 3 [] rfl (by omega) ?_
       refine n_ ?_
       exact g_again ⟨(i + 1, (i : Int)), by dsimp only; omega, .inr ⟨i, rfl, by omega, occ_iff.1 (by assumption), gx0⟩⟩ [0, 1, 7, 8, 11, 12] (by dsimp only; omega) rfl (fun w h => h.pick [0,0] rfl)
      refine g_cond_f rfl (g_skip (g_in_normal (t_ (o_ ?_))))
      refine xg 3 [] rfl (by omega) ?_
      refine n_ ?_
      exact g_again ⟨(i + 1, -1), by dsimp only; omega, .inl ⟨rfl, occ_next gx0 (by assumption)⟩⟩ [0, 1, 7, 8, 11, 12] (by dsimp only; omega) rfl (fun w h => h.pick [0,0] rfl)
     refine g_cond_f rfl (g_exit (g_then_exit (g_then_exit (g_in_exit ?_))))
     exact g_fall (hj ⟨at_, occ_stop gx hcn.1 (fun _ => by omega)⟩) [0, 1, 7, 8, 11] rfl (fun w h => h.pick [0,0] rfl)
    refine xg 8 [] rfl rfl ?_
    refine n_ (t_ (g_cond_f rfl (g_exit (g_then_exit (g_then_exit (g_in_exit ?_))))))
    exact g_fall (hj ⟨at_, occ_stop gx hcn.1 (fun _ => by omega)⟩) [0, 1, 7, 8, 11] rfl (fun w h => h.pick [0,0] rfl)
   intro hj
   refine g_block ?_
   refine g_loop (α := {x : Nat × Bool // x.1 ≤ p.length ∧ (x.2 = true → (1 ≤ p.length ∧ p.length ≤ 20 ∧ l.length ≤ 60) ∧ (∀ m, 0 ≤ m → m < x.1 → plP p m))}) (fun x => [(0, st8 p), (1, st8 l), (7, .pointer (some ⟨b1, 0, none⟩)), (8, .int .i64 ern), (9, .bool x.1.2), (10, .int .i64 (x.1.1 : Int))]) (fun x => St w [] [.cells b1 28 (nC (.mk nk ns nm nx nu (.slice pv nq.length cv) nq)), .forest [(.mk nk ns nm nx nu (.slice pv nq.length cv) nq)]]) (fun x => p.length - x.1.1) ⟨(0, false), Nat.zero_le _, fun h => by cases h⟩ [0, 1, 7, 8, 9, 10] rfl (fun w h => h.pick [0,0] rfl) ?_
   rintro ⟨⟨i, b⟩, gi, gx⟩
   dsimp only
   dsimp only at gi gx
   refine s_ (s_ (o_ ?_))
   refine xg 2 [] rfl rfl ?_
   refine g_val (v := .int .i64 (p.length : Int)) rfl rfl rfl (y_val (y_slen rfl Try.underlying9) (by rw [size_mk])) ?_
   refine xg 2 [0] rfl rfl ?_
   refine g_casep 38 rfl (fun h31 => ?_) fun h31 => ?_
   ·refine xg 2 [] rfl rfl ?_
    refine n_ (t_ ?_)
    refine g_caseb 40 rfl (fun h32 => ?_) fun h32 => ?_
    ·refine g_cond_t rfl (g_skip (t_ (s_ (g_block (o_ ?_)))))
     refine xg 2 [] rfl rfl ?_
     obtain ⟨ch, hch, hch8⟩ := st8_get (l := p) (i := i) (by omega)
     refine g_val rfl rfl rfl (y_sidx (i := i) rfl rfl Try.underlying9 hch8) ?_
     refine xg 2 [0] rfl rfl ?_
     refine g_casep 47 rfl (fun h33 => ?_) fun h33 => ?_
     ·refine xg 2 [] rfl rfl ?_
      refine g_val rfl rfl rfl (y_sidx (i := i) rfl rfl Try.underlying9 hch8) ?_
      refine xg 3 [0] rfl rfl ?_
      refine g_casep 53 rfl (fun h34 => ?_) fun h34 => ?_
      ·refine xg 12 [] rfl rfl ?_
       refine n_ (g_in_normal (t_ (o_ ?_)))
       refine xg 3 [] rfl (by omega) ?_
       refine n_ ?_
       exact g_again ⟨(i + 1, true), by dsimp only; omega, fun _ => ⟨(gx (by assumption)).1, run_more (l := p) (P := plP p) (gx (by assumption)).2 ⟨ch, hch, by omega⟩⟩⟩ [0, 1, 7, 8, 9, 10] (by dsimp only; omega) rfl (fun w h => h.pick [0,0] rfl)
      refine xg 2 [] rfl rfl ?_
      refine g_val rfl rfl rfl (y_sidx (i := i) rfl rfl Try.underlying9 hch8) ?_
      refine xg 2 [0] rfl rfl ?_
      refine g_casep 58 rfl (fun h35 => ?_) fun h35 => ?_
      ·refine xg 2 [] rfl rfl ?_
       refine g_val rfl rfl rfl (y_sidx (i := i) rfl rfl Try.underlying9 hch8) ?_
       refine xg 4 [0] rfl rfl ?_
       refine n_ (g_in_normal (t_ (o_ ?_)))
       refine xg 3 [] rfl (by omega) ?_
       refine n_ ?_
       first | refine g_casep 9 rfl (fun h36 => ?_) (fun h36 => ?_) | refine g_caseb 9 rfl (fun h36 => ?_) (fun h36 => ?_)
       · exact g_again ⟨(i + 1, true), by dsimp only; omega, fun _ => ⟨(gx (by assumption)).1, run_more (l := p) (P := plP p) (gx (by assumption)).2 ⟨ch, hch, by omega⟩⟩⟩ [0, 1, 7, 8, 9, 10] (by dsimp only; omega) rfl (fun w h => h.pick [0,0] rfl)
       · exact g_again ⟨(i + 1, false), by dsimp only; omega, fun h => by cases h⟩ [0, 1, 7, 8, 9, 10] (by dsimp only; omega) rfl (fun w h => h.pick [0,0] rfl)
      refine xg 7 [] rfl rfl ?_
      refine n_ (g_in_normal (t_ (o_ ?_)))
      refine xg 3 [] rfl (by omega) ?_
      refine n_ ?_
      exact g_again ⟨(i + 1, false), by dsimp only; omega, fun h => by cases h⟩ [0, 1, 7, 8, 9, 10] (by dsimp only; omega) rfl (fun w h => h.pick [0,0] rfl)
     refine xg 8 [] rfl rfl ?_
     refine g_val rfl rfl rfl (y_sidx (i := i) rfl rfl Try.underlying9 hch8) ?_
     refine xg 2 [0] rfl rfl ?_
     refine g_casep 58 rfl (fun h37 => ?_) fun h37 => ?_
     ·refine xg 2 [] rfl rfl ?_
      refine g_val rfl rfl rfl (y_sidx (i := i) rfl rfl Try.underlying9 hch8) ?_
      refine xg 4 [0] rfl rfl ?_
      refine n_ (g_in_normal (t_ (o_ ?_)))
      refine xg 3 [] rfl (by omega) ?_
      refine n_ ?_
      first | refine g_casep 9 rfl (fun h38 => ?_) (fun h38 => ?_) | refine g_caseb 9 rfl (fun h38 => ?_) (fun h38 => ?_)
      · exact g_again ⟨(i + 1, true), by dsimp only; omega, fun _ => ⟨(gx (by assumption)).1, run_more (l := p) (P := plP p) (gx (by assumption)).2 ⟨ch, hch, by omega⟩⟩⟩ [0, 1, 7, 8, 9, 10] (by dsimp only; omega) rfl (fun w h => h.pick [0,0] rfl)
      · exact g_again ⟨(i + 1, false), by dsimp only; omega, fun h => by cases h⟩ [0, 1, 7, 8, 9, 10] (by dsimp only; omega) rfl (fun w h => h.pick [0,0] rfl)
     refine xg 7 [] rfl rfl ?_
     refine n_ (g_in_normal (t_ (o_ ?_)))
     refine xg 3 [] rfl (by omega) ?_
     refine n_ ?_
     exact g_again ⟨(i + 1, false), by dsimp only; omega, fun h => by cases h⟩ [0, 1, 7, 8, 9, 10] (by dsimp only; omega) rfl (fun w h => h.pick [0,0] rfl)
    refine g_cond_f rfl (g_exit (g_then_exit (g_then_exit (g_in_exit ?_))))
    exact g_fall (hj ⟨b, fun hb => by first | exact ⟨(gx hb).1, fun m h1 h2 => (gx hb).2 m h1 (by omega)⟩ | (rw [show b = false by assumption] at hb; cases hb)⟩) [0, 1, 7, 8, 9] rfl (fun w h => h.pick [0,0] rfl)
   refine xg 2 [] rfl rfl ?_
   refine n_ (t_ (g_cond_f rfl (g_exit (g_then_exit (g_then_exit (g_in_exit ?_))))))
   exact g_fall (hj ⟨b, fun hb => by first | exact ⟨(gx hb).1, fun m h1 h2 => (gx hb).2 m h1 (by omega)⟩ | (rw [show b = false by assumption] at hb; cases hb)⟩) [0, 1, 7, 8, 9] rfl (fun w h => h.pick [0,0] rfl)
  refine xg 10 [] rfl rfl ?_
  refine n_ (t_ (s_ (s_ (o_ ?_))))
  refine xg 1 [] rfl rfl ?_
  refine n_ (t_ ?_)
  refine g_cutc (α := {x : Bool // x = true → (1 ≤ p.length ∧ p.length ≤ 20 ∧ l.length ≤ 60) ∧ (∀ m, 0 ≤ m → m < p.length → plP p m)}) (fun x => [(0, st8 p), (1, st8 l), (7, .pointer (some ⟨b1, 0, none⟩)), (8, .int .i64 ern), (9, .bool x.1)]) (fun x => [.cells b1 28 (nC (.mk nk ns nm nx nu (.slice pv nq.length cv) nq)), .forest [(.mk nk ns nm nx nu (.slice pv nq.length cv) nq)]]) ?_ ?_
  ·rintro ⟨b, gx⟩
   try dsimp only
   refine t_ (s_ (s_ (o_ ?_)))
   refine xg 2 [] rfl rfl ?_
   refine n_ (t_ ?_)
   first | refine g_casep 66 rfl (fun h39 => ?_) fun h39 => ?_ | refine g_caseb 66 rfl (fun h39 => ?_) fun h39 => ?_
   ·refine g_cond_t rfl (s_ (o_ ?_))
    refine g_call1 rfl rfl rfl Try.call13 (fun w hS => alive_any w (hS.maxHere hz (by simp))) ?_
    refine xg 1 [] rfl rfl ?_
    refine n_ (t_ (g_ret (g_then_ret ?_)))
    refine g_end1 Try.results5 rfl ?_
    exact fun w hS => ⟨rfl, hS.below⟩
   refine g_cond_f rfl (g_skip (t_ (s_ ?_)))
   obtain ⟨hcn, hall⟩ := gx (by simpa using ‹(!b) = false›)
   obtain ⟨h0, hng, htm⟩ := plain_mM hpar (plP_all hall) hcn.1 hcn.2.1
   dsimp only at h0 hng htm
   subst h0
   refine o_ ?_
   refine xg 1 [] rfl rfl ?_
   refine n_ (t_ (s_ (s_ (o_ ?_))))
   refine xg 1 [] rfl rfl ?_
   refine n_ (t_ ?_)
   refine g_cutc (α := {x : Int // (x = -1 ∧ (∀ m, ¬ occ l p m)) ∨ (∃ a : Nat, x = a ∧ a + p.length ≤ l.length ∧ occ l p a ∧ (∀ m, m < a → ¬ occ l p m))}) (fun x => [(0, st8 p), (1, st8 l), (7, .pointer (some ⟨b1, 0, none⟩)), (8, .int .i64 0), (11, .int .i64 x.1)]) (fun x => [.cells b1 28 (nC (.mk nk ns nm nx nu (.slice pv nq.length cv) nq)), .forest [(.mk nk ns nm nx nu (.slice pv nq.length cv) nq)]]) ?_ ?_
   ·rintro ⟨at_, gx⟩
    try dsimp only
    refine t_ (s_ ?_)
    rcases gx with ⟨rfl, hno⟩ | ⟨a, rfl, ha1, ha2, ha3⟩
    ·refine o_ ?_
     refine xg 2 [0] rfl (by omega) ?_
     refine g_c1 (m_find ⟨l, false⟩ (.mk nk ns nm nx nu (.slice pv nq.length cv) nq) 0 (by show l.length ≤ _; omega) (by have := parX_size hpar; dsimp only at this; omega)) (fun w hS => forest_rd hS (i := 1) rfl) rfl rfl rfl ?_
     rw [plain_none htm hno, sp_none]
     refine xg 3 [] rfl rfl ?_
     refine g_alloc rfl rfl Try.zeroValue36 rfl (fun b8 => ?_)
     refine xg 2 [0] rfl (by omega) ?_
     refine n_ (t_ (s_ (s_ (o_ ?_))))
     refine xg 2 [1] rfl (by omega) ?_
     refine n_ (t_ (g_cond_t rfl (s_ (o_ ?_))))
     refine g_call1 rfl rfl rfl Try.call13 (fun w hS => alive_any w (hS.maxHere hz (by simp))) ?_
     refine xg 9 [1] rfl (by omega) ?_
     refine n_ (t_ (g_ret (g_then_ret ?_)))
     refine g_end1 Try.results5 rfl ?_
     exact fun w hS => ⟨rfl, hS.below⟩
    refine o_ ?_
    refine xg 2 [0] rfl (by omega) ?_
    refine g_c1 (m_find ⟨l, false⟩ (.mk nk ns nm nx nu (.slice pv nq.length cv) nq) 0 (by show l.length ≤ _; omega) (by have := parX_size hpar; dsimp only at this; omega)) (fun w hS => forest_rd hS (i := 1) rfl) rfl rfl rfl ?_
    rw [plain_some hng htm hcn.2.2 ha1 ha2 ha3, sp_found]
    refine xg 3 [] rfl rfl ?_
    refine g_alloc rfl rfl Try.zeroValue36 rfl (fun b9 => ?_)
    refine xg 2 [0] rfl (by omega) ?_
    refine n_ (t_ (s_ (s_ (o_ ?_))))
    refine xg 2 [2] rfl (by omega) ?_
    refine n_ (t_ (g_cond_f rfl (g_skip (t_ (s_ (o_ ?_))))))
    refine g_call1 rfl rfl rfl Try.call13 (fun w hS => alive_any w (hS.maxHere hz (by simp))) ?_
    refine xg 20 [1,0,1,0] rfl (by omega) ?_
    refine g_val (v := .int .i64 (p.length : Int)) rfl rfl rfl (y_val (y_slen rfl Try.underlying9) (by rw [size_mk])) ?_
    refine xg 10 [1,0,1] rfl (by omega) ?_
    refine n_ (t_ (g_ret ?_))
    refine g_end1 Try.results5 rfl ?_
    exact fun w hS => ⟨rfl, hS.below⟩
   intro hj
   refine g_block ?_
   refine g_loop (α := {x : Nat × Int // x.1 ≤ l.length + 1 ∧ ((x.2 = -1 ∧ (∀ m, m < x.1 → ¬ occ l p m)) ∨ (∃ a : Nat, x.2 = a ∧ a + p.length ≤ l.length ∧ occ l p a ∧ (∀ m, m < a → ¬ occ l p m)))}) (fun x => [(0, st8 p), (1, st8 l), (7, .pointer (some ⟨b1, 0, none⟩)), (8, .int .i64 0), (11, .int .i64 x.1.2), (12, .int .i64 (x.1.1 : Int))]) (fun x => St w [] [.cells b1 28 (nC (.mk nk ns nm nx nu (.slice pv nq.length cv) nq)), .forest [(.mk nk ns nm nx nu (.slice pv nq.length cv) nq)]]) (fun x => l.length + 1 - x.1.1) ⟨(0, -1), Nat.zero_le _, .inl ⟨rfl, fun m h => by omega⟩⟩ [0, 1, 7, 8, 11, 12] rfl (fun w h => h.pick [0,0] rfl) ?_
   rintro ⟨⟨i, at_⟩, gi, gx⟩
   dsimp only
   dsimp only at gi gx
   refine s_ (s_ (o_ ?_))
   refine xg 3 [0] rfl rfl ?_
   refine g_casep 70 rfl (fun h40 => ?_) fun h40 => ?_
   ·refine xg 2 [] rfl rfl ?_
    refine g_val (v := .int .i64 (p.length : Int)) rfl rfl rfl (y_val (y_slen rfl Try.underlying9) (by rw [size_mk])) ?_
    refine xg 2 [] rfl (by omega) ?_
    refine g_val (v := .int .i64 (l.length : Int)) rfl rfl rfl (y_val (y_slen rfl Try.underlying9) (by rw [size_mk])) ?_
    refine xg 2 [0] rfl rfl ?_
    refine n_ (t_ ?_)
    refine g_casep 78 rfl (fun h41 => ?_) fun h41 => ?_
    ·refine g_cond_t rfl (g_skip (t_ (s_ (g_block (s_ ?_)))))
     obtain ⟨rfl, gx0⟩ := occ_at gx (by omega)
     refine o_ ?_
     refine xg 4 [] rfl rfl ?_
     refine g_val (v := .int .i64 (p.length : Int)) rfl rfl rfl (y_val (y_slen rfl Try.underlying9) (by rw [size_mk])) ?_
     refine xg 4 [] rfl (by omega) ?_
     refine n_ (t_ ?_)
     refine g_casep 89 rfl (fun h42 => ?_) fun h42 => ?_
     ·refine g_cond_t rfl (o_ ?_)
      refine xg 2 [] rfl rfl ?_
      refine n_ (g_in_normal (t_ (o_ ?_)))
      refine xg 3 [] rfl (by omega) ?_
      refine n_ ?_
      exact g_again ⟨(i + 1, (i : Int)), by dsimp only; omega, .inr ⟨i, rfl, by omega, occ_iff.1 (by assumption), gx0⟩⟩ [0, 1, 7, 8, 11, 12] (by dsimp only; omega) rfl (fun w h => h.pick [0,0] rfl)
     refine g_cond_f rfl (g_skip (g_in_normal (t_ (o_ ?_))))
     refine xg 3 [] rfl (by omega) ?_
     refine n_ ?_
     exact g_again ⟨(i + 1, -1), by dsimp only; omega, .inl ⟨rfl, occ_next gx0 (by assumption)⟩⟩ [0, 1, 7, 8, 11, 12] (by dsimp only; omega) rfl (fun w h => h.pick [0,0] rfl)
    refine g_cond_f rfl (g_exit (g_then_exit (g_then_exit (g_in_exit ?_))))
    exact g_fall (hj ⟨at_, occ_stop gx hcn.1 (fun _ => by omega)⟩) [0, 1, 7, 8, 11] rfl (fun w h => h.pick [0,0] rfl)
   refine xg 8 [] rfl rfl ?_
   refine n_ (t_ (g_cond_f rfl (g_exit (g_then_exit (g_then_exit (g_in_exit ?_))))))
   exact g_fall (hj ⟨at_, occ_stop gx hcn.1 (fun _ => by omega)⟩) [0, 1, 7, 8, 11] rfl (fun w h => h.pick [0,0] rfl)
  intro hj
  refine g_block ?_
  refine g_loop (α := {x : Nat × Bool // x.1 ≤ p.length ∧ (x.2 = true → (1 ≤ p.length ∧ p.length ≤ 20 ∧ l.length ≤ 60) ∧ (∀ m, 0 ≤ m → m < x.1 → plP p m))}) (fun x => [(0, st8 p), (1, st8 l), (7, .pointer (some ⟨b1, 0, none⟩)), (8, .int .i64 ern), (9, .bool x.1.2), (10, .int .i64 (x.1.1 : Int))]) (fun x => St w [] [.cells b1 28 (nC (.mk nk ns nm nx nu (.slice pv nq.length cv) nq)), .forest [(.mk nk ns nm nx nu (.slice pv nq.length cv) nq)]]) (fun x => p.length - x.1.1) ⟨(0, false), Nat.zero_le _, fun h => by cases h⟩ [0, 1, 7, 8, 9, 10] rfl (fun w h => h.pick [0,0] rfl) ?_
  rintro ⟨⟨i, b⟩, gi, gx⟩
  dsimp only
  dsimp only at gi gx
  refine s_ (s_ (o_ ?_))
  refine xg 2 [] rfl rfl ?_
  refine g_val (v := .int .i64 (p.length : Int)) rfl rfl rfl (y_val (y_slen rfl Try.underlying9) (by rw [size_mk])) ?_
  refine xg 2 [0] rfl rfl ?_
  refine g_casep 38 rfl (fun h43 => ?_) fun h43 => ?_
  ·refine xg 2 [] rfl rfl ?_
   refine n_ (t_ ?_)
   refine g_caseb 40 rfl (fun h44 => ?_) fun h44 => ?_
   ·refine g_cond_t rfl (g_skip (t_ (s_ (g_block (o_ ?_)))))
    refine xg 2 [] rfl rfl ?_
    obtain ⟨ch, hch, hch8⟩ := st8_get (l := p) (i := i) (by omega)
    refine g_val rfl rfl rfl (y_sidx (i := i) rfl rfl Try.underlying9 hch8) ?_
    refine xg 2 [0] rfl rfl ?_
    refine g_casep 47 rfl (fun h45 => ?_) fun h45 => ?_
    ·refine xg 2 [] rfl rfl ?_
     refine g_val rfl rfl rfl (y_sidx (i := i) rfl rfl Try.underlying9 hch8) ?_
     refine xg 3 [0] rfl rfl ?_
     refine g_casep 53 rfl (fun h46 => ?_) fun h46 => ?_
     ·refine xg 12 [] rfl rfl ?_
      refine n_ (g_in_normal (t_ (o_ ?_)))
      refine xg 3 [] rfl (by omega) ?_
      refine n_ ?_
      exact g_again ⟨(i + 1, true), by dsimp only; omega, fun _ => ⟨(gx (by assumption)).1, run_more (l := p) (P := plP p) (gx (by assumption)).2 ⟨ch, hch, by omega⟩⟩⟩ [0, 1, 7, 8, 9, 10] (by dsimp only; omega) rfl (fun w h => h.pick [0,0] rfl)
     refine xg 2 [] rfl rfl ?_
     refine g_val rfl rfl rfl (y_sidx (i := i) rfl rfl Try.underlying9 hch8) ?_
     refine xg 2 [0] rfl rfl ?_
     refine g_casep 58 rfl (fun h47 => ?_) fun h47 => ?_
     ·refine xg 2 [] rfl rfl ?_
      refine g_val rfl rfl rfl (y_sidx (i := i) rfl rfl Try.underlying9 hch8) ?_
      refine xg 4 [0] rfl rfl ?_
      refine n_ (g_in_normal (t_ (o_ ?_)))
      refine xg 3 [] rfl (by omega) ?_
      refine n_ ?_
      first | refine g_casep 9 rfl (fun h48 => ?_) (fun h48 => ?_) | refine g_caseb 9 rfl (fun h48 => ?_) (fun h48 => ?_)
      · exact g_again ⟨(i + 1, true), by dsimp only; omega, fun _ => ⟨(gx (by assumption)).1, run_more (l := p) (P := plP p) (gx (by assumption)).2 ⟨ch, hch, by omega⟩⟩⟩ [0, 1, 7, 8, 9, 10] (by dsimp only; omega) rfl (fun w h => h.pick [0,0] rfl)
      · exact g_again ⟨(i + 1, false), by dsimp only; omega, fun h => by cases h⟩ [0, 1, 7, 8, 9, 10] (by dsimp only; omega) rfl (fun w h => h.pick [0,0] rfl)
     refine xg 7 [] rfl rfl ?_
     refine n_ (g_in_normal (t_ (o_ ?_)))
     refine xg 3 [] rfl (by omega) ?_
     refine n_ ?_
     exact g_again ⟨(i + 1, false), by dsimp only; omega, fun h => by cases h⟩ [0, 1, 7, 8, 9, 10] (by dsimp only; omega) rfl (fun w h => h.pick [0,0] rfl)
    refine xg 8 [] rfl rfl ?_
    refine g_val rfl rfl rfl (y_sidx (i := i) rfl rfl Try.underlying9 hch8) ?_
    refine xg 2 [0] rfl rfl ?_
    refine g_casep 58 rfl (fun h49 => ?_) fun h49 => ?_
    ·refine xg 2 [] rfl rfl ?_
     refine g_val rfl rfl rfl (y_sidx (i := i) rfl rfl Try.underlying9 hch8) ?_
     refine xg 4 [0] rfl rfl ?_
     refine n_ (g_in_normal (t_ (o_ ?_)))
     refine xg 3 [] rfl (by omega) ?_
     refine n_ ?_
     first | refine g_casep 9 rfl (fun h50 => ?_) (fun h50 => ?_) | refine g_caseb 9 rfl (fun h50 => ?_) (fun h50 => ?_)
     · exact g_again ⟨(i + 1, true), by dsimp only; omega, fun _ => ⟨(gx (by assumption)).1, run_more (l := p) (P := plP p) (gx (by assumption)).2 ⟨ch, hch, by omega⟩⟩⟩ [0, 1, 7, 8, 9, 10] (by dsimp only; omega) rfl (fun w h => h.pick [0,0] rfl)
     · exact g_again ⟨(i + 1, false), by dsimp only; omega, fun h => by cases h⟩ [0, 1, 7, 8, 9, 10] (by dsimp only; omega) rfl (fun w h => h.pick [0,0] rfl)
    refine xg 7 [] rfl rfl ?_
    refine n_ (g_in_normal (t_ (o_ ?_)))
    refine xg 3 [] rfl (by omega) ?_
    refine n_ ?_
    exact g_again ⟨(i + 1, false), by dsimp only; omega, fun h => by cases h⟩ [0, 1, 7, 8, 9, 10] (by dsimp only; omega) rfl (fun w h => h.pick [0,0] rfl)
   refine g_cond_f rfl (g_exit (g_then_exit (g_then_exit (g_in_exit ?_))))
   exact g_fall (hj ⟨b, fun hb => by first | exact ⟨(gx hb).1, fun m h1 h2 => (gx hb).2 m h1 (by omega)⟩ | (rw [show b = false by assumption] at hb; cases hb)⟩) [0, 1, 7, 8, 9] rfl (fun w h => h.pick [0,0] rfl)
  refine xg 2 [] rfl rfl ?_
  refine n_ (t_ (g_cond_f rfl (g_exit (g_then_exit (g_then_exit (g_in_exit ?_))))))
  exact g_fall (hj ⟨b, fun hb => by first | exact ⟨(gx hb).1, fun m h1 h2 => (gx hb).2 m h1 (by omega)⟩ | (rw [show b = false by assumption] at hb; cases hb)⟩) [0, 1, 7, 8, 9] rfl (fun w h => h.pick [0,0] rfl)
 refine o_ ?_
 refine xg 1 [] rfl rfl ?_
 refine ntso_ ?_
 refine xg 2 [] rfl rfl ?_
 refine g_callNew (fun x : {x : MT × Int // parX true p x} => .tuple #[.agg (nC x.1.1).toArray, .int .i64 x.1.2]) (fun x => [.forest [x.1.1]]) rfl rfl rfl Try.call16 (fun w hS => parse_xe p w (hS.maxHere hz (by simp))) ?_
 rintro ⟨⟨t, ern⟩, hpar⟩
 obtain ⟨nk, ns, nm, nx, nu, nv, nq⟩ := t
 refine g_kids 0 rfl (fun pv cv hv => ?_)
 cases hv
 dsimp only
 simp only [List.cons_append, List.nil_append]
 refine xg 3 [] rfl rfl ?_
 refine g_alloc rfl rfl Try.zeroValue28 rfl (fun b1 => ?_)
 refine xg 2 [0] rfl (by omega) ?_
 refine ntso_ ?_
 refine xg 1 [] rfl rfl ?_
 refine g_val (v := .int .i64 (p.length : Int)) rfl rfl rfl (y_val (y_slen rfl Try.underlying9) (by rw [size_mk])) ?_
 refine xg 2 [0] rfl rfl ?_
 refine g_casep 24 rfl (fun h51 => ?_) fun h51 => ?_
 ·refine xg 1 [] rfl rfl ?_
  refine g_val (v := .int .i64 (p.length : Int)) rfl rfl rfl (y_val (y_slen rfl Try.underlying9) (by rw [size_mk])) ?_
  refine xg 3 [0] rfl rfl ?_
  refine g_casep 29 rfl (fun h52 => ?_) fun h52 => ?_
  ·refine xg 1 [] rfl rfl ?_
   refine g_val (v := .int .i64 (l.length : Int)) rfl rfl rfl (y_val (y_slen rfl Try.underlying9) (by rw [size_mk])) ?_
   refine xg 3 [0] rfl rfl ?_
   refine n_ (t_ (s_ (s_ ?_)))
   refine g_casep 9 rfl (fun h9 => ?_) fun h9 => ?_
   ·refine o_ ?_
    refine xg 1 [] rfl rfl ?_
    refine n_ (t_ ?_)
    refine g_cutc (α := {x : Bool // x = true → (1 ≤ p.length ∧ p.length ≤ 20 ∧ l.length ≤ 60) ∧ (∀ m, 0 ≤ m → m < p.length → plP p m)}) (fun x => [(0, st8 p), (1, st8 l), (7, .pointer (some ⟨b1, 0, none⟩)), (8, .int .i64 ern), (9, .bool x.1)]) (fun x => [.cells b1 28 (nC (.mk nk ns nm nx nu (.slice pv nq.length cv) nq)), .forest [(.mk nk ns nm nx nu (.slice pv nq.length cv) nq)]]) ?_ ?_
    ·rintro ⟨b, gx⟩
     try dsimp only
     refine t_ (s_ (s_ (o_ ?_)))
     refine xg 2 [] rfl rfl ?_
     refine n_ (t_ ?_)
     first | refine g_casep 66 rfl (fun h53 => ?_) fun h53 => ?_ | refine g_caseb 66 rfl (fun h53 => ?_) fun h53 => ?_
     ·refine g_cond_t rfl (s_ (o_ ?_))
      refine g_call1 rfl rfl rfl Try.call13 (fun w hS => alive_any w (hS.maxHere hz (by simp))) ?_
      refine xg 1 [] rfl rfl ?_
      refine n_ (t_ (g_ret (g_then_ret ?_)))
      refine g_end1 Try.results5 rfl ?_
      exact fun w hS => ⟨rfl, hS.below⟩
     refine g_cond_f rfl (g_skip (t_ (s_ ?_)))
     obtain ⟨hcn, hall⟩ := gx (by simpa using ‹(!b) = false›)
     obtain ⟨h0, hng, htm⟩ := plain_mM hpar (plP_all hall) hcn.1 hcn.2.1
     dsimp only at h0 hng htm
     subst h0
     refine o_ ?_
     refine xg 1 [] rfl rfl ?_
     refine n_ (t_ (s_ (s_ (o_ ?_))))
     refine xg 1 [] rfl rfl ?_
     refine n_ (t_ ?_)
     refine g_cutc (α := {x : Int // (x = -1 ∧ (∀ m, ¬ occ l p m)) ∨ (∃ a : Nat, x = a ∧ a + p.length ≤ l.length ∧ occ l p a ∧ (∀ m, m < a → ¬ occ l p m))}) (fun x => [(0, st8 p), (1, st8 l), (7, .pointer (some ⟨b1, 0, none⟩)), (8, .int .i64 0), (11, .int .i64 x.1)]) (fun x => [.cells b1 28 (nC (.mk nk ns nm nx nu (.slice pv nq.length cv) nq)), .forest [(.mk nk ns nm nx nu (.slice pv nq.length cv) nq)]]) ?_ ?_
     ·rintro ⟨at_, gx⟩
      try dsimp only
      refine t_ (s_ ?_)
      rcases gx with ⟨rfl, hno⟩ | ⟨a, rfl, ha1, ha2, ha3⟩
      ·refine o_ ?_
       refine xg 2 [0] rfl (by omega) ?_
       refine g_c1 (m_find ⟨l, false⟩ (.mk nk ns nm nx nu (.slice pv nq.length cv) nq) 0 (by show l.length ≤ _; omega) (by have := parX_size hpar; dsimp only at this; omega)) (fun w hS => forest_rd hS (i := 1) rfl) rfl rfl rfl ?_
       rw [plain_none htm hno, sp_none]
       refine xg 3 [] rfl rfl ?_
       refine g_alloc rfl rfl Try.zeroValue36 rfl (fun b11 => ?_)
       refine xg 2 [0] rfl (by omega) ?_
       refine n_ (t_ (s_ (s_ (o_ ?_))))
       refine xg 2 [1] rfl (by omega) ?_
       refine n_ (t_ (g_cond_t rfl (s_ (o_ ?_))))
       refine g_call1 rfl rfl rfl Try.call13 (fun w hS => alive_any w (hS.maxHere hz (by simp))) ?_
       refine xg 9 [1] rfl (by omega) ?_
       refine n_ (t_ (g_ret (g_then_ret ?_)))
       refine g_end1 Try.results5 rfl ?_
       exact fun w hS => ⟨rfl, hS.below⟩
      refine o_ ?_
      refine xg 2 [0] rfl (by omega) ?_
      refine g_c1 (m_find ⟨l, false⟩ (.mk nk ns nm nx nu (.slice pv nq.length cv) nq) 0 (by show l.length ≤ _; omega) (by have := parX_size hpar; dsimp only at this; omega)) (fun w hS => forest_rd hS (i := 1) rfl) rfl rfl rfl ?_
      rw [plain_some hng htm hcn.2.2 ha1 ha2 ha3, sp_found]
      refine xg 3 [] rfl rfl ?_
      refine g_alloc rfl rfl Try.zeroValue36 rfl (fun b12 => ?_)
      refine xg 2 [0] rfl (by omega) ?_
      refine n_ (t_ (s_ (s_ (o_ ?_))))
      refine xg 2 [2] rfl (by omega) ?_
      refine n_ (t_ (g_cond_f rfl (g_skip (t_ (s_ (o_ ?_))))))
      refine g_call1 rfl rfl rfl Try.call13 (fun w hS => alive_any w (hS.maxHere hz (by simp))) ?_
      refine xg 20 [1,0,1,0] rfl (by omega) ?_
      refine g_val (v := .int .i64 (p.length : Int)) rfl rfl rfl (y_val (y_slen rfl Try.underlying9) (by rw [size_mk])) ?_
      refine xg 10 [1,0,1] rfl (by omega) ?_
      refine n_ (t_ (g_ret ?_))
      refine g_end1 Try.results5 rfl ?_
      exact fun w hS => ⟨rfl, hS.below⟩
     intro hj
     refine g_block ?_
     refine g_loop (α := {x : Nat × Int // x.1 ≤ l.length + 1 ∧ ((x.2 = -1 ∧ (∀ m, m < x.1 → ¬ occ l p m)) ∨ (∃ a : Nat, x.2 = a ∧ a + p.length ≤ l.length ∧ occ l p a ∧ (∀ m, m < a → ¬ occ l p m)))}) (fun x => [(0, st8 p), (1, st8 l), (7, .pointer (some ⟨b1, 0, none⟩)), (8, .int .i64 0), (11, .int .i64 x.1.2), (12, .int .i64 (x.1.1 : Int))]) (fun x => St w [] [.cells b1 28 (nC (.mk nk ns nm nx nu (.slice pv nq.length cv) nq)), .forest [(.mk nk ns nm nx nu (.slice pv nq.length cv) nq)]]) (fun x => l.length + 1 - x.1.1) ⟨(0, -1), Nat.zero_le _, .inl ⟨rfl, fun m h => by omega⟩⟩ [0, 1, 7, 8, 11, 12] rfl (fun w h => h.pick [0,0] rfl) ?_
     rintro ⟨⟨i, at_⟩, gi, gx⟩
     dsimp only
     dsimp only at gi gx
     refine s_ (s_ (o_ ?_))
     refine xg 3 [0] rfl rfl ?_
     refine g_casep 70 rfl (fun h54 => ?_) fun h54 => ?_
     ·refine xg 2 [] rfl rfl ?_
      refine g_val (v := .int .i64 (p.length : Int)) rfl rfl rfl (y_val (y_slen rfl Try.underlying9) (by rw [size_mk])) ?_
      refine xg 2 [] rfl (by omega) ?_
      refine g_val (v := .int .i64 (l.length : Int)) rfl rfl rfl (y_val (y_slen rfl Try.underlying9) (by rw [size_mk])) ?_
      refine xg 2 [0] rfl rfl ?_
      refine n_ (t_ ?_)
      refine g_casep 78 rfl (fun h55 => ?_) fun h55 => ?_
      ·refine g_cond_t rfl (g_skip (t_ (s_ (g_block (s_ ?_)))))
       obtain ⟨rfl, gx0⟩ := occ_at gx (by omega)
       refine o_ ?_
       refine xg 4 [] rfl rfl ?_
       refine g_val (v := .int .i64 (p.length : Int)) rfl rfl rfl (y_val (y_slen rfl Try.underlying9) (by rw [size_mk])) ?_
       refine xg 4 [] rfl (by omega) ?_
       refine n_ (t_ ?_)
       refine g_casep 89 rfl (fun h56 => ?_) fun h56 => ?_
       ·refine g_cond_t rfl (o_ ?_)
        refine xg 2 [] rfl rfl ?_
        refine n_ (g_in_normal (t_ (o_ ?_)))
        refine xg 3 [] rfl (by omega) ?_
        refine n_ ?_
        exact g_again ⟨(i + 1, (i : Int)), by dsimp only; omega, .inr ⟨i, rfl, by omega, occ_iff.1 (by assumption), gx0⟩⟩ [0, 1, 7, 8, 11, 12] (by dsimp only; omega) rfl (fun w h => h.pick [0,0] rfl)
       refine g_cond_f rfl (g_skip (g_in_normal (t_ (o_ ?_))))
       refine xg 3 [] rfl (by omega) ?_
       refine n_ ?_
       exact g_again ⟨(i + 1, -1), by dsimp only; omega, .inl ⟨rfl, occ_next gx0 (by assumption)⟩⟩ [0, 1, 7, 8, 11, 12] (by dsimp only; omega) rfl (fun w h => h.pick [0,0] rfl)
      refine g_cond_f rfl (g_exit (g_then_exit (g_then_exit (g_in_exit ?_))))
      exact g_fall (hj ⟨at_, occ_stop gx hcn.1 (fun _ => by omega)⟩) [0, 1, 7, 8, 11] rfl (fun w h => h.pick [0,0] rfl)
     refine xg 8 [] rfl rfl ?_
     refine n_ (t_ (g_cond_f rfl (g_exit (g_then_exit (g_then_exit (g_in_exit ?_))))))
     exact g_fall (hj ⟨at_, occ_stop gx hcn.1 (fun _ => by omega)⟩) [0, 1, 7, 8, 11] rfl (fun w h => h.pick [0,0] rfl)
    intro hj
    refine g_block ?_
    refine g_loop (α := {x : Nat × Bool // x.1 ≤ p.length ∧ (x.2 = true → (1 ≤ p.length ∧ p.length ≤ 20 ∧ l.length ≤ 60) ∧ (∀ m, 0 ≤ m → m < x.1 → plP p m))}) (fun x => [(0, st8 p), (1, st8 l), (7, .pointer (some ⟨b1, 0, none⟩)), (8, .int .i64 ern), (9, .bool x.1.2), (10, .int .i64 (x.1.1 : Int))]) (fun x => St w [] [.cells b1 28 (nC (.mk nk ns nm nx nu (.slice pv nq.length cv) nq)), .forest [(.mk nk ns nm nx nu (.slice pv nq.length cv) nq)]]) (fun x => p.length - x.1.1) ⟨(0, true), Nat.zero_le _, fun _ => ⟨by omega, fun m h1 h2 => by omega⟩⟩ [0, 1, 7, 8, 9, 10] rfl (fun w h => h.pick [0,0] rfl) ?_
    rintro ⟨⟨i, b⟩, gi, gx⟩
    dsimp only
    dsimp only at gi gx
    refine s_ (s_ (o_ ?_))
    refine xg 2 [] rfl rfl ?_
    refine g_val (v := .int .i64 (p.length : Int)) rfl rfl rfl (y_val (y_slen rfl Try.underlying9) (by rw [size_mk])) ?_
    refine xg 2 [0] rfl rfl ?_
    refine g_casep 38 rfl (fun h57 => ?_) fun h57 => ?_
    ·refine xg 2 [] rfl rfl ?_
     refine n_ (t_ ?_)
     refine g_caseb 40 rfl (fun h58 => ?_) fun h58 => ?_
     ·refine g_cond_t rfl (g_skip (t_ (s_ (g_block (o_ ?_)))))
      refine xg 2 [] rfl rfl ?_
      obtain ⟨ch, hch, hch8⟩ := st8_get (l := p) (i := i) (by omega)
      refine g_val rfl rfl rfl (y_sidx (i := i) rfl rfl Try.underlying9 hch8) ?_
      refine xg 2 [0] rfl rfl ?_
      refine g_casep 47 rfl (fun h59 => ?_) fun h59 => ?_
      ·refine xg 2 [] rfl rfl ?_
       refine g_val rfl rfl rfl (y_sidx (i := i) rfl rfl Try.underlying9 hch8) ?_
       refine xg 3 [0] rfl rfl ?_
       refine g_casep 53 rfl (fun h60 => ?_) fun h60 => ?_
       ·refine xg 12 [] rfl rfl ?_
        refine n_ (g_in_normal (t_ (o_ ?_)))
        refine xg 3 [] rfl (by omega) ?_
        refine n_ ?_
        exact g_again ⟨(i + 1, true), by dsimp only; omega, fun _ => ⟨(gx (by assumption)).1, run_more (l := p) (P := plP p) (gx (by assumption)).2 ⟨ch, hch, by omega⟩⟩⟩ [0, 1, 7, 8, 9, 10] (by dsimp only; omega) rfl (fun w h => h.pick [0,0] rfl)
       refine xg 2 [] rfl rfl ?_
       refine g_val rfl rfl rfl (y_sidx (i := i) rfl rfl Try.underlying9 hch8) ?_
       refine xg 2 [0] rfl rfl ?_
       refine g_casep 58 rfl (fun h61 => ?_) fun h61 => ?_
       ·refine xg 2 [] rfl rfl ?_
        refine g_val rfl rfl rfl (y_sidx (i := i) rfl rfl Try.underlying9 hch8) ?_
        refine xg 4 [0] rfl rfl ?_
        refine n_ (g_in_normal (t_ (o_ ?_)))
        refine xg 3 [] rfl (by omega) ?_
        refine n_ ?_
        first | refine g_casep 9 rfl (fun h62 => ?_) (fun h62 => ?_) | refine g_caseb 9 rfl (fun h62 => ?_) (fun h62 => ?_)
        · exact g_again ⟨(i + 1, true), by dsimp only; omega, fun _ => ⟨(gx (by assumption)).1, run_more (l := p) (P := plP p) (gx (by assumption)).2 ⟨ch, hch, by omega⟩⟩⟩ [0, 1, 7, 8, 9, 10] (by dsimp only; omega) rfl (fun w h => h.pick [0,0] rfl)
        · exact g_again ⟨(i + 1, false), by dsimp only; omega, fun h => by cases h⟩ [0, 1, 7, 8, 9, 10] (by dsimp only; omega) rfl (fun w h => h.pick [0,0] rfl)
       refine xg 7 [] rfl rfl ?_
       refine n_ (g_in_normal (t_ (o_ ?_)))
       refine xg 3 [] rfl (by omega) ?_
       refine n_ ?_
       exact g_again ⟨(i + 1, false), by dsimp only; omega, fun h => by cases h⟩ [0, 1, 7, 8, 9, 10] (by dsimp only; omega) rfl (fun w h => h.pick [0,0] rfl)
      refine xg 8 [] rfl rfl ?_
      refine g_val rfl rfl rfl (y_sidx (i := i) rfl rfl Try.underlying9 hch8) ?_
      refine xg 2 [0] rfl rfl ?_
      refine g_casep 58 rfl (fun h63 => ?_) fun h63 => ?_
      ·refine xg 2 [] rfl rfl ?_
       refine g_val rfl rfl rfl (y_sidx (i := i) rfl rfl Try.underlying9 hch8) ?_
       refine xg 4 [0] rfl rfl ?_
       refine n_ (g_in_normal (t_ (o_ ?_)))
       refine xg 3 [] rfl (by omega) ?_
       refine n_ ?_
       first | refine g_casep 9 rfl (fun h64 => ?_) (fun h64 => ?_) | refine g_caseb 9 rfl (fun h64 => ?_) (fun h64 => ?_)
       · exact g_again ⟨(i + 1, true), by dsimp only; omega, fun _ => ⟨(gx (by assumption)).1, run_more (l := p) (P := plP p) (gx (by assumption)).2 ⟨ch, hch, by omega⟩⟩⟩ [0, 1, 7, 8, 9, 10] (by dsimp only; omega) rfl (fun w h => h.pick [0,0] rfl)
       · exact g_again ⟨(i + 1, false), by dsimp only; omega, fun h => by cases h⟩ [0, 1, 7, 8, 9, 10] (by dsimp only; omega) rfl (fun w h => h.pick [0,0] rfl)
      refine xg 7 [] rfl rfl ?_
      refine n_ (g_in_normal (t_ (o_ ?_)))
      refine xg 3 [] rfl (by omega) ?_
      refine n_ ?_
      exact g_again ⟨(i + 1, false), by dsimp only; omega, fun h => by cases h⟩ [0, 1, 7, 8, 9, 10] (by dsimp only; omega) rfl (fun w h => h.pick [0,0] rfl)
     refine g_cond_f rfl (g_exit (g_then_exit (g_then_exit (g_in_exit ?_))))
     exact g_fall (hj ⟨b, fun hb => by first | exact ⟨(gx hb).1, fun m h1 h2 => (gx hb).2 m h1 (by omega)⟩ | (rw [show b = false by assumption] at hb; cases hb)⟩) [0, 1, 7, 8, 9] rfl (fun w h => h.pick [0,0] rfl)
    refine xg 2 [] rfl rfl ?_
    refine n_ (t_ (g_cond_f rfl (g_exit (g_then_exit (g_then_exit (g_in_exit ?_))))))
    exact g_fall (hj ⟨b, fun hb => by first | exact ⟨(gx hb).1, fun m h1 h2 => (gx hb).2 m h1 (by omega)⟩ | (rw [show b = false by assumption] at hb; cases hb)⟩) [0, 1, 7, 8, 9] rfl (fun w h => h.pick [0,0] rfl)
   refine o_ ?_
   refine xg 1 [] rfl rfl ?_
   refine n_ (t_ ?_)
   refine g_cutc (α := {x : Bool // x = true → (1 ≤ p.length ∧ p.length ≤ 20 ∧ l.length ≤ 60) ∧ (∀ m, 0 ≤ m → m < p.length → plP p m)}) (fun x => [(0, st8 p), (1, st8 l), (7, .pointer (some ⟨b1, 0, none⟩)), (8, .int .i64 ern), (9, .bool x.1)]) (fun x => [.cells b1 28 (nC (.mk nk ns nm nx nu (.slice pv nq.length cv) nq)), .forest [(.mk nk ns nm nx nu (.slice pv nq.length cv) nq)]]) ?_ ?_
   ·rintro ⟨b, gx⟩
    try dsimp only
    refine t_ (s_ (s_ (o_ ?_)))
    refine xg 2 [] rfl rfl ?_
    refine n_ (t_ ?_)
    first | refine g_casep 66 rfl (fun h65 => ?_) fun h65 => ?_ | refine g_caseb 66 rfl (fun h65 => ?_) fun h65 => ?_
    ·refine g_cond_t rfl (s_ (o_ ?_))
     refine g_call1 rfl rfl rfl Try.call13 (fun w hS => alive_any w (hS.maxHere hz (by simp))) ?_
     refine xg 1 [] rfl rfl ?_
     refine n_ (t_ (g_ret (g_then_ret ?_)))
     refine g_end1 Try.results5 rfl ?_
     exact fun w hS => ⟨rfl, hS.below⟩
    refine g_cond_f rfl (g_skip (t_ (s_ ?_)))
    obtain ⟨hcn, hall⟩ := gx (by simpa using ‹(!b) = false›)
    obtain ⟨h0, hng, htm⟩ := plain_mM hpar (plP_all hall) hcn.1 hcn.2.1
    dsimp only at h0 hng htm
    subst h0
    refine o_ ?_
    refine xg 1 [] rfl rfl ?_
    refine n_ (t_ (s_ (s_ (o_ ?_))))
    refine xg 1 [] rfl rfl ?_
    refine n_ (t_ ?_)
    refine g_cutc (α := {x : Int // (x = -1 ∧ (∀ m, ¬ occ l p m)) ∨ (∃ a : Nat, x = a ∧ a + p.length ≤ l.length ∧ occ l p a ∧ (∀ m, m < a → ¬ occ l p m))}) (fun x => [(0, st8 p), (1, st8 l), (7, .pointer (some ⟨b1, 0, none⟩)), (8, .int .i64 0), (11, .int .i64 x.1)]) (fun x => [.cells b1 28 (nC (.mk nk ns nm nx nu (.slice pv nq.length cv) nq)), .forest [(.mk nk ns nm nx nu (.slice pv nq.length cv) nq)]]) ?_ ?_
    ·rintro ⟨at_, gx⟩
     try dsimp only
     refine t_ (s_ ?_)
     rcases gx with ⟨rfl, hno⟩ | ⟨a, rfl, ha1, ha2, ha3⟩
     ·refine o_ ?_
      refine xg 2 [0] rfl (by omega) ?_
      refine g_c1 (m_find ⟨l, false⟩ (.mk nk ns nm nx nu (.slice pv nq.length cv) nq) 0 (by show l.length ≤ _; omega) (by have := parX_size hpar; dsimp only at this; omega)) (fun w hS => forest_rd hS (i := 1) rfl) rfl rfl rfl ?_
      rw [plain_none htm hno, sp_none]
      refine xg 3 [] rfl rfl ?_
      refine g_alloc rfl rfl Try.zeroValue36 rfl (fun b13 => ?_)
      refine xg 2 [0] rfl (by omega) ?_
      refine n_ (t_ (s_ (s_ (o_ ?_))))
      refine xg 2 [1] rfl (by omega) ?_
      refine n_ (t_ (g_cond_t rfl (s_ (o_ ?_))))
      refine g_call1 rfl rfl rfl Try.call13 (fun w hS => alive_any w (hS.maxHere hz (by simp))) ?_
      refine xg 9 [1] rfl (by omega) ?_
      refine n_ (t_ (g_ret (g_then_ret ?_)))
      refine g_end1 Try.results5 rfl ?_
      exact fun w hS => ⟨rfl, hS.below⟩
     refine o_ ?_
     refine xg 2 [0] rfl (by omega) ?_
     refine g_c1 (m_find ⟨l, false⟩ (.mk nk ns nm nx nu (.slice pv nq.length cv) nq) 0 (by show l.length ≤ _; omega) (by have := parX_size hpar; dsimp only at this; omega)) (fun w hS => forest_rd hS (i := 1) rfl) rfl rfl rfl ?_
     rw [plain_some hng htm hcn.2.2 ha1 ha2 ha3, sp_found]
     refine xg 3 [] rfl rfl ?_
     refine g_alloc rfl rfl Try.zeroValue36 rfl (fun b14 => ?_)
     refine xg 2 [0] rfl (by omega) ?_
     refine n_ (t_ (s_ (s_ (o_ ?_))))
     refine xg 2 [2] rfl (by omega) ?_
     refine n_ (t_ (g_cond_f rfl (g_skip (t_ (s_ (o_ ?_))))))
     refine g_call1 rfl rfl rfl Try.call13 (fun w hS => alive_any w (hS.maxHere hz (by simp))) ?_
     refine xg 20 [1,0,1,0] rfl (by omega) ?_
     refine g_val (v := .int .i64 (p.length : Int)) rfl rfl rfl (y_val (y_slen rfl Try.underlying9) (by rw [size_mk])) ?_
     refine xg 10 [1,0,1] rfl (by omega) ?_
     refine n_ (t_ (g_ret ?_))
     refine g_end1 Try.results5 rfl ?_
     exact fun w hS => ⟨rfl, hS.below⟩
    intro hj
    refine g_block ?_
    refine g_loop (α := {x : Nat × Int // x.1 ≤ l.length + 1 ∧ ((x.2 = -1 ∧ (∀ m, m < x.1 → ¬ occ l p m)) ∨ (∃ a : Nat, x.2 = a ∧ a + p.length ≤ l.length ∧ occ l p a ∧ (∀ m, m < a → ¬ occ l p m)))}) (fun x => [(0, st8 p), (1, st8 l), (7, .pointer (some ⟨b1, 0, none⟩)), (8, .int .i64 0), (11, .int .i64 x.1.2), (12, .int .i64 (x.1.1 : Int))]) (fun x => St w [] [.cells b1 28 (nC (.mk nk ns nm nx nu (.slice pv nq.length cv) nq)), .forest [(.mk nk ns nm nx nu (.slice pv nq.length cv) nq)]]) (fun x => l.length + 1 - x.1.1) ⟨(0, -1), Nat.zero_le _, .inl ⟨rfl, fun m h => by omega⟩⟩ [0, 1, 7, 8, 11, 12] rfl (fun w h => h.pick [0,0] rfl) ?_
    rintro ⟨⟨i, at_⟩, gi, gx⟩
    dsimp only
    dsimp only at gi gx
    refine s_ (s_ (o_ ?_))
    refine xg 3 [0] rfl rfl ?_
    refine g_casep 70 rfl (fun h66 => ?_) fun h66 => ?_
    ·refine xg 2 [] rfl rfl ?_
     refine g_val (v := .int .i64 (p.length : Int)) rfl rfl rfl (y_val (y_slen rfl Try.underlying9) (by rw [size_mk])) ?_
     refine xg 2 [] rfl (by omega) ?_
     refine g_val (v := .int .i64 (l.length : Int)) rfl rfl rfl (y_val (y_slen rfl Try.underlying9) (by rw [size_mk])) ?_
     refine xg 2 [0] rfl rfl ?_
     refine n_ (t_ ?_)
     refine g_casep 78 rfl (fun h67 => ?_) fun h67 => ?_
     ·refine g_cond_t rfl (g_skip (t_ (s_ (g_block (s_ ?_)))))
      obtain ⟨rfl, gx0⟩ := occ_at gx (by omega)
      refine o_ ?_
      refine xg 4 [] rfl rfl ?_
      refine g_val (v := .int .i64 (p.length : Int)) rfl rfl rfl (y_val (y_slen rfl Try.underlying9) (by rw [size_mk])) ?_
      refine xg 4 [] rfl (by omega) ?_
      refine n_ (t_ ?_)
      refine g_casep 89 rfl (fun h68 => ?_) fun h68 => ?_
      ·refine g_cond_t rfl (o_ ?_)
       refine xg 2 [] rfl rfl ?_
       refine n_ (g_in_normal (t_ (o_ ?_)))
       refine xg 3 [] rfl (by omega) ?_
       refine n_ ?_
       exact g_again ⟨(i + 1, (i : Int)), by dsimp only; omega, .inr ⟨i, rfl, by omega, occ_iff.1 (by assumption), gx0⟩⟩ [0, 1, 7, 8, 11, 12] (by dsimp only; omega) rfl (fun w h => h.pick [0,0] rfl)
      refine g_cond_f rfl (g_skip (g_in_normal (t_ (o_ ?_))))
      refine xg 3 [] rfl (by omega) ?_
      refine n_ ?_
      exact g_again ⟨(i + 1, -1), by dsimp only; omega, .inl ⟨rfl, occ_next gx0 (by assumption)⟩⟩ [0, 1, 7, 8, 11, 12] (by dsimp only; omega) rfl (fun w h => h.pick [0,0] rfl)
     refine g_cond_f rfl (g_exit (g_then_exit (g_then_exit (g_in_exit ?_))))
     exact g_fall (hj ⟨at_, occ_stop gx hcn.1 (fun _ => by omega)⟩) [0, 1, 7, 8, 11] rfl (fun w h => h.pick [0,0] rfl)
    refine xg 8 [] rfl rfl ?_
    refine n_ (t_ (g_cond_f rfl (g_exit (g_then_exit (g_then_exit (g_in_exit ?_))))))
    exact g_fall (hj ⟨at_, occ_stop gx hcn.1 (fun _ => by omega)⟩) [0, 1, 7, 8, 11] rfl (fun w h => h.pick [0,0] rfl)
   intro hj
   refine g_block ?_
   refine g_loop (α := {x : Nat × Bool // x.1 ≤ p.length ∧ (x.2 = true → (1 ≤ p.length ∧ p.length ≤ 20 ∧ l.length ≤ 60) ∧ (∀ m, 0 ≤ m → m < x.1 → plP p m))}) (fun x => [(0, st8 p), (1, st8 l), (7, .pointer (some ⟨b1, 0, none⟩)), (8, .int .i64 ern), (9, .bool x.1.2), (10, .int .i64 (x.1.1 : Int))]) (fun x => St w [] [.cells b1 28 (nC (.mk nk ns nm nx nu (.slice pv nq.length cv) nq)), .forest [(.mk nk ns nm nx nu (.slice pv nq.length cv) nq)]]) (fun x => p.length - x.1.1) ⟨(0, false), Nat.zero_le _, fun h => by cases h⟩ [0, 1, 7, 8, 9, 10] rfl (fun w h => h.pick [0,0] rfl) ?_
   rintro ⟨⟨i, b⟩, gi, gx⟩
   dsimp only
   dsimp only at gi gx
   refine s_ (s_ (o_ ?_))
   refine xg 2 [] rfl rfl ?_
   refine g_val (v := .int .i64 (p.length : Int)) rfl rfl rfl (y_val (y_slen rfl Try.underlying9) (by rw [size_mk])) ?_
   refine xg 2 [0] rfl rfl ?_
   refine g_casep 38 rfl (fun h69 => ?_) fun h69 => ?_
   ·refine xg 2 [] rfl rfl ?_
    refine n_ (t_ ?_)
    refine g_caseb 40 rfl (fun h70 => ?_) fun h70 => ?_
    ·refine g_cond_t rfl (g_skip (t_ (s_ (g_block (o_ ?_)))))
     refine xg 2 [] rfl rfl ?_
     obtain ⟨ch, hch, hch8⟩ := st8_get (l := p) (i := i) (by omega)
     refine g_val rfl rfl rfl (y_sidx (i := i) rfl rfl Try.underlying9 hch8) ?_
     refine xg 2 [0] rfl rfl ?_
     refine g_casep 47 rfl (fun h71 => ?_) fun h71 => ?_
     ·refine xg 2 [] rfl rfl ?_
      refine g_val rfl rfl rfl (y_sidx (i := i) rfl rfl Try.underlying9 hch8) ?_
      refine xg 3 [0] rfl rfl ?_
      refine g_casep 53 rfl (fun h72 => ?_) fun h72 => ?_
      ·refine xg 12 [] rfl rfl ?_
       refine n_ (g_in_normal (t_ (o_ ?_)))
       refine xg 3 [] rfl (by omega) ?_
       refine n_ ?_
       exact g_again ⟨(i + 1, true), by dsimp only; omega, fun _ => ⟨(gx (by assumption)).1, run_more (l := p) (P := plP p) (gx (by assumption)).2 ⟨ch, hch, by omega⟩⟩⟩ [0, 1, 7, 8, 9, 10] (by dsimp only; omega) rfl (fun w h => h.pick [0,0] rfl)
      refine xg 2 [] rfl rfl ?_
      refine g_val rfl rfl rfl (y_sidx (i := i) rfl rfl Try.underlying9 hch8) ?_
      refine xg 2 [0] rfl rfl ?_
      refine g_casep 58 rfl (fun h73 => ?_) fun h73 => ?_
      ·refine xg 2 [] rfl rfl ?_
       refine g_val rfl rfl rfl (y_sidx (i := i) rfl rfl Try.underlying9 hch8) ?_
       refine xg 4 [0] rfl rfl ?_
       refine n_ (g_in_normal (t_ (o_ ?_)))
       refine xg 3 [] rfl (by omega) ?_
       refine n_ ?_
       first | refine g_casep 9 rfl (fun h74 => ?_) (fun h74 => ?_) | refine g_caseb 9 rfl (fun h74 => ?_) (fun h74 => ?_)
       · exact g_again ⟨(i + 1, true), by dsimp only; omega, fun _ => ⟨(gx (by assumption)).1, run_more (l := p) (P := plP p) (gx (by assumption)).2 ⟨ch, hch, by omega⟩⟩⟩ [0, 1, 7, 8, 9, 10] (by dsimp only; omega) rfl (fun w h => h.pick [0,0] rfl)
       · exact g_again ⟨(i + 1, false), by dsimp only; omega, fun h => by cases h⟩ [0, 1, 7, 8, 9, 10] (by dsimp only; omega) rfl (fun w h => h.pick [0,0] rfl)
      refine xg 7 [] rfl rfl ?_
      refine n_ (g_in_normal (t_ (o_ ?_)))
      refine xg 3 [] rfl (by omega) ?_
      refine n_ ?_
      exact g_again ⟨(i + 1, false), by dsimp only; omega, fun h => by cases h⟩ [0, 1, 7, 8, 9, 10] (by dsimp only; omega) rfl (fun w h => h.pick [0,0] rfl)
     refine xg 8 [] rfl rfl ?_
     refine g_val rfl rfl rfl (y_sidx (i := i) rfl rfl Try.underlying9 hch8) ?_
     refine xg 2 [0] rfl rfl ?_
     refine g_casep 58 rfl (fun h75 => ?_) fun h75 => ?_
     ·refine xg 2 [] rfl rfl ?_
      refine g_val rfl rfl rfl (y_sidx (i := i) rfl rfl Try.underlying9 hch8) ?_
      refine xg 4 [0] rfl rfl ?_
      refine n_ (g_in_normal (t_ (o_ ?_)))
      refine xg 3 [] rfl (by omega) ?_
      refine n_ ?_
      first | refine g_casep 9 rfl (fun h76 => ?_) (fun h76 => ?_) | refine g_caseb 9 rfl (fun h76 => ?_) (fun h76 => ?_)
      · exact g_again ⟨(i + 1, true), by dsimp only; omega, fun _ => ⟨(gx (by assumption)).1, run_more (l := p) (P := plP p) (gx (by assumption)).2 ⟨ch, hch, by omega⟩⟩⟩ [0, 1, 7, 8, 9, 10] (by dsimp only; omega) rfl (fun w h => h.pick [0,0] rfl)
      · exact g_again ⟨(i + 1, false), by dsimp only; omega, fun h => by cases h⟩ [0, 1, 7, 8, 9, 10] (by dsimp only; omega) rfl (fun w h => h.pick [0,0] rfl)
     refine xg 7 [] rfl rfl ?_
     refine n_ (g_in_normal (t_ (o_ ?_)))
     refine xg 3 [] rfl (by omega) ?_
     refine n_ ?_
     exact g_again ⟨(i + 1, false), by dsimp only; omega, fun h => by cases h⟩ [0, 1, 7, 8, 9, 10] (by dsimp only; omega) rfl (fun w h => h.pick [0,0] rfl)
    refine g_cond_f rfl (g_exit (g_then_exit (g_then_exit (g_in_exit ?_))))
    exact g_fall (hj ⟨b, fun hb => by first | exact ⟨(gx hb).1, fun m h1 h2 => (gx hb).2 m h1 (by omega)⟩ | (rw [show b = false by assumption] at hb; cases hb)⟩) [0, 1, 7, 8, 9] rfl (fun w h => h.pick [0,0] rfl)
   refine xg 2 [] rfl rfl ?_
   refine n_ (t_ (g_cond_f rfl (g_exit (g_then_exit (g_then_exit (g_in_exit ?_))))))
   exact g_fall (hj ⟨b, fun hb => by first | exact ⟨(gx hb).1, fun m h1 h2 => (gx hb).2 m h1 (by omega)⟩ | (rw [show b = false by assumption] at hb; cases hb)⟩) [0, 1, 7, 8, 9] rfl (fun w h => h.pick [0,0] rfl)
  refine xg 5 [] rfl rfl ?_
  refine n_ (t_ (s_ (s_ (o_ ?_))))
  refine xg 1 [] rfl rfl ?_
  refine n_ (t_ ?_)
  refine g_cutc (α := {x : Bool // x = true → (1 ≤ p.length ∧ p.length ≤ 20 ∧ l.length ≤ 60) ∧ (∀ m, 0 ≤ m → m < p.length → plP p m)}) (fun x => [(0, st8 p), (1, st8 l), (7, .pointer (some ⟨b1, 0, none⟩)), (8, .int .i64 ern), (9, .bool x.1)]) (fun x => [.cells b1 28 (nC (.mk nk ns nm nx nu (.slice pv nq.length cv) nq)), .forest [(.mk nk ns nm nx nu (.slice pv nq.length cv) nq)]]) ?_ ?_
  ·rintro ⟨b, gx⟩
   try dsimp only
   refine t_ (s_ (s_ (o_ ?_)))
   refine xg 2 [] rfl rfl ?_
   refine n_ (t_ ?_)
   first | refine g_casep 66 rfl (fun h77 => ?_) fun h77 => ?_ | refine g_caseb 66 rfl (fun h77 => ?_) fun h77 => ?_
   ·refine g_cond_t rfl (s_ (o_ ?_))
    refine g_call1 rfl rfl rfl Try.call13 (fun w hS => alive_any w (hS.maxHere hz (by simp))) ?_
    refine xg 1 [] rfl rfl ?_
    refine n_ (t_ (g_ret (g_then_ret ?_)))
    refine g_end1 Try.results5 rfl ?_
    exact fun w hS => ⟨rfl, hS.below⟩
   refine g_cond_f rfl (g_skip (t_ (s_ ?_)))
   obtain ⟨hcn, hall⟩ := gx (by simpa using ‹(!b) = false›)
   obtain ⟨h0, hng, htm⟩ := plain_mM hpar (plP_all hall) hcn.1 hcn.2.1
   dsimp only at h0 hng htm
   subst h0
   refine o_ ?_
   refine xg 1 [] rfl rfl ?_
   refine n_ (t_ (s_ (s_ (o_ ?_))))
   refine xg 1 [] rfl rfl ?_
   refine n_ (t_ ?_)
   refine g_cutc (α := {x : Int // (x = -1 ∧ (∀ m, ¬ occ l p m)) ∨ (∃ a : Nat, x = a ∧ a + p.length ≤ l.length ∧ occ l p a ∧ (∀ m, m < a → ¬ occ l p m))}) (fun x => [(0, st8 p), (1, st8 l), (7, .pointer (some ⟨b1, 0, none⟩)), (8, .int .i64 0), (11, .int .i64 x.1)]) (fun x => [.cells b1 28 (nC (.mk nk ns nm nx nu (.slice pv nq.length cv) nq)), .forest [(.mk nk ns nm nx nu (.slice pv nq.length cv) nq)]]) ?_ ?_
   ·rintro ⟨at_, gx⟩
    try dsimp only
    refine t_ (s_ ?_)
    rcases gx with ⟨rfl, hno⟩ | ⟨a, rfl, ha1, ha2, ha3⟩
    ·refine o_ ?_
     refine xg 2 [0] rfl (by omega) ?_
     refine g_c1 (m_find ⟨l, false⟩ (.mk nk ns nm nx nu (.slice pv nq.length cv) nq) 0 (by show l.length ≤ _; omega) (by have := parX_size hpar; dsimp only at this; omega)) (fun w hS => forest_rd hS (i := 1) rfl) rfl rfl rfl ?_
     rw [plain_none htm hno, sp_none]
     refine xg 3 [] rfl rfl ?_
     refine g_alloc rfl rfl Try.zeroValue36 rfl (fun b15 => ?_)
     refine xg 2 [0] rfl (by omega) ?_
     refine n_ (t_ (s_ (s_ (o_ ?_))))
     refine xg 2 [1] rfl (by omega) ?_
     refine n_ (t_ (g_cond_t rfl (s_ (o_ ?_))))
     refine g_call1 rfl rfl rfl Try.call13 (fun w hS => alive_any w (hS.maxHere hz (by simp))) ?_
     refine xg 9 [1] rfl (by omega) ?_
     refine n_ (t_ (g_ret (g_then_ret ?_)))
     refine g_end1 Try.results5 rfl ?_
     exact fun w hS => ⟨rfl, hS.below⟩
    refine o_ ?_
    refine xg 2 [0] rfl (by omega) ?_
    refine g_c1 (m_find ⟨l, false⟩ (.mk nk ns nm nx nu (.slice pv nq.length cv) nq) 0 (by show l.length ≤ _; omega) (by have := parX_size hpar; dsimp only at this; omega)) (fun w hS => forest_rd hS (i := 1) rfl) rfl rfl rfl ?_
    rw [plain_some hng htm hcn.2.2 ha1 ha2 ha3, sp_found]
    refine xg 3 [] rfl rfl ?_
    refine g_alloc rfl rfl Try.zeroValue36 rfl (fun b16 => ?_)
    refine xg 2 [0] rfl (by omega) ?_
    refine n_ (t_ (s_ (s_ (o_ ?_))))
    refine xg 2 [2] rfl (by omega) ?_
    refine n_ (t_ (g_cond_f rfl (g_skip (t_ (s_ (o_ ?_))))))
    refine g_call1 rfl rfl rfl Try.call13 (fun w hS => alive_any w (hS.maxHere hz (by simp))) ?_
    refine xg 20 [1,0,1,0] rfl (by omega) ?_
    refine g_val (v := .int .i64 (p.length : Int)) rfl rfl rfl (y_val (y_slen rfl Try.underlying9) (by rw [size_mk])) ?_
    refine xg 10 [1,0,1] rfl (by omega) ?_
    refine n_ (t_ (g_ret ?_))
    refine g_end1 Try.results5 rfl ?_
    exact fun w hS => ⟨rfl, hS.below⟩
   intro hj
   refine g_block ?_
   refine g_loop (α := {x : Nat × Int // x.1 ≤ l.length + 1 ∧ ((x.2 = -1 ∧ (∀ m, m < x.1 → ¬ occ l p m)) ∨ (∃ a : Nat, x.2 = a ∧ a + p.length ≤ l.length ∧ occ l p a ∧ (∀ m, m < a → ¬ occ l p m)))}) (fun x => [(0, st8 p), (1, st8 l), (7, .pointer (some ⟨b1, 0, none⟩)), (8, .int .i64 0), (11, .int .i64 x.1.2), (12, .int .i64 (x.1.1 : Int))]) (fun x => St w [] [.cells b1 28 (nC (.mk nk ns nm nx nu (.slice pv nq.length cv) nq)), .forest [(.mk nk ns nm nx nu (.slice pv nq.length cv) nq)]]) (fun x => l.length + 1 - x.1.1) ⟨(0, -1), Nat.zero_le _, .inl ⟨rfl, fun m h => by omega⟩⟩ [0, 1, 7, 8, 11, 12] rfl (fun w h => h.pick [0,0] rfl) ?_
   rintro ⟨⟨i, at_⟩, gi, gx⟩
   dsimp only
   dsimp only at gi gx
   refine s_ (s_ (o_ ?_))
   refine xg 3 [0] rfl rfl ?_
   refine g_casep 70 rfl (fun h78 => ?_) fun h78 => ?_
   ·refine xg 2 [] rfl rfl ?_
    refine g_val (v := .int .i64 (p.length : Int)) rfl rfl rfl (y_val (y_slen rfl Try.underlying9) (by rw [size_mk])) ?_
    refine xg 2 [] rfl (by omega) ?_
    refine g_val (v := .int .i64 (l.length : Int)) rfl rfl rfl (y_val (y_slen rfl Try.underlying9) (by rw [size_mk])) ?_
    refine xg 2 [0] rfl rfl ?_
    refine n_ (t_ ?_)
    refine g_casep 78 rfl (fun h79 => ?_) fun h79 => ?_
    ·refine g_cond_t rfl (g_skip (t_ (s_ (g_block (s_ ?_)))))
     obtain ⟨rfl, gx0⟩ := occ_at gx (by omega)
     refine o_ ?_
     refine xg 4 [] rfl rfl ?_
     refine g_val (v := .int .i64 (p.length : Int)) rfl rfl rfl (y_val (y_slen rfl Try.underlying9) (by rw [size_mk])) ?_
     refine xg 4 [] rfl (by omega) ?_
     refine n_ (t_ ?_)
     refine g_casep 89 rfl (fun h80 => ?_) fun h80 => ?_
     ·refine g_cond_t rfl (o_ ?_)
      refine xg 2 [] rfl rfl ?_
      refine n_ (g_in_normal (t_ (o_ ?_)))
      refine xg 3 [] rfl (by omega) ?_
      refine n_ ?_
      exact g_again ⟨(i + 1, (i : Int)), by dsimp only; omega, .inr ⟨i, rfl, by omega, occ_iff.1 (by assumption), gx0⟩⟩ [0, 1, 7, 8, 11, 12] (by dsimp only; omega) rfl (fun w h => h.pick [0,0] rfl)
     refine g_cond_f rfl (g_skip (g_in_normal (t_ (o_ ?_))))
     refine xg 3 [] rfl (by omega) ?_
     refine n_ ?_
     exact g_again ⟨(i + 1, -1), by dsimp only; omega, .inl ⟨rfl, occ_next gx0 (by assumption)⟩⟩ [0, 1, 7, 8, 11, 12] (by dsimp only; omega) rfl (fun w h => h.pick [0,0] rfl)
    refine g_cond_f rfl (g_exit (g_then_exit (g_then_exit (g_in_exit ?_))))
    exact g_fall (hj ⟨at_, occ_stop gx hcn.1 (fun _ => by omega)⟩) [0, 1, 7, 8, 11] rfl (fun w h => h.pick [0,0] rfl)
   refine xg 8 [] rfl rfl ?_
   refine n_ (t_ (g_cond_f rfl (g_exit (g_then_exit (g_then_exit (g_in_exit ?_))))))
   exact g_fall (hj ⟨at_, occ_stop gx hcn.1 (fun _ => by omega)⟩) [0, 1, 7, 8, 11] rfl (fun w h => h.pick [0,0] rfl)
  intro hj
  refine g_block ?_
  refine g_loop (α := {x : Nat × Bool // x.1 ≤ p.length ∧ (x.2 = true → (1 ≤ p.length ∧ p.length ≤ 20 ∧ l.length ≤ 60) ∧ (∀ m, 0 ≤ m → m < x.1 → plP p m))}) (fun x => [(0, st8 p), (1, st8 l), (7, .pointer (some ⟨b1, 0, none⟩)), (8, .int .i64 ern), (9, .bool x.1.2), (10, .int .i64 (x.1.1 : Int))]) (fun x => St w [] [.cells b1 28 (nC (.mk nk ns nm nx nu (.slice pv nq.length cv) nq)), .forest [(.mk nk ns nm nx nu (.slice pv nq.length cv) nq)]]) (fun x => p.length - x.1.1) ⟨(0, false), Nat.zero_le _, fun h => by cases h⟩ [0, 1, 7, 8, 9, 10] rfl (fun w h => h.pick [0,0] rfl) ?_
  rintro ⟨⟨i, b⟩, gi, gx⟩
  dsimp only
  dsimp only at gi gx
  refine s_ (s_ (o_ ?_))
  refine xg 2 [] rfl rfl ?_
  refine g_val (v := .int .i64 (p.length : Int)) rfl rfl rfl (y_val (y_slen rfl Try.underlying9) (by rw [size_mk])) ?_
  refine xg 2 [0] rfl rfl ?_
  refine g_casep 38 rfl (fun h81 => ?_) fun h81 => ?_
  ·refine xg 2 [] rfl rfl ?_
   refine n_ (t_ ?_)
   refine g_caseb 40 rfl (fun h82 => ?_) fun h82 => ?_
   ·refine g_cond_t rfl (g_skip (t_ (s_ (g_block (o_ ?_)))))
    refine xg 2 [] rfl rfl ?_
    obtain ⟨ch, hch, hch8⟩ := st8_get (l := p) (i := i) (by omega)
    refine g_val rfl rfl rfl (y_sidx (i := i) rfl rfl Try.underlying9 hch8) ?_
    refine xg 2 [0] rfl rfl ?_
    refine g_casep 47 rfl (fun h83 => ?_) fun h83 => ?_
    ·refine xg 2 [] rfl rfl ?_
     refine g_val rfl rfl rfl (y_sidx (i := i) rfl rfl Try.underlying9 hch8) ?_
     refine xg 3 [0] rfl rfl ?_
     refine g_casep 53 rfl (fun h84 => ?_) fun h84 => ?_
     ·refine xg 12 [] rfl rfl ?_
      refine n_ (g_in_normal (t_ (o_ ?_)))
      refine xg 3 [] rfl (by omega) ?_
      refine n_ ?_
      exact g_again ⟨(i + 1, true), by dsimp only; omega, fun _ => ⟨(gx (by assumption)).1, run_more (l := p) (P := plP p) (gx (by assumption)).2 ⟨ch, hch, by omega⟩⟩⟩ [0, 1, 7, 8, 9, 10] (by dsimp only; omega) rfl (fun w h => h.pick [0,0] rfl)
     refine xg 2 [] rfl rfl ?_
     refine g_val rfl rfl rfl (y_sidx (i := i) rfl rfl Try.underlying9 hch8) ?_
     refine xg 2 [0] rfl rfl ?_
     refine g_casep 58 rfl (fun h85 => ?_) fun h85 => ?_
     ·refine xg 2 [] rfl rfl ?_
      refine g_val rfl rfl rfl (y_sidx (i := i) rfl rfl Try.underlying9 hch8) ?_
      refine xg 4 [0] rfl rfl ?_
      refine n_ (g_in_normal (t_ (o_ ?_)))
      refine xg 3 [] rfl (by omega) ?_
      refine n_ ?_
      first | refine g_casep 9 rfl (fun h86 => ?_) (fun h86 => ?_) | refine g_caseb 9 rfl (fun h86 => ?_) (fun h86 => ?_)
      · exact g_again ⟨(i + 1, true), by dsimp only; omega, fun _ => ⟨(gx (by assumption)).1, run_more (l := p) (P := plP p) (gx (by assumption)).2 ⟨ch, hch, by omega⟩⟩⟩ [0, 1, 7, 8, 9, 10] (by dsimp only; omega) rfl (fun w h => h.pick [0,0] rfl)
      · exact g_again ⟨(i + 1, false), by dsimp only; omega, fun h => by cases h⟩ [0, 1, 7, 8, 9, 10] (by dsimp only; omega) rfl (fun w h => h.pick [0,0] rfl)
     refine xg 7 [] rfl rfl ?_
     refine n_ (g_in_normal (t_ (o_ ?_)))
     refine xg 3 [] rfl (by omega) ?_
     refine n_ ?_
     exact g_again ⟨(i + 1, false), by dsimp only; omega, fun h => by cases h⟩ [0, 1, 7, 8, 9, 10] (by dsimp only; omega) rfl (fun w h => h.pick [0,0] rfl)
    refine xg 8 [] rfl rfl ?_
    refine g_val rfl rfl rfl (y_sidx (i := i) rfl rfl Try.underlying9 hch8) ?_
    refine xg 2 [0] rfl rfl ?_
    refine g_casep 58 rfl (fun h87 => ?_) fun h87 => ?_
    ·refine xg 2 [] rfl rfl ?_
     refine g_val rfl rfl rfl (y_sidx (i := i) rfl rfl Try.underlying9 hch8) ?_
     refine xg 4 [0] rfl rfl ?_
     refine n_ (g_in_normal (t_ (o_ ?_)))
     refine xg 3 [] rfl (by omega) ?_
     refine n_ ?_
     first | refine g_casep 9 rfl (fun h88 => ?_) (fun h88 => ?_) | refine g_caseb 9 rfl (fun h88 => ?_) (fun h88 => ?_)
     · exact g_again ⟨(i + 1, true), by dsimp only; omega, fun _ => ⟨(gx (by assumption)).1, run_more (l := p) (P := plP p) (gx (by assumption)).2 ⟨ch, hch, by omega⟩⟩⟩ [0, 1, 7, 8, 9, 10] (by dsimp only; omega) rfl (fun w h => h.pick [0,0] rfl)
     · exact g_again ⟨(i + 1, false), by dsimp only; omega, fun h => by cases h⟩ [0, 1, 7, 8, 9, 10] (by dsimp only; omega) rfl (fun w h => h.pick [0,0] rfl)
    refine xg 7 [] rfl rfl ?_
    refine n_ (g_in_normal (t_ (o_ ?_)))
    refine xg 3 [] rfl (by omega) ?_
    refine n_ ?_
    exact g_again ⟨(i + 1, false), by dsimp only; omega, fun h => by cases h⟩ [0, 1, 7, 8, 9, 10] (by dsimp only; omega) rfl (fun w h => h.pick [0,0] rfl)
   refine g_cond_f rfl (g_exit (g_then_exit (g_then_exit (g_in_exit ?_))))
   exact g_fall (hj ⟨b, fun hb => by first | exact ⟨(gx hb).1, fun m h1 h2 => (gx hb).2 m h1 (by omega)⟩ | (rw [show b = false by assumption] at hb; cases hb)⟩) [0, 1, 7, 8, 9] rfl (fun w h => h.pick [0,0] rfl)
  refine xg 2 [] rfl rfl ?_
  refine n_ (t_ (g_cond_f rfl (g_exit (g_then_exit (g_then_exit (g_in_exit ?_))))))
  exact g_fall (hj ⟨b, fun hb => by first | exact ⟨(gx hb).1, fun m h1 h2 => (gx hb).2 m h1 (by omega)⟩ | (rw [show b = false by assumption] at hb; cases hb)⟩) [0, 1, 7, 8, 9] rfl (fun w h => h.pick [0,0] rfl)
 refine xg 10 [] rfl rfl ?_
 refine n_ (t_ (s_ (s_ (o_ ?_))))
 refine xg 1 [] rfl rfl ?_
 refine n_ (t_ ?_)
 refine g_cutc (α := {x : Bool // x = true → (1 ≤ p.length ∧ p.length ≤ 20 ∧ l.length ≤ 60) ∧ (∀ m, 0 ≤ m → m < p.length → plP p m)}) (fun x => [(0, st8 p), (1, st8 l), (7, .pointer (some ⟨b1, 0, none⟩)), (8, .int .i64 ern), (9, .bool x.1)]) (fun x => [.cells b1 28 (nC (.mk nk ns nm nx nu (.slice pv nq.length cv) nq)), .forest [(.mk nk ns nm nx nu (.slice pv nq.length cv) nq)]]) ?_ ?_
 ·rintro ⟨b, gx⟩
  try dsimp only
  refine t_ (s_ (s_ (o_ ?_)))
  refine xg 2 [] rfl rfl ?_
  refine n_ (t_ ?_)
  first | refine g_casep 66 rfl (fun h89 => ?_) fun h89 => ?_ | refine g_caseb 66 rfl (fun h89 => ?_) fun h89 => ?_
  ·refine g_cond_t rfl (s_ (o_ ?_))
   refine g_call1 rfl rfl rfl Try.call13 (fun w hS => alive_any w (hS.maxHere hz (by simp))) ?_
   refine xg 1 [] rfl rfl ?_
   refine n_ (t_ (g_ret (g_then_ret ?_)))
   refine g_end1 Try.results5 rfl ?_
   exact fun w hS => ⟨rfl, hS.below⟩
  refine g_cond_f rfl (g_skip (t_ (s_ ?_)))
  obtain ⟨hcn, hall⟩ := gx (by simpa using ‹(!b) = false›)
  obtain ⟨h0, hng, htm⟩ := plain_mM hpar (plP_all hall) hcn.1 hcn.2.1
  dsimp only at h0 hng htm
  subst h0
  refine o_ ?_
  refine xg 1 [] rfl rfl ?_
  refine n_ (t_ (s_ (s_ (o_ ?_))))
  refine xg 1 [] rfl rfl ?_
  refine n_ (t_ ?_)
  refine g_cutc (α := {x : Int // (x = -1 ∧ (∀ m, ¬ occ l p m)) ∨ (∃ a : Nat, x = a ∧ a + p.length ≤ l.length ∧ occ l p a ∧ (∀ m, m < a → ¬ occ l p m))}) (fun x => [(0, st8 p), (1, st8 l), (7, .pointer (some ⟨b1, 0, none⟩)), (8, .int .i64 0), (11, .int .i64 x.1)]) (fun x => [.cells b1 28 (nC (.mk nk ns nm nx nu (.slice pv nq.length cv) nq)), .forest [(.mk nk ns nm nx nu (.slice pv nq.length cv) nq)]]) ?_ ?_
  ·rintro ⟨at_, gx⟩
   try dsimp only
   refine t_ (s_ ?_)
   rcases gx with ⟨rfl, hno⟩ | ⟨a, rfl, ha1, ha2, ha3⟩
   ·refine o_ ?_
    refine xg 2 [0] rfl (by omega) ?_
    refine g_c1 (m_find ⟨l, false⟩ (.mk nk ns nm nx nu (.slice pv nq.length cv) nq) 0 (by show l.length ≤ _; omega) (by have := parX_size hpar; dsimp only at this; omega)) (fun w hS => forest_rd hS (i := 1) rfl) rfl rfl rfl ?_
    rw [plain_none htm hno, sp_none]
    refine xg 3 [] rfl rfl ?_
    refine g_alloc rfl rfl Try.zeroValue36 rfl (fun b17 => ?_)
    refine xg 2 [0] rfl (by omega) ?_
    refine n_ (t_ (s_ (s_ (o_ ?_))))
    refine xg 2 [1] rfl (by omega) ?_
    refine n_ (t_ (g_cond_t rfl (s_ (o_ ?_))))
    refine g_call1 rfl rfl rfl Try.call13 (fun w hS => alive_any w (hS.maxHere hz (by simp))) ?_
    refine xg 9 [1] rfl (by omega) ?_
    refine n_ (t_ (g_ret (g_then_ret ?_)))
    refine g_end1 Try.results5 rfl ?_
    exact fun w hS => ⟨rfl, hS.below⟩
   refine o_ ?_
   refine xg 2 [0] rfl (by omega) ?_
   refine g_c1 (m_find ⟨l, false⟩ (.mk nk ns nm nx nu (.slice pv nq.length cv) nq) 0 (by show l.length ≤ _; omega) (by have := parX_size hpar; dsimp only at this; omega)) (fun w hS => forest_rd hS (i := 1) rfl) rfl rfl rfl ?_
   rw [plain_some hng htm hcn.2.2 ha1 ha2 ha3, sp_found]
   refine xg 3 [] rfl rfl ?_
   refine g_alloc rfl rfl Try.zeroValue36 rfl (fun b18 => ?_)
   refine xg 2 [0] rfl (by omega) ?_
   refine n_ (t_ (s_ (s_ (o_ ?_))))
   refine xg 2 [2] rfl (by omega) ?_
   refine n_ (t_ (g_cond_f rfl (g_skip (t_ (s_ (o_ ?_))))))
   refine g_call1 rfl rfl rfl Try.call13 (fun w hS => alive_any w (hS.maxHere hz (by simp))) ?_
   refine xg 20 [1,0,1,0] rfl (by omega) ?_
   refine g_val (v := .int .i64 (p.length : Int)) rfl rfl rfl (y_val (y_slen rfl Try.underlying9) (by rw [size_mk])) ?_
   refine xg 10 [1,0,1] rfl (by omega) ?_
   refine n_ (t_ (g_ret ?_))
   refine g_end1 Try.results5 rfl ?_
   exact fun w hS => ⟨rfl, hS.below⟩
  intro hj
  refine g_block ?_
  refine g_loop (α := {x : Nat × Int // x.1 ≤ l.length + 1 ∧ ((x.2 = -1 ∧ (∀ m, m < x.1 → ¬ occ l p m)) ∨ (∃ a : Nat, x.2 = a ∧ a + p.length ≤ l.length ∧ occ l p a ∧ (∀ m, m < a → ¬ occ l p m)))}) (fun x => [(0, st8 p), (1, st8 l), (7, .pointer (some ⟨b1, 0, none⟩)), (8, .int .i64 0), (11, .int .i64 x.1.2), (12, .int .i64 (x.1.1 : Int))]) (fun x => St w [] [.cells b1 28 (nC (.mk nk ns nm nx nu (.slice pv nq.length cv) nq)), .forest [(.mk nk ns nm nx nu (.slice pv nq.length cv) nq)]]) (fun x => l.length + 1 - x.1.1) ⟨(0, -1), Nat.zero_le _, .inl ⟨rfl, fun m h => by omega⟩⟩ [0, 1, 7, 8, 11, 12] rfl (fun w h => h.pick [0,0] rfl) ?_
  rintro ⟨⟨i, at_⟩, gi, gx⟩
  dsimp only
  dsimp only at gi gx
  refine s_ (s_ (o_ ?_))
  refine xg 3 [0] rfl rfl ?_
  refine g_casep 70 rfl (fun h90 => ?_) fun h90 => ?_
  ·refine xg 2 [] rfl rfl ?_
   refine g_val (v := .int .i64 (p.length : Int)) rfl rfl rfl (y_val (y_slen rfl Try.underlying9) (by rw [size_mk])) ?_
   refine xg 2 [] rfl (by omega) ?_
   refine g_val (v := .int .i64 (l.length : Int)) rfl rfl rfl (y_val (y_slen rfl Try.underlying9) (by rw [size_mk])) ?_
   refine xg 2 [0] rfl rfl ?_
   refine n_ (t_ ?_)
   refine g_casep 78 rfl (fun h91 => ?_) fun h91 => ?_
   ·refine g_cond_t rfl (g_skip (t_ (s_ (g_block (s_ ?_)))))
    obtain ⟨rfl, gx0⟩ := occ_at gx (by omega)
    refine o_ ?_
    refine xg 4 [] rfl rfl ?_
    refine g_val (v := .int .i64 (p.length : Int)) rfl rfl rfl (y_val (y_slen rfl Try.underlying9) (by rw [size_mk])) ?_
    refine xg 4 [] rfl (by omega) ?_
    refine n_ (t_ ?_)
    refine g_casep 89 rfl (fun h92 => ?_) fun h92 => ?_
    ·refine g_cond_t rfl (o_ ?_)
     refine xg 2 [] rfl rfl ?_
     refine n_ (g_in_normal (t_ (o_ ?_)))
     refine xg 3 [] rfl (by omega) ?_
     refine n_ ?_
     exact g_again ⟨(i + 1, (i : Int)), by dsimp only; omega, .inr ⟨i, rfl, by omega, occ_iff.1 (by assumption), gx0⟩⟩ [0, 1, 7, 8, 11, 12] (by dsimp only; omega) rfl (fun w h => h.pick [0,0] rfl)
    refine g_cond_f rfl (g_skip (g_in_normal (t_ (o_ ?_))))
    refine xg 3 [] rfl (by omega) ?_
    refine n_ ?_
    exact g_again ⟨(i + 1, -1), by dsimp only; omega, .inl ⟨rfl, occ_next gx0 (by assumption)⟩⟩ [0, 1, 7, 8, 11, 12] (by dsimp only; omega) rfl (fun w h => h.pick [0,0] rfl)
   refine g_cond_f rfl (g_exit (g_then_exit (g_then_exit (g_in_exit ?_))))
   exact g_fall (hj ⟨at_, occ_stop gx hcn.1 (fun _ => by omega)⟩) [0, 1, 7, 8, 11] rfl (fun w h => h.pick [0,0] rfl)
  refine xg 8 [] rfl rfl ?_
  refine n_ (t_ (g_cond_f rfl (g_exit (g_then_exit (g_then_exit (g_in_exit ?_))))))
  exact g_fall (hj ⟨at_, occ_stop gx hcn.1 (fun _ => by omega)⟩) [0, 1, 7, 8, 11] rfl (fun w h => h.pick [0,0] rfl)
 intro hj
 refine g_block ?_
 refine g_loop (α := {x : Nat × Bool // x.1 ≤ p.length ∧ (x.2 = true → (1 ≤ p.length ∧ p.length ≤ 20 ∧ l.length ≤ 60) ∧ (∀ m, 0 ≤ m → m < x.1 → plP p m))}) (fun x => [(0, st8 p), (1, st8 l), (7, .pointer (some ⟨b1, 0, none⟩)), (8, .int .i64 ern), (9, .bool x.1.2), (10, .int .i64 (x.1.1 : Int))]) (fun x => St w [] [.cells b1 28 (nC (.mk nk ns nm nx nu (.slice pv nq.length cv) nq)), .forest [(.mk nk ns nm nx nu (.slice pv nq.length cv) nq)]]) (fun x => p.length - x.1.1) ⟨(0, false), Nat.zero_le _, fun h => by cases h⟩ [0, 1, 7, 8, 9, 10] rfl (fun w h => h.pick [0,0] rfl) ?_
 rintro ⟨⟨i, b⟩, gi, gx⟩
 dsimp only
 dsimp only at gi gx
 refine s_ (s_ (o_ ?_))
 refine xg 2 [] rfl rfl ?_
 refine g_val (v := .int .i64 (p.length : Int)) rfl rfl rfl (y_val (y_slen rfl Try.underlying9) (by rw [size_mk])) ?_
 refine xg 2 [0] rfl rfl ?_
 refine g_casep 38 rfl (fun h93 => ?_) fun h93 => ?_
 ·refine xg 2 [] rfl rfl ?_
  refine n_ (t_ ?_)
  refine g_caseb 40 rfl (fun h94 => ?_) fun h94 => ?_
  ·refine g_cond_t rfl (g_skip (t_ (s_ (g_block (o_ ?_)))))
   refine xg 2 [] rfl rfl ?_
   obtain ⟨ch, hch, hch8⟩ := st8_get (l := p) (i := i) (by omega)
   refine g_val rfl rfl rfl (y_sidx (i := i) rfl rfl Try.underlying9 hch8) ?_
   refine xg 2 [0] rfl rfl ?_
   refine g_casep 47 rfl (fun h95 => ?_) fun h95 => ?_
   ·refine xg 2 [] rfl rfl ?_
    refine g_val rfl rfl rfl (y_sidx (i := i) rfl rfl Try.underlying9 hch8) ?_
    refine xg 3 [0] rfl rfl ?_
    refine g_casep 53 rfl (fun h96 => ?_) fun h96 => ?_
    ·refine xg 12 [] rfl rfl ?_
     refine n_ (g_in_normal (t_ (o_ ?_)))
     refine xg 3 [] rfl (by omega) ?_
     refine n_ ?_
     exact g_again ⟨(i + 1, true), by dsimp only; omega, fun _ => ⟨(gx (by assumption)).1, run_more (l := p) (P := plP p) (gx (by assumption)).2 ⟨ch, hch, by omega⟩⟩⟩ [0, 1, 7, 8, 9, 10] (by dsimp only; omega) rfl (fun w h => h.pick [0,0] rfl)
    refine xg 2 [] rfl rfl ?_
    refine g_val rfl rfl rfl (y_sidx (i := i) rfl rfl Try.underlying9 hch8) ?_
    refine xg 2 [0] rfl rfl ?_
    refine g_casep 58 rfl (fun h97 => ?_) fun h97 => ?_
    ·refine xg 2 [] rfl rfl ?_
     refine g_val rfl rfl rfl (y_sidx (i := i) rfl rfl Try.underlying9 hch8) ?_
     refine xg 4 [0] rfl rfl ?_
     refine n_ (g_in_normal (t_ (o_ ?_)))
     refine xg 3 [] rfl (by omega) ?_
     refine n_ ?_
     first | refine g_casep 9 rfl (fun h98 => ?_) (fun h98 => ?_) | refine g_caseb 9 rfl (fun h98 => ?_) (fun h98 => ?_)
     · exact g_again ⟨(i + 1, true), by dsimp only; omega, fun _ => ⟨(gx (by assumption)).1, run_more (l := p) (P := plP p) (gx (by assumption)).2 ⟨ch, hch, by omega⟩⟩⟩ [0, 1, 7, 8, 9, 10] (by dsimp only; omega) rfl (fun w h => h.pick [0,0] rfl)
     · exact g_again ⟨(i + 1, false), by dsimp only; omega, fun h => by cases h⟩ [0, 1, 7, 8, 9, 10] (by dsimp only; omega) rfl (fun w h => h.pick [0,0] rfl)
    refine xg 7 [] rfl rfl ?_
    refine n_ (g_in_normal (t_ (o_ ?_)))
    refine xg 3 [] rfl (by omega) ?_
    refine n_ ?_
    exact g_again ⟨(i + 1, false), by dsimp only; omega, fun h => by cases h⟩ [0, 1, 7, 8, 9, 10] (by dsimp only; omega) rfl (fun w h => h.pick [0,0] rfl)
   refine xg 8 [] rfl rfl ?_
   refine g_val rfl rfl rfl (y_sidx (i := i) rfl rfl Try.underlying9 hch8) ?_
   refine xg 2 [0] rfl rfl ?_
   refine g_casep 58 rfl (fun h99 => ?_) fun h99 => ?_
   ·refine xg 2 [] rfl rfl ?_
    refine g_val rfl rfl rfl (y_sidx (i := i) rfl rfl Try.underlying9 hch8) ?_
    refine xg 4 [0] rfl rfl ?_
    refine n_ (g_in_normal (t_ (o_ ?_)))
    refine xg 3 [] rfl (by omega) ?_
    refine n_ ?_
    first | refine g_casep 9 rfl (fun h100 => ?_) (fun h100 => ?_) | refine g_caseb 9 rfl (fun h100 => ?_) (fun h100 => ?_)
    · exact g_again ⟨(i + 1, true), by dsimp only; omega, fun _ => ⟨(gx (by assumption)).1, run_more (l := p) (P := plP p) (gx (by assumption)).2 ⟨ch, hch, by omega⟩⟩⟩ [0, 1, 7, 8, 9, 10] (by dsimp only; omega) rfl (fun w h => h.pick [0,0] rfl)
    · exact g_again ⟨(i + 1, false), by dsimp only; omega, fun h => by cases h⟩ [0, 1, 7, 8, 9, 10] (by dsimp only; omega) rfl (fun w h => h.pick [0,0] rfl)
   refine xg 7 [] rfl rfl ?_
   refine n_ (g_in_normal (t_ (o_ ?_)))
   refine xg 3 [] rfl (by omega) ?_
   refine n_ ?_
   exact g_again ⟨(i + 1, false), by dsimp only; omega, fun h => by cases h⟩ [0, 1, 7, 8, 9, 10] (by dsimp only; omega) rfl (fun w h => h.pick [0,0] rfl)
  refine g_cond_f rfl (g_exit (g_then_exit (g_then_exit (g_in_exit ?_))))
  exact g_fall (hj ⟨b, fun hb => by first | exact ⟨(gx hb).1, fun m h1 h2 => (gx hb).2 m h1 (by omega)⟩ | (rw [show b = false by assumption] at hb; cases hb)⟩) [0, 1, 7, 8, 9] rfl (fun w h => h.pick [0,0] rfl)
 refine xg 2 [] rfl rfl ?_
 refine n_ (t_ (g_cond_f rfl (g_exit (g_then_exit (g_then_exit (g_in_exit ?_))))))
 exact g_fall (hj ⟨b, fun hb => by first | exact ⟨(gx hb).1, fun m h1 h2 => (gx hb).2 m h1 (by omega)⟩ | (rw [show b = false by assumption] at hb; cases hb)⟩) [0, 1, 7, 8, 9] rfl (fun w h => h.pick [0,0] rfl)

theorem mplain_law (s t : ByteArray) (b : Bool) (hs : s.size ≤ maxLen) (ht : t.size ≤ maxLen) (w : World) (hsh : w.ShapedOpen Try.prog) : Calls Try.prog 5 #[.string s, .string t, .bool b] w fun e w' => e = .returned (.bool true) ∧ Below w.heap.size w w' := by
  have h := mplain_any s.data.toList t.data.toList b (by rw [Array.length_toList]; exact hs) (by rw [Array.length_toList]; exact ht) w (maxHere_of hsh)
  unfold st8 at h
  rw [Array.toArray_toList, Array.toArray_toList] at h
  exact h
end Go.Proofs.Ytfcamlkbkehlnaa

/- MatchGroups: the plain law. -/
namespace Go.Proofs.Ytfcamlkbkehlnaa
open Go Go.RowKit

/-- Each span but the whole lies within a and b, or is none. -/
def OkSp (m : Spn) (a b : Int) : Prop := ∀ k, 1 ≤ k → m k = (-1, -1) ∨ (0 ≤ (m k).1 ∧ a ≤ (m k).1 ∧ (m k).1 ≤ (m k).2 ∧ (m k).2 ≤ b)
theorem ok_set {m : Spn} {a b : Nat} {k i j : Nat} (h : OkSp m a b) (h1 : a ≤ i) (h2 : i ≤ j) (h3 : j ≤ b) : OkSp (setS m k ((i : Int), (j : Int))) a b := fun q hq => by
  unfold setS
  by_cases e : q = k
  · rw [if_pos e]; exact .inr ⟨by show (0 : Int) ≤ i; omega, by show (a : Int) ≤ i; omega, by show (i : Int) ≤ j; omega, by show (j : Int) ≤ b; omega⟩
  · rw [if_neg e]; exact h q hq
theorem gRep_ok {n : Nat} {K : Nat → Nat → Bool} {g : Nat → Nat → Spn → Spn} {a b : Nat} (hg : ∀ i j m, a ≤ i → i ≤ j → j ≤ b → OkSp m a b → OkSp (g i j m) a b) : ∀ (f : Nat) (lo hi : Int) (i j : Nat) (m : Spn), a ≤ i → i ≤ j → j ≤ b → OkSp m a b → OkSp (gRep n K g f lo hi i j m) a b
  | 0, _, _, _, _, _, _, _, _, h => h
  | f + 1, lo, hi, i, j, m, h1, h2, h3, h => by
    rw [gRep]
    split
    · split
      · exact hg _ _ _ (by omega) (Nat.le_refl _) h3 h
      · exact h
    · split
      · rename_i k hk
        have h4 := topK_is hk
        exact gRep_ok hg f _ _ k j _ (by omega) (by omega) h3 (hg i k m h1 (by omega) (by omega) h)
      · exact h
mutual
theorem gM_ok {x : Tx} {a b : Nat} : ∀ (t : MT) (i j : Nat) (m : Spn), a ≤ i → i ≤ j → j ≤ b → OkSp m a b → OkSp (gM x t i j m) a b
  | .mk k s mi ma nu v q, i, j, m, h1, h2, h3, h => by
    have e : OkSp (if 1 ≤ nu ∧ nu < 10 then setS m nu.toNat ((i : Int), (j : Int)) else m) a b := by
      split
      · exact ok_set h h1 h2 h3
      · exact h
    have e2 := gRep_ok (n := x.n) (K := fun a b => mKid x q a b) (g := fun a b m => gKid x q a b m) (fun i j m h1 h2 h3 h => gKid_ok q i j m h1 h2 h3 h) (x.n + 1) (cLo x.n mi) (cHi x.n ma) i j m h1 h2 h3 h
    have e3 := gRow_ok (x := x) q i j m h1 h2 h3 h
    have e4 := gAny_ok (x := x) q i j m h1 h2 h3 h
    have e5 := gKid_ok (x := x) q i j _ h1 h2 h3 e
    rw [gM_mk]
    by_cases k2 : k = 2
    · rw [if_pos k2]; exact e3
    · rw [if_neg k2]
      by_cases k3 : k = 3
      · rw [if_pos k3]; exact e4
      · rw [if_neg k3]
        by_cases k5 : k = 5
        · rw [if_pos k5]; exact e5
        · rw [if_neg k5]
          by_cases k4 : k = 4
          · rw [if_pos k4]; exact e2
          · rw [if_neg k4]; exact h
theorem gRow_ok {x : Tx} {a b : Nat} : ∀ (q : List MT) (i j : Nat) (m : Spn), a ≤ i → i ≤ j → j ≤ b → OkSp m a b → OkSp (gRow x q i j m) a b
  | [], _, _, _, _, _, _, h => by rw [gRow_nil]; exact h
  | t :: q, i, j, m, h1, h2, h3, h => by
    rw [gRow_cons]
    split
    · rename_i k hk
      have h4 := topK_is hk
      exact gRow_ok q k j _ (by omega) (by omega) h3 (gM_ok t i k m h1 (by omega) (by omega) h)
    · exact h
theorem gAny_ok {x : Tx} {a b : Nat} : ∀ (q : List MT) (i j : Nat) (m : Spn), a ≤ i → i ≤ j → j ≤ b → OkSp m a b → OkSp (gAny x q i j m) a b
  | [], _, _, _, _, _, _, h => by rw [gAny_nil]; exact h
  | t :: q, i, j, m, h1, h2, h3, h => by
    rw [gAny_cons]
    split
    · exact gM_ok t i j m h1 h2 h3 h
    · exact gAny_ok q i j m h1 h2 h3 h
theorem gKid_ok {x : Tx} {a b : Nat} : ∀ (q : List MT) (i j : Nat) (m : Spn), a ≤ i → i ≤ j → j ≤ b → OkSp m a b → OkSp (gKid x q i j m) a b
  | [], _, _, _, _, _, _, h => by rw [gKid_nil]; exact h
  | t :: q, i, j, m, h1, h2, h3, h => by rw [gKid_cons]; exact gM_ok t i j m h1 h2 h3 h
end
theorem gRep_fix {n : Nat} {K : Nat → Nat → Bool} {g : Nat → Nat → Spn → Spn} {p : Nat} (hg : ∀ i j m, g i j m p = m p) : ∀ (f : Nat) (lo hi : Int) (i j : Nat) (m : Spn), gRep n K g f lo hi i j m p = m p
  | 0, _, _, _, _, _ => rfl
  | f + 1, lo, hi, i, j, m => by
    rw [gRep]
    by_cases e : i = j
    · rw [if_pos e]
      split
      · exact hg _ _ _
      · rfl
    · rw [if_neg e]
      generalize topK (fun k => K i k && rep n K (n + 1) (max (lo - 1) 0) (if 0 < hi then hi - 1 else hi) k j) (i + 1) (j + 1) = o
      cases o with
      | none => rfl
      | some k => exact (gRep_fix hg f _ _ k j _).trans (hg _ _ _)
mutual
/-- A tree that is right behind g groups sets those behind them, up to its last one, alone. -/
theorem gM_fix {x : Tx} {p : Nat} : ∀ (t : MT) (g g' : Int) (i j : Nat) (m : Spn), GoodT t g g' → 0 ≤ g → ((p : Int) ≤ g ∨ g' < p) → gM x t i j m p = m p
  | .mk k s mi ma nu v q, g, g', i, j, m, h, hg, hp => by
    rw [gM_mk]
    rcases GoodT_mk.1 h with ⟨hk, _, _⟩ | ⟨hk, _, hq⟩ | ⟨hk, _, hnu, _, hq⟩ | ⟨hk, _, _, _, _, _, _, hq⟩
    · rw [if_neg (by omega), if_neg (by omega), if_neg (by omega), if_neg (by omega)]
    · rcases hk with hk | hk
      · rw [if_pos hk]; exact gRow_fix q g g' i j m hq hg hp
      · rw [if_neg (by omega), if_pos hk]; exact gAny_fix q g g' i j m hq hg hp
    · have hle := GoodL_le q _ _ hq
      rw [if_neg (by omega), if_neg (by omega), if_pos hk]
      refine (gKid_fix q (g + 1) g' i j _ hq (by omega) (by omega)).trans ?_
      split
      · unfold setS; rw [if_neg (by omega)]
      · rfl
    · rw [if_neg (by omega), if_neg (by omega), if_neg (by omega), if_pos hk]
      exact gRep_fix (fun a b m => gKid_fix q g g' a b m hq hg hp) _ _ _ _ _ _
theorem gRow_fix {x : Tx} {p : Nat} : ∀ (q : List MT) (g g' : Int) (i j : Nat) (m : Spn), GoodL q g g' → 0 ≤ g → ((p : Int) ≤ g ∨ g' < p) → gRow x q i j m p = m p
  | [], _, _, _, _, _, _, _, _ => by rw [gRow_nil]
  | t :: q, g, g', i, j, m, h, hg, hp => by
    obtain ⟨g1, h1, h2⟩ := GoodL_cons.1 h
    have l1 := GoodT_le t g g1 h1
    have l2 := GoodL_le q g1 g' h2
    rw [gRow_cons]
    split
    · rw [gRow_fix q g1 g' _ _ _ h2 (by omega) (by omega), gM_fix t g g1 _ _ _ h1 hg (by omega)]
    · rfl
theorem gAny_fix {x : Tx} {p : Nat} : ∀ (q : List MT) (g g' : Int) (i j : Nat) (m : Spn), GoodL q g g' → 0 ≤ g → ((p : Int) ≤ g ∨ g' < p) → gAny x q i j m p = m p
  | [], _, _, _, _, _, _, _, _ => by rw [gAny_nil]
  | t :: q, g, g', i, j, m, h, hg, hp => by
    obtain ⟨g1, h1, h2⟩ := GoodL_cons.1 h
    have l1 := GoodT_le t g g1 h1
    have l2 := GoodL_le q g1 g' h2
    rw [gAny_cons]
    split
    · exact gM_fix t g g1 _ _ _ h1 hg (by omega)
    · exact gAny_fix q g1 g' _ _ _ h2 (by omega) (by omega)
theorem gKid_fix {x : Tx} {p : Nat} : ∀ (q : List MT) (g g' : Int) (i j : Nat) (m : Spn), GoodL q g g' → 0 ≤ g → ((p : Int) ≤ g ∨ g' < p) → gKid x q i j m p = m p
  | [], _, _, _, _, _, _, _, _ => by rw [gKid_nil]
  | t :: q, g, g', i, j, m, h, hg, hp => by
    obtain ⟨g1, h1, h2⟩ := GoodL_cons.1 h
    have l2 := GoodL_le q g1 g' h2
    rw [gKid_cons]
    exact gM_fix t g g1 _ _ _ h1 hg (by omega)
end
mutual
def gcT : MT → Nat
  | .mk k _ _ _ _ _ q => (if k = 5 then 1 else 0) + gcL q
def gcL : List MT → Nat
  | [] => 0
  | t :: q => gcT t + gcL q
end
theorem gcT_mk {k : Int} {s : Nat → Int} {mi ma nu : Int} {v : Value} {q : List MT} : gcT (.mk k s mi ma nu v q) = (if k = 5 then 1 else 0) + gcL q := by rw [gcT]
theorem gcL_cons {t : MT} {q : List MT} : gcL (t :: q) = gcT t + gcL q := by rw [gcL]
theorem gcL_nil : gcL [] = 0 := by rw [gcL]
mutual
theorem gcT_good : ∀ (t : MT) (g g' : Int), GoodT t g g' → (gcT t : Int) = g' - g
  | .mk k s mi ma nu v q, g, g', h => by
    rw [gcT_mk]
    rcases GoodT_mk.1 h with ⟨hk, hq, hg⟩ | ⟨hk, _, hq⟩ | ⟨hk, _, _, _, hq⟩ | ⟨hk, _, _, _, _, _, _, hq⟩
    · rw [if_neg (by omega), List.length_eq_zero_iff.1 hq, gcL_nil]; omega
    · rw [if_neg (by omega)]; have := gcL_good q g g' hq; omega
    · rw [if_pos hk]; have := gcL_good q (g + 1) g' hq; omega
    · rw [if_neg (by omega)]; have := gcL_good q g g' hq; omega
theorem gcL_good : ∀ (q : List MT) (g g' : Int), GoodL q g g' → (gcL q : Int) = g' - g
  | [], g, g', h => by rw [GoodL_nil.1 h, gcL_nil]; omega
  | t :: q, g, g', h => by
    obtain ⟨g1, h1, h2⟩ := GoodL_cons.1 h
    have e1 := gcT_good t g g1 h1
    have e2 := gcL_good q g1 g' h2
    rw [gcL_cons]; omega
end
theorem gcT_le : ∀ (t : MT), gcT t ≤ wT t := by
  intro t
  refine MT.rec (motive_1 := fun t => gcT t ≤ wT t) (motive_2 := fun q => gcL q ≤ wL q) ?_ ?_ ?_ t
  · intro k s mi ma nu v q ih
    rw [gcT_mk, wT_mk]
    split <;> omega
  · rw [gcL_nil]; exact Nat.zero_le _
  · intro t q h1 h2
    rw [gcL_cons, wL]; omega
/-- What is found of a tree that is right. -/
theorem grp_found {x : Tx} {t : MT} {g : Int} (hgood : GoodT t 0 g) (hn : x.n ≤ 1024) : findR x t 0 = (m0, false) ∨ ∃ m : Spn, findR x t 0 = (m, true) ∧ OkSp m (m 0).1 (m 0).2 ∧ (∀ k : Nat, 1 ≤ k → g < k → m k = (-1, -1)) ∧ (t.k = 5 → m 1 = m 0) := by
  rcases findR_cases x t 0 (Nat.zero_le _) hn with ⟨i, j, h, e⟩ | ⟨_, e⟩
  · right
    have hij := (mM_in t h.2.1 h.2.2.1).1
    have h0 : gM x t i j (setS mN 0 ((i : Int), (j : Int))) 0 = ((i : Int), (j : Int)) := by rw [gM_0]; rfl
    have hN : ∀ k, 1 ≤ k → (setS mN 0 ((i : Int), (j : Int))) k = (-1, -1) := fun k hk => by unfold setS; rw [if_neg (by omega)]; rfl
    refine ⟨_, e, ?_, fun k hk hgk => ?_, fun hk => ?_⟩
    · rw [h0]; exact gM_ok t i j _ (Nat.le_refl _) hij (Nat.le_refl _) fun k hk => .inl (hN k hk)
    · rw [gM_fix t 0 g i j _ hgood (by omega) (.inr hgk), hN k hk]
    · cases t with | mk k s mi ma nu v q =>
      have hk : k = 5 := hk
      rw [h0, gM_mk, if_neg (by omega), if_neg (by omega), if_pos hk]
      rcases GoodT_mk.1 hgood with ⟨hk2, _⟩ | ⟨hk2, _⟩ | ⟨_, _, hnu, _, hq⟩ | ⟨hk2, _⟩
      · omega
      · omega
      · have hnu1 : nu = 1 := by omega
        rw [gKid_fix q (0 + 1) g i j _ hq (by decide) (.inl (by decide)), if_pos ⟨by omega, by omega⟩, hnu1]
        rfl
      · omega
  · exact .inl e
theorem spC_at (m : Spn) : ∀ k, k < 10 → ((spC m).drop (k * 2)).take 2 = [.int .i64 (m k).1, .int .i64 (m k).2]
  | 0, _ => rfl
  | 1, _ => rfl
  | 2, _ => rfl
  | 3, _ => rfl
  | 4, _ => rfl
  | 5, _ => rfl
  | 6, _ => rfl
  | 7, _ => rfl
  | 8, _ => rfl
  | 9, _ => rfl
  | k + 10, h => by omega

end Go.Proofs.Ytfcamlkbkehlnaa

/- MatchGroups. -/
namespace Go.Proofs.Ytfcamlkbkehlnaa
open Go Go.RowKit

set_option maxRecDepth 100000 in
theorem within_any (k : Int) (s : Nat → Int) (nmi nma nnu : Int) (pq : Option Addr) (cq : Nat) (q : List MT) (m : Spn) (o1 o2 : Int) (hok2 : OkSp m o1 o2) (hle : wT (MT.mk k s nmi nma nnu (Value.slice pq q.length cq) q) ≤ 1000000) (ih : ∀ u, u ∈ q → ∀ w, u.rd w → Calls Try.prog 17 #[.agg (nC u).toArray, .agg (spC m).toArray, .agg #[.int .i64 o1, .int .i64 o2]] w fun e w' => e = .returned (.bool true) ∧ Below w.heap.size w w') (w : World) (hok : MT.rd w (MT.mk k s nmi nma nnu (Value.slice pq q.length cq) q)) :
    Calls Try.prog 17 #[.agg (nC (MT.mk k s nmi nma nnu (Value.slice pq q.length cq) q)).toArray, .agg (spC m).toArray, .agg #[.int .i64 o1, .int .i64 o2]] w fun e w' => e = .returned (.bool true) ∧ Below w.heap.size w w' := by
 obtain ⟨hrq, _, hqk⟩ := rd_facts (F := []) hok (fun _ _ => List.not_mem_nil)
 have hmax : maxLen = 9223372036854775807 := rfl
 rw [wT_mk] at hle
 have hql := wL_len q
 refine fn_intro Try.func17 rfl Try.ntmps17 rfl rfl ?_
 refine s_ (o_ ?_)
 refine g_box rfl rfl rfl rfl (fun b1 => ?_)
 refine g_box rfl rfl rfl rfl (fun b2 => ?_)
 refine g_box rfl rfl rfl rfl (fun b3 => ?_)
 refine xg 1 [] rfl rfl ?_
 refine n_ (t_ (s_ (s_ (o_ ?_))))
 refine xg 4 [2,0] rfl (by omega) ?_
 refine g_casep 13 rfl (fun h1 => ?_) fun h1 => ?_
 ·refine xg 5 [2,0] rfl (by omega) ?_
  refine g_casep 18 rfl (fun h2 => ?_) fun h2 => ?_
  ·refine xg 4 [2,0] rfl (by omega) ?_
   refine n_ (t_ ?_)
   refine g_casep 22 rfl (fun h3 => ?_) fun h3 => ?_
   ·refine g_cond_t rfl (s_ ?_)
    have hmk := hok2 nnu.toNat (by omega)
    refine o_ ?_
    refine xg 2 [2] rfl (by omega) ?_
    refine g_val rfl rfl rfl (y_idxArr (m := nnu.toNat * 2) rfl rfl Try.underlying36 Try.sizeOf34 (by omega) (by omega) (by omega)) ?_
    refine g_val (v := .agg [.int .i64 (m nnu.toNat).1, .int .i64 (m nnu.toNat).2].toArray) rfl rfl rfl (y_ldN (vs := [.int .i64 (m nnu.toNat).1, .int .i64 (m nnu.toNat).2]) 1 rfl Try.isAgg34 Try.sizeOf34 rfl (spC_at m _ (by omega)) rfl) ?_
    refine g_alloc rfl rfl Try.zeroValue34 rfl (fun b4 => ?_)
    refine xg 1 [0] rfl (by omega) ?_
    refine n_ (t_ (s_ (s_ (o_ ?_))))
    refine xg 3 [0,0] rfl (by omega) ?_
    refine n_ (t_ ?_)
    refine g_casep 29 rfl (fun h4 => ?_) fun h4 => ?_
    ·refine g_cond_t rfl (s_ ?_)
     have hmn : (m nnu.toNat).2 = -1 := hmk.elim (fun h => congrArg Prod.snd h) (fun h => by omega)
     refine o_ ?_
     refine xg 4 [0,1] rfl (by omega) ?_
     refine n_ (t_ (g_ret (g_then_ret (g_then_ret ?_))))
     refine g_end1 Try.results17 rfl ?_
     exact fun w hS => ⟨rfl, hS.below⟩
    refine g_cond_f rfl (g_skip (t_ (s_ ?_)))
    obtain ⟨hm0, hm1, hm2, hm3⟩ : 0 ≤ (m nnu.toNat).1 ∧ o1 ≤ (m nnu.toNat).1 ∧ (m nnu.toNat).1 ≤ (m nnu.toNat).2 ∧ (m nnu.toNat).2 ≤ o2 := hmk.elim (fun h => by have h8 : (m nnu.toNat).1 = -1 := congrArg Prod.fst h; omega) id
    refine o_ ?_
    refine xg 19 [0,0,2,0,1,2,0,1,2] rfl (by omega) ?_
    refine n_ (t_ (g_cond_f rfl (g_skip (t_ (s_ (s_ (o_ ?_)))))))
    refine xg 1 [] rfl rfl ?_
    refine n_ (t_ (g_block ?_))
    refine g_loop (α := {x : Nat // x ≤ q.length}) (fun x => [(3, .pointer (some ⟨b1, 0, none⟩)), (4, .pointer (some ⟨b2, 0, none⟩)), (5, .pointer (some ⟨b3, 0, none⟩)), (8, .int .i64 (x.1 : Int))]) (fun x => St w [] [.cells b1 28 (nC (MT.mk k s nmi nma nnu (Value.slice pq q.length cq) q)), .cells b2 36 (spC m), .cells b3 34 [.int .i64 o1, .int .i64 o2]]) (fun x => q.length - x.1) ⟨0, Nat.zero_le _⟩ [3, 4, 5, 8] rfl (fun w h => h.pick [3,2,1] rfl) ?_
    rintro ⟨i, gi⟩
    dsimp only
    refine s_ (s_ (o_ ?_))
    refine xg 3 [0] rfl (by omega) ?_
    refine g_val (v := .int .i64 ((q.length : Nat) : Int)) rfl rfl rfl (y_llen rfl Try.underlying26) ?_
    refine xg 1 [0] rfl rfl ?_
    refine n_ (t_ ?_)
    refine g_casep 56 rfl (fun h5 => ?_) fun h5 => ?_
    ·refine g_cond_t rfl (g_skip (t_ (s_ (g_block (s_ ?_)))))
     refine g_quiet (by kernel_rfl) (by kernel_rfl) ?_
     refine xq 3 [0] rfl (by omega) ?_
     obtain ⟨u, hu⟩ : ∃ u, q[i]? = some u := ⟨_, List.getElem?_eq_getElem (by omega)⟩
     have huk := (hqk i u hu).1
     refine q_val rfl rfl rfl (y_rdAddr hrq rfl rfl Try.underlying26 Try.sizeOf28 (by omega) (by omega)) ?_
     refine q_val (v := .agg (nC u).toArray) rfl rfl rfl (y_rdAggF (i := (i : Int)) (vs := nC u) hrq List.not_mem_nil rfl Try.isAgg28 Try.sizeOf28 (by omega) (by omega) (nC_len _) (fun jj hjj => by rw [Int.toNat_natCast, List.getD_eq_getElem?_getD, hu]; rw [Option.getD_some, List.getElem?_eq_getElem (show jj < (nC u).length by rw [nC_len]; exact hjj)]; rfl)) ?_
     refine xq 2 [1,2] rfl (by omega) ?_
     refine q_c1 ((meets1 (I := fun w => MT.rd w u) Try.call17 (fun w hI => ih u (List.mem_of_getElem? hu) w hI) : Meets Try.prog _ 17 [.agg (nC u).toArray, .agg (spC m).toArray, .agg #[.int .i64 o1, .int .i64 o2]] _ _ _)) (fun w hS => hS.okOf huk (fun _ _ => List.not_mem_nil)) rfl rfl rfl ?_
     refine xq 1 [] rfl rfl ?_
     refine q_nil (t_ (s_ (o_ ?_)))
     refine xg 2 [] rfl rfl ?_
     refine n_ (t_ (g_cond_f rfl (g_skip (g_in_normal (t_ (o_ ?_))))))
     refine xg 3 [] rfl (by omega) ?_
     refine n_ ?_
     exact g_again ⟨i + 1, by omega⟩ [3, 4, 5, 8] (by dsimp only; omega) rfl (fun w h => h.pick [0,0,0] rfl)
    refine g_cond_f rfl (g_exit (g_then_exit (g_then_exit (g_in_exit (t_ (s_ (o_ ?_)))))))
    refine xg 1 [] rfl rfl ?_
    refine n_ (t_ (g_ret ?_))
    refine g_end1 Try.results17 rfl ?_
    exact fun w hS => ⟨rfl, hS.below⟩
   refine g_cond_f rfl (g_skip (t_ (s_ (s_ (o_ ?_)))))
   refine xg 1 [] rfl rfl ?_
   refine n_ (t_ (g_block ?_))
   refine g_loop (α := {x : Nat // x ≤ q.length}) (fun x => [(3, .pointer (some ⟨b1, 0, none⟩)), (4, .pointer (some ⟨b2, 0, none⟩)), (5, .pointer (some ⟨b3, 0, none⟩)), (8, .int .i64 (x.1 : Int))]) (fun x => St w [] [.cells b1 28 (nC (MT.mk k s nmi nma nnu (Value.slice pq q.length cq) q)), .cells b2 36 (spC m), .cells b3 34 [.int .i64 o1, .int .i64 o2]]) (fun x => q.length - x.1) ⟨0, Nat.zero_le _⟩ [3, 4, 5, 8] rfl (fun w h => h.pick [2,1,0] rfl) ?_
   rintro ⟨i, gi⟩
   dsimp only
   refine s_ (s_ (o_ ?_))
   refine xg 3 [0] rfl (by omega) ?_
   refine g_val (v := .int .i64 ((q.length : Nat) : Int)) rfl rfl rfl (y_llen rfl Try.underlying26) ?_
   refine xg 1 [0] rfl rfl ?_
   refine n_ (t_ ?_)
   refine g_casep 56 rfl (fun h6 => ?_) fun h6 => ?_
   ·refine g_cond_t rfl (g_skip (t_ (s_ (g_block (s_ ?_)))))
    refine g_quiet (by kernel_rfl) (by kernel_rfl) ?_
    refine xq 3 [0] rfl (by omega) ?_
    obtain ⟨u, hu⟩ : ∃ u, q[i]? = some u := ⟨_, List.getElem?_eq_getElem (by omega)⟩
    have huk := (hqk i u hu).1
    refine q_val rfl rfl rfl (y_rdAddr hrq rfl rfl Try.underlying26 Try.sizeOf28 (by omega) (by omega)) ?_
    refine q_val (v := .agg (nC u).toArray) rfl rfl rfl (y_rdAggF (i := (i : Int)) (vs := nC u) hrq List.not_mem_nil rfl Try.isAgg28 Try.sizeOf28 (by omega) (by omega) (nC_len _) (fun jj hjj => by rw [Int.toNat_natCast, List.getD_eq_getElem?_getD, hu]; rw [Option.getD_some, List.getElem?_eq_getElem (show jj < (nC u).length by rw [nC_len]; exact hjj)]; rfl)) ?_
    refine xq 2 [1,2] rfl (by omega) ?_
    refine q_c1 ((meets1 (I := fun w => MT.rd w u) Try.call17 (fun w hI => ih u (List.mem_of_getElem? hu) w hI) : Meets Try.prog _ 17 [.agg (nC u).toArray, .agg (spC m).toArray, .agg #[.int .i64 o1, .int .i64 o2]] _ _ _)) (fun w hS => hS.okOf huk (fun _ _ => List.not_mem_nil)) rfl rfl rfl ?_
    refine xq 1 [] rfl rfl ?_
    refine q_nil (t_ (s_ (o_ ?_)))
    refine xg 2 [] rfl rfl ?_
    refine n_ (t_ (g_cond_f rfl (g_skip (g_in_normal (t_ (o_ ?_))))))
    refine xg 3 [] rfl (by omega) ?_
    refine n_ ?_
    exact g_again ⟨i + 1, by omega⟩ [3, 4, 5, 8] (by dsimp only; omega) rfl (fun w h => h.pick [0,0,0] rfl)
   refine g_cond_f rfl (g_exit (g_then_exit (g_then_exit (g_in_exit (t_ (s_ (o_ ?_)))))))
   refine xg 1 [] rfl rfl ?_
   refine n_ (t_ (g_ret ?_))
   refine g_end1 Try.results17 rfl ?_
   exact fun w hS => ⟨rfl, hS.below⟩
  refine xg 4 [] rfl rfl ?_
  refine n_ (t_ (g_cond_f rfl (g_skip (t_ (s_ (s_ (o_ ?_)))))))
  refine xg 1 [] rfl rfl ?_
  refine n_ (t_ (g_block ?_))
  refine g_loop (α := {x : Nat // x ≤ q.length}) (fun x => [(3, .pointer (some ⟨b1, 0, none⟩)), (4, .pointer (some ⟨b2, 0, none⟩)), (5, .pointer (some ⟨b3, 0, none⟩)), (8, .int .i64 (x.1 : Int))]) (fun x => St w [] [.cells b1 28 (nC (MT.mk k s nmi nma nnu (Value.slice pq q.length cq) q)), .cells b2 36 (spC m), .cells b3 34 [.int .i64 o1, .int .i64 o2]]) (fun x => q.length - x.1) ⟨0, Nat.zero_le _⟩ [3, 4, 5, 8] rfl (fun w h => h.pick [2,1,0] rfl) ?_
  rintro ⟨i, gi⟩
  dsimp only
  refine s_ (s_ (o_ ?_))
  refine xg 3 [0] rfl (by omega) ?_
  refine g_val (v := .int .i64 ((q.length : Nat) : Int)) rfl rfl rfl (y_llen rfl Try.underlying26) ?_
  refine xg 1 [0] rfl rfl ?_
  refine n_ (t_ ?_)
  refine g_casep 56 rfl (fun h7 => ?_) fun h7 => ?_
  ·refine g_cond_t rfl (g_skip (t_ (s_ (g_block (s_ ?_)))))
   refine g_quiet (by kernel_rfl) (by kernel_rfl) ?_
   refine xq 3 [0] rfl (by omega) ?_
   obtain ⟨u, hu⟩ : ∃ u, q[i]? = some u := ⟨_, List.getElem?_eq_getElem (by omega)⟩
   have huk := (hqk i u hu).1
   refine q_val rfl rfl rfl (y_rdAddr hrq rfl rfl Try.underlying26 Try.sizeOf28 (by omega) (by omega)) ?_
   refine q_val (v := .agg (nC u).toArray) rfl rfl rfl (y_rdAggF (i := (i : Int)) (vs := nC u) hrq List.not_mem_nil rfl Try.isAgg28 Try.sizeOf28 (by omega) (by omega) (nC_len _) (fun jj hjj => by rw [Int.toNat_natCast, List.getD_eq_getElem?_getD, hu]; rw [Option.getD_some, List.getElem?_eq_getElem (show jj < (nC u).length by rw [nC_len]; exact hjj)]; rfl)) ?_
   refine xq 2 [1,2] rfl (by omega) ?_
   refine q_c1 ((meets1 (I := fun w => MT.rd w u) Try.call17 (fun w hI => ih u (List.mem_of_getElem? hu) w hI) : Meets Try.prog _ 17 [.agg (nC u).toArray, .agg (spC m).toArray, .agg #[.int .i64 o1, .int .i64 o2]] _ _ _)) (fun w hS => hS.okOf huk (fun _ _ => List.not_mem_nil)) rfl rfl rfl ?_
   refine xq 1 [] rfl rfl ?_
   refine q_nil (t_ (s_ (o_ ?_)))
   refine xg 2 [] rfl rfl ?_
   refine n_ (t_ (g_cond_f rfl (g_skip (g_in_normal (t_ (o_ ?_))))))
   refine xg 3 [] rfl (by omega) ?_
   refine n_ ?_
   exact g_again ⟨i + 1, by omega⟩ [3, 4, 5, 8] (by dsimp only; omega) rfl (fun w h => h.pick [0,0,0] rfl)
  refine g_cond_f rfl (g_exit (g_then_exit (g_then_exit (g_in_exit (t_ (s_ (o_ ?_)))))))
  refine xg 1 [] rfl rfl ?_
  refine n_ (t_ (g_ret ?_))
  refine g_end1 Try.results17 rfl ?_
  exact fun w hS => ⟨rfl, hS.below⟩
 refine xg 9 [] rfl rfl ?_
 refine n_ (t_ (g_cond_f rfl (g_skip (t_ (s_ (s_ (o_ ?_)))))))
 refine xg 1 [] rfl rfl ?_
 refine n_ (t_ (g_block ?_))
 refine g_loop (α := {x : Nat // x ≤ q.length}) (fun x => [(3, .pointer (some ⟨b1, 0, none⟩)), (4, .pointer (some ⟨b2, 0, none⟩)), (5, .pointer (some ⟨b3, 0, none⟩)), (8, .int .i64 (x.1 : Int))]) (fun x => St w [] [.cells b1 28 (nC (MT.mk k s nmi nma nnu (Value.slice pq q.length cq) q)), .cells b2 36 (spC m), .cells b3 34 [.int .i64 o1, .int .i64 o2]]) (fun x => q.length - x.1) ⟨0, Nat.zero_le _⟩ [3, 4, 5, 8] rfl (fun w h => h.pick [2,1,0] rfl) ?_
 rintro ⟨i, gi⟩
 dsimp only
 refine s_ (s_ (o_ ?_))
 refine xg 3 [0] rfl (by omega) ?_
 refine g_val (v := .int .i64 ((q.length : Nat) : Int)) rfl rfl rfl (y_llen rfl Try.underlying26) ?_
 refine xg 1 [0] rfl rfl ?_
 refine n_ (t_ ?_)
 refine g_casep 56 rfl (fun h8 => ?_) fun h8 => ?_
 ·refine g_cond_t rfl (g_skip (t_ (s_ (g_block (s_ ?_)))))
  refine g_quiet (by kernel_rfl) (by kernel_rfl) ?_
  refine xq 3 [0] rfl (by omega) ?_
  obtain ⟨u, hu⟩ : ∃ u, q[i]? = some u := ⟨_, List.getElem?_eq_getElem (by omega)⟩
  have huk := (hqk i u hu).1
  refine q_val rfl rfl rfl (y_rdAddr hrq rfl rfl Try.underlying26 Try.sizeOf28 (by omega) (by omega)) ?_
  refine q_val (v := .agg (nC u).toArray) rfl rfl rfl (y_rdAggF (i := (i : Int)) (vs := nC u) hrq List.not_mem_nil rfl Try.isAgg28 Try.sizeOf28 (by omega) (by omega) (nC_len _) (fun jj hjj => by rw [Int.toNat_natCast, List.getD_eq_getElem?_getD, hu]; rw [Option.getD_some, List.getElem?_eq_getElem (show jj < (nC u).length by rw [nC_len]; exact hjj)]; rfl)) ?_
  refine xq 2 [1,2] rfl (by omega) ?_
  refine q_c1 ((meets1 (I := fun w => MT.rd w u) Try.call17 (fun w hI => ih u (List.mem_of_getElem? hu) w hI) : Meets Try.prog _ 17 [.agg (nC u).toArray, .agg (spC m).toArray, .agg #[.int .i64 o1, .int .i64 o2]] _ _ _)) (fun w hS => hS.okOf huk (fun _ _ => List.not_mem_nil)) rfl rfl rfl ?_
  refine xq 1 [] rfl rfl ?_
  refine q_nil (t_ (s_ (o_ ?_)))
  refine xg 2 [] rfl rfl ?_
  refine n_ (t_ (g_cond_f rfl (g_skip (g_in_normal (t_ (o_ ?_))))))
  refine xg 3 [] rfl (by omega) ?_
  refine n_ ?_
  exact g_again ⟨i + 1, by omega⟩ [3, 4, 5, 8] (by dsimp only; omega) rfl (fun w h => h.pick [0,0,0] rfl)
 refine g_cond_f rfl (g_exit (g_then_exit (g_then_exit (g_in_exit (t_ (s_ (o_ ?_)))))))
 refine xg 1 [] rfl rfl ?_
 refine n_ (t_ (g_ret ?_))
 refine g_end1 Try.results17 rfl ?_
 exact fun w hS => ⟨rfl, hS.below⟩

theorem gcL_app : ∀ (a b : List MT), gcL (a ++ b) = gcL a + gcL b
  | [], b => by rw [gcL_nil]; simp
  | t :: a, b => by rw [List.cons_append, gcL_cons, gcL_cons, gcL_app a b]; omega
theorem gcL_take {q : List MT} {i : Nat} {u : MT} (h : q[i]? = some u) : gcL (q.take (i + 1)) = gcL (q.take i) + gcT u ∧ gcL (q.take (i + 1)) ≤ gcL q := by
  have e : gcL (q.take (i + 1)) = gcL (q.take i) + gcT u := by
    rw [List.take_add_one, h, gcL_app]
    show _ + gcL [u] = _
    rw [gcL_cons, gcL_nil]; rfl
  refine ⟨e, ?_⟩
  have := gcL_app (q.take (i + 1)) (q.drop (i + 1))
  rw [List.take_append_drop] at this; omega
theorem gcL_le (q : List MT) : gcL q ≤ wL q := by
  induction q with
  | nil => rw [gcL_nil]; exact Nat.zero_le _
  | cons t q ih => have := gcT_le t; rw [gcL_cons, wL]; omega

set_option maxRecDepth 100000 in
theorem gro_any (k : Int) (s : Nat → Int) (nmi nma nnu : Int) (pq : Option Addr) (cq : Nat) (q : List MT) (hle : wT (MT.mk k s nmi nma nnu (Value.slice pq q.length cq) q) ≤ 1000000) (ih : ∀ u, u ∈ q → ∀ w, u.rd w → Calls Try.prog 18 #[.agg (nC u).toArray] w fun e w' => e = .returned (.int .i64 (gcT u : Int)) ∧ Below w.heap.size w w') (w : World) (hok : MT.rd w (MT.mk k s nmi nma nnu (Value.slice pq q.length cq) q)) :
    Calls Try.prog 18 #[.agg (nC (MT.mk k s nmi nma nnu (Value.slice pq q.length cq) q)).toArray] w fun e w' => e = .returned (.int .i64 (gcT (MT.mk k s nmi nma nnu (Value.slice pq q.length cq) q) : Int)) ∧ Below w.heap.size w w' := by
 obtain ⟨hrq, _, hqk⟩ := rd_facts (F := []) hok (fun _ _ => List.not_mem_nil)
 have hmax : maxLen = 9223372036854775807 := rfl
 rw [wT_mk] at hle
 have hql := wL_len q
 have hgq := gcL_le q
 refine fn_intro Try.func18 rfl Try.ntmps18 rfl rfl ?_
 refine s_ (o_ ?_)
 refine g_box rfl rfl rfl rfl (fun b1 => ?_)
 refine xg 1 [] rfl rfl ?_
 refine ntso_ ?_
 refine xg 1 [] rfl rfl ?_
 refine n_ (t_ (s_ (s_ (o_ ?_))))
 refine xg 3 [0,0] rfl (by omega) ?_
 refine n_ (t_ ?_)
 refine g_casep 7 rfl (fun h1 => ?_) fun h1 => ?_
 ·refine g_cond_t rfl (o_ ?_)
  refine xg 1 [] rfl rfl ?_
  refine n_ (t_ (s_ (s_ (o_ ?_))))
  refine xg 1 [] rfl rfl ?_
  refine n_ (t_ (g_block ?_))
  refine g_loop (α := {x : Nat // x ≤ q.length}) (fun x => [(1, .pointer (some ⟨b1, 0, none⟩)), (3, .int .i64 ((1 + gcL (q.take x.1) : Nat) : Int)), (4, .int .i64 (x.1 : Int))]) (fun x => St w [] [.cells b1 28 (nC (MT.mk k s nmi nma nnu (Value.slice pq q.length cq) q))]) (fun x => q.length - x.1) ⟨0, Nat.zero_le _⟩ [1, 3, 4] (by rw [List.take_zero, gcL_nil]; rfl) (fun w h => h.pick [0] rfl) ?_
  rintro ⟨i, gi⟩
  dsimp only
  refine s_ (s_ (o_ ?_))
  refine xg 3 [0] rfl (by omega) ?_
  refine g_val (v := .int .i64 ((q.length : Nat) : Int)) rfl rfl rfl (y_llen rfl Try.underlying26) ?_
  refine xg 1 [0] rfl rfl ?_
  refine n_ (t_ ?_)
  refine g_casep 12 rfl (fun h2 => ?_) fun h2 => ?_
  ·refine g_cond_t rfl (g_skip (t_ (s_ (g_block (o_ ?_)))))
   refine xg 4 [0] rfl (by omega) ?_
   obtain ⟨u, hu⟩ : ∃ u, q[i]? = some u := ⟨_, List.getElem?_eq_getElem (by omega)⟩
   have huk := (hqk i u hu).1
   have hnx := gcL_take hu
   refine g_val rfl rfl rfl (y_rdAddr hrq rfl rfl Try.underlying26 Try.sizeOf28 (by omega) (by omega)) ?_
   refine g_val (v := .agg (nC u).toArray) rfl rfl rfl (y_rdAggF (i := (i : Int)) (vs := nC u) hrq List.not_mem_nil rfl Try.isAgg28 Try.sizeOf28 (by omega) (by omega) (nC_len _) (fun jj hjj => by rw [Int.toNat_natCast, List.getD_eq_getElem?_getD, hu]; rw [Option.getD_some, List.getElem?_eq_getElem (show jj < (nC u).length by rw [nC_len]; exact hjj)]; rfl)) ?_
   refine g_c1 ((meets1 (I := fun w => MT.rd w u) Try.call18 (fun w hI => ih u (List.mem_of_getElem? hu) w hI) : Meets Try.prog _ 18 [.agg (nC u).toArray] _ _ _)) (fun w hS => hS.okOf huk (fun _ _ => List.not_mem_nil)) rfl rfl rfl ?_
   refine xg 2 [] rfl (by omega) ?_
   refine n_ (g_in_normal (t_ (o_ ?_)))
   refine xg 3 [] rfl (by omega) ?_
   refine n_ ?_
   exact g_again ⟨i + 1, by omega⟩ [1, 3, 4] (by dsimp only; omega) (by rw [show (((1 + gcL (q.take i) : Nat) : Int) + (gcT u : Int)) = ((1 + gcL (q.take (i + 1)) : Nat) : Int) by omega]; rfl) (fun w h => h.pick [0] rfl)
  refine g_cond_f rfl (g_exit (g_then_exit (g_then_exit (g_in_exit (t_ (s_ (o_ ?_)))))))
  refine xg 2 [] rfl rfl ?_
  refine n_ (t_ (g_ret ?_))
  refine g_end1 Try.results18 rfl ?_
  obtain rfl : i = q.length := by omega
  rw [List.take_length, gcT_mk]
  first | rw [if_pos (by assumption)] | rw [if_neg (by assumption)]
  exact fun w hS => ⟨rfl, hS.below⟩
 refine g_cond_f rfl (g_skip (t_ (s_ (s_ (o_ ?_)))))
 refine xg 1 [] rfl rfl ?_
 refine n_ (t_ (g_block ?_))
 refine g_loop (α := {x : Nat // x ≤ q.length}) (fun x => [(1, .pointer (some ⟨b1, 0, none⟩)), (3, .int .i64 ((0 + gcL (q.take x.1) : Nat) : Int)), (4, .int .i64 (x.1 : Int))]) (fun x => St w [] [.cells b1 28 (nC (MT.mk k s nmi nma nnu (Value.slice pq q.length cq) q))]) (fun x => q.length - x.1) ⟨0, Nat.zero_le _⟩ [1, 3, 4] (by rw [List.take_zero, gcL_nil]; rfl) (fun w h => h.pick [0] rfl) ?_
 rintro ⟨i, gi⟩
 dsimp only
 refine s_ (s_ (o_ ?_))
 refine xg 3 [0] rfl (by omega) ?_
 refine g_val (v := .int .i64 ((q.length : Nat) : Int)) rfl rfl rfl (y_llen rfl Try.underlying26) ?_
 refine xg 1 [0] rfl rfl ?_
 refine n_ (t_ ?_)
 refine g_casep 12 rfl (fun h3 => ?_) fun h3 => ?_
 ·refine g_cond_t rfl (g_skip (t_ (s_ (g_block (o_ ?_)))))
  refine xg 4 [0] rfl (by omega) ?_
  obtain ⟨u, hu⟩ : ∃ u, q[i]? = some u := ⟨_, List.getElem?_eq_getElem (by omega)⟩
  have huk := (hqk i u hu).1
  have hnx := gcL_take hu
  refine g_val rfl rfl rfl (y_rdAddr hrq rfl rfl Try.underlying26 Try.sizeOf28 (by omega) (by omega)) ?_
  refine g_val (v := .agg (nC u).toArray) rfl rfl rfl (y_rdAggF (i := (i : Int)) (vs := nC u) hrq List.not_mem_nil rfl Try.isAgg28 Try.sizeOf28 (by omega) (by omega) (nC_len _) (fun jj hjj => by rw [Int.toNat_natCast, List.getD_eq_getElem?_getD, hu]; rw [Option.getD_some, List.getElem?_eq_getElem (show jj < (nC u).length by rw [nC_len]; exact hjj)]; rfl)) ?_
  refine g_c1 ((meets1 (I := fun w => MT.rd w u) Try.call18 (fun w hI => ih u (List.mem_of_getElem? hu) w hI) : Meets Try.prog _ 18 [.agg (nC u).toArray] _ _ _)) (fun w hS => hS.okOf huk (fun _ _ => List.not_mem_nil)) rfl rfl rfl ?_
  refine xg 2 [] rfl (by omega) ?_
  refine n_ (g_in_normal (t_ (o_ ?_)))
  refine xg 3 [] rfl (by omega) ?_
  refine n_ ?_
  exact g_again ⟨i + 1, by omega⟩ [1, 3, 4] (by dsimp only; omega) (by rw [show (((0 + gcL (q.take i) : Nat) : Int) + (gcT u : Int)) = ((0 + gcL (q.take (i + 1)) : Nat) : Int) by omega]; rfl) (fun w h => h.pick [0] rfl)
 refine g_cond_f rfl (g_exit (g_then_exit (g_then_exit (g_in_exit (t_ (s_ (o_ ?_)))))))
 refine xg 2 [] rfl rfl ?_
 refine n_ (t_ (g_ret ?_))
 refine g_end1 Try.results18 rfl ?_
 obtain rfl : i = q.length := by omega
 rw [List.take_length, gcT_mk]
 first | rw [if_pos (by assumption)] | rw [if_neg (by assumption)]
 exact fun w hS => ⟨rfl, hS.below⟩

theorem within_t (m : Spn) (o1 o2 : Int) (hok2 : OkSp m o1 o2) : ∀ (D : Nat) (t : MT), wT t ≤ D → wT t ≤ 1000000 → ∀ w, t.rd w → Calls Try.prog 17 #[.agg (nC t).toArray, .agg (spC m).toArray, .agg #[.int .i64 o1, .int .i64 o2]] w fun e w' => e = .returned (.bool true) ∧ Below w.heap.size w w' := by
  intro D
  induction D with
  | zero => intro t h; have := wT_pos t; omega
  | succ D ihD =>
    intro t hD hle w hok
    obtain ⟨k, s, mi, ma, nu, p, c, q, rfl⟩ := rd_v hok
    rw [wT_mk] at hD
    exact within_any k s mi ma nu p c q m o1 o2 hok2 hle (fun u hu => ihD u (by have := wT_mem hu; omega) (by rw [wT_mk] at hle; have := wT_mem hu; omega)) w hok
theorem gro_t : ∀ (D : Nat) (t : MT), wT t ≤ D → wT t ≤ 1000000 → ∀ w, t.rd w → Calls Try.prog 18 #[.agg (nC t).toArray] w fun e w' => e = .returned (.int .i64 (gcT t : Int)) ∧ Below w.heap.size w w' := by
  intro D
  induction D with
  | zero => intro t h; have := wT_pos t; omega
  | succ D ihD =>
    intro t hD hle w hok
    obtain ⟨k, s, mi, ma, nu, p, c, q, rfl⟩ := rd_v hok
    rw [wT_mk] at hD
    exact gro_any k s mi ma nu p c q hle (fun u hu => ihD u (by have := wT_mem hu; omega) (by rw [wT_mk] at hle; have := wT_mem hu; omega)) w hok
theorem m_within (m : Spn) (o1 o2 : Int) (hok2 : OkSp m o1 o2) (t : MT) (h : wT t ≤ 1000000) : Meets Try.prog (fun w => t.rd w) 17 [.agg (nC t).toArray, .agg (spC m).toArray, .agg #[.int .i64 o1, .int .i64 o2]] (fun _ : Unit => .bool true) [] (fun _ => []) := meets1 Try.call17 (fun w hI => within_t m o1 o2 hok2 _ t (Nat.le_refl _) h w hI)
theorem m_gro (t : MT) (h : wT t ≤ 1000000) : Meets Try.prog (fun w => t.rd w) 18 [.agg (nC t).toArray] (fun _ : Unit => .int .i64 (gcT t : Int)) [] (fun _ => []) := meets1 Try.call18 (fun w hI => gro_t _ t (Nat.le_refl _) h w hI)

set_option maxRecDepth 100000 in
theorem mgroups_any (p l : List UInt8) (ext : Bool) (hp : p.length ≤ maxLen) (hl : l.length ≤ maxLen) (w : World) (hz : MaxHere w) :
    Calls Try.prog 4 #[st8 p, .bool ext, st8 l] w fun e w' => e = .returned (.bool true) ∧ Below w.heap.size w w' := by
 have hmax : maxLen = 9223372036854775807 := rfl
 refine fn_intro Try.func4 rfl Try.ntmps4 rfl rfl ?_
 refine s_ ?_
 cases ext
 ·refine o_ ?_
  refine xg 1 [] rfl rfl ?_
  refine ntso_ ?_
  refine xg 2 [] rfl rfl ?_
  refine g_callNew (fun x : {x : MT × Int // parX false p x} => .tuple #[.agg (nC x.1.1).toArray, .int .i64 x.1.2]) (fun x => [.forest [x.1.1]]) rfl rfl rfl Try.call16 (fun w hS => parse_xb p w (hS.maxHere hz (by simp))) ?_
  rintro ⟨⟨t, ern⟩, hpar⟩
  obtain ⟨nk, ns, nm, nx, nu, nv, nq⟩ := t
  refine g_kids 0 rfl (fun pv cv hv => ?_)
  cases hv
  dsimp only
  simp only [List.cons_append, List.nil_append]
  refine xg 3 [] rfl rfl ?_
  refine g_alloc rfl rfl Try.zeroValue28 rfl (fun b7 => ?_)
  refine xg 2 [0] rfl (by omega) ?_
  refine n_ (t_ (s_ (s_ (o_ ?_))))
  refine xg 1 [] rfl rfl ?_
  refine g_val (v := .int .i64 (p.length : Int)) rfl rfl rfl (y_val (y_slen rfl Try.underlying9) (by rw [size_mk])) ?_
  refine xg 2 [0] rfl rfl ?_
  refine g_casep 23 rfl (fun h1 => ?_) fun h1 => ?_
  ·refine xg 8 [] rfl rfl ?_
   refine n_ (t_ (g_cond_t rfl (s_ (o_ ?_))))
   refine g_call1 rfl rfl rfl Try.call13 (fun w hS => alive_any w (hS.maxHere hz (by simp))) ?_
   refine xg 1 [] rfl rfl ?_
   refine n_ (t_ (g_ret (g_then_ret ?_)))
   refine g_end1 Try.results4 rfl ?_
   exact fun w hS => ⟨rfl, hS.below⟩
  refine xg 4 [0] rfl rfl ?_
  refine g_casep 27 rfl (fun h2 => ?_) fun h2 => ?_
  ·refine xg 4 [] rfl rfl ?_
   refine n_ (t_ (g_cond_t rfl (s_ (o_ ?_))))
   refine g_call1 rfl rfl rfl Try.call13 (fun w hS => alive_any w (hS.maxHere hz (by simp))) ?_
   refine xg 1 [] rfl rfl ?_
   refine n_ (t_ (g_ret (g_then_ret ?_)))
   refine g_end1 Try.results4 rfl ?_
   exact fun w hS => ⟨rfl, hS.below⟩
  refine xg 1 [] rfl rfl ?_
  refine g_val (v := .int .i64 (l.length : Int)) rfl rfl rfl (y_val (y_slen rfl Try.underlying9) (by rw [size_mk])) ?_
  refine xg 2 [0] rfl rfl ?_
  refine n_ (t_ ?_)
  refine g_casep 31 rfl (fun h3 => ?_) fun h3 => ?_
  ·refine g_cond_t rfl (s_ (o_ ?_))
   refine g_call1 rfl rfl rfl Try.call13 (fun w hS => alive_any w (hS.maxHere hz (by simp))) ?_
   refine xg 1 [] rfl rfl ?_
   refine n_ (t_ (g_ret (g_then_ret ?_)))
   refine g_end1 Try.results4 rfl ?_
   exact fun w hS => ⟨rfl, hS.below⟩
  refine g_cond_f rfl (g_skip (t_ (s_ ?_)))
  obtain rfl : ern = 0 := by omega
  obtain ⟨g9, hgood, hg9⟩ : ∃ g, GoodT (.mk nk ns nm nx nu (.slice pv nq.length cv) nq) 0 g ∧ g ≤ 9 := (parX_good hpar).elim (fun h => absurd (show (0 : Int) = 91 from congrArg Prod.snd h) (by decide)) (fun h => h.2.2.2)
  have hgc := gcT_good _ 0 g9 hgood
  rcases grp_found (x := ⟨l, true⟩) hgood (show l.length ≤ 1024 by omega) with hfr | ⟨m, hfr, hok2, hfix, hone⟩
  ·refine o_ ?_
   refine xg 2 [0] rfl (by omega) ?_
   refine g_c1 (m_find ⟨l, true⟩ (.mk nk ns nm nx nu (.slice pv nq.length cv) nq) 0 (by show l.length ≤ _; omega) (by have := parX_size hpar; dsimp only at this; omega)) (fun w hS => forest_rd hS (i := 1) rfl) rfl rfl rfl ?_
   rw [hfr]
   refine xg 3 [] rfl rfl ?_
   refine g_alloc rfl rfl Try.zeroValue36 rfl (fun b9 => ?_)
   refine xg 2 [0] rfl (by omega) ?_
   refine n_ (t_ (s_ (s_ (o_ ?_))))
   refine xg 2 [] rfl rfl ?_
   refine n_ (t_ (g_cond_t rfl (s_ (o_ ?_))))
   refine g_call1 rfl rfl rfl Try.call13 (fun w hS => alive_any w (hS.maxHere hz (by simp))) ?_
   refine xg 3 [0] rfl (by omega) ?_
   refine g_val (v := .bool true) rfl rfl rfl (y_mtEq m0 rfl rfl) ?_
   refine xg 2 [] rfl rfl ?_
   refine n_ (t_ (g_ret (g_then_ret ?_)))
   refine g_end1 Try.results4 rfl ?_
   exact fun w hS => ⟨rfl, hS.below⟩
  replace hone : nk = 5 → m 1 = m 0 := hone
  refine o_ ?_
  refine xg 2 [0] rfl (by omega) ?_
  refine g_c1 (m_find ⟨l, true⟩ (.mk nk ns nm nx nu (.slice pv nq.length cv) nq) 0 (by show l.length ≤ _; omega) (by have := parX_size hpar; dsimp only at this; omega)) (fun w hS => forest_rd hS (i := 1) rfl) rfl rfl rfl ?_
  rw [hfr]
  refine xg 3 [] rfl rfl ?_
  refine g_alloc rfl rfl Try.zeroValue36 rfl (fun b9 => ?_)
  refine xg 2 [0] rfl (by omega) ?_
  refine n_ (t_ (s_ (s_ (o_ ?_))))
  refine xg 2 [] rfl rfl ?_
  refine n_ (t_ (g_cond_f rfl (g_skip (t_ (s_ (o_ ?_))))))
  refine xg 4 [1,0,0] rfl (by omega) ?_
  refine g_c1 (m_within m _ _ hok2 (.mk nk ns nm nx nu (.slice pv nq.length cv) nq) (by have := parX_size hpar; dsimp only at this; omega)) (fun w hS => forest_rd hS (i := 2) rfl) rfl rfl rfl ?_
  refine xg 1 [] rfl rfl ?_
  refine ntso_ ?_
  refine xg 1 [1] rfl (by omega) ?_
  refine g_c1 (m_gro (.mk nk ns nm nx nu (.slice pv nq.length cv) nq) (by have := parX_size hpar; dsimp only at this; omega)) (fun w hS => forest_rd hS (i := 2) rfl) rfl rfl rfl ?_
  refine xg 1 [] rfl rfl ?_
  refine n_ (t_ (s_ (s_ (o_ ?_))))
  refine xg 1 [] rfl rfl ?_
  refine n_ (t_ (g_block ?_))
  refine g_loop (α := {x : Nat // 1 ≤ x ∧ x ≤ 10}) (fun x => [(7, .pointer (some ⟨b7, 0, none⟩)), (9, .pointer (some ⟨b9, 0, none⟩)), (11, .bool true), (12, .int .i64 (gcT (.mk nk ns nm nx nu (.slice pv nq.length cv) nq) : Int)), (13, .int .i64 (x.1 : Int))]) (fun x => St w [] [.cells b7 28 (nC (.mk nk ns nm nx nu (.slice pv nq.length cv) nq)), .cells b9 36 (spC m)]) (fun x => 10 - x.1) ⟨1, by decide⟩ [7, 9, 11, 12, 13] rfl (fun w h => h.pick [1,0] rfl) ?_
  rintro ⟨kk, gk⟩
  dsimp only
  refine s_ (s_ (o_ ?_))
  refine xg 2 [0] rfl rfl ?_
  refine n_ (t_ ?_)
  refine g_casep 55 rfl (fun h4 => ?_) fun h4 => ?_
  ·refine g_cond_t rfl (g_skip (t_ (s_ (g_block (s_ (o_ ?_))))))
   refine xg 4 [0] rfl rfl ?_
   refine g_casep 61 rfl (fun h5 => ?_) fun h5 => ?_
   ·refine xg 1 [] rfl rfl ?_
    refine g_val rfl rfl rfl (y_idxArr (m := kk * 2) rfl rfl Try.underlying36 Try.sizeOf34 (by omega) (by omega) (by omega)) ?_
    have hmk := hfix kk (by omega) (by omega)
    refine g_val (v := .agg [.int .i64 (-1), .int .i64 (-1)].toArray) rfl rfl rfl (y_val (y_ldN (vs := [.int .i64 (m kk).1, .int .i64 (m kk).2]) 1 rfl Try.isAgg34 Try.sizeOf34 rfl (spC_at m _ (by omega)) rfl) (by rw [hmk])) ?_
    refine xg 1 [] rfl rfl ?_
    refine g_val (v := .bool false) rfl rfl rfl (y_val (y_spNe rfl rfl) (by simp)) ?_
    refine xg 1 [] rfl rfl ?_
    refine n_ (t_ (g_cond_f rfl (g_skip (g_in_normal (t_ (o_ ?_))))))
    refine xg 3 [] rfl (by omega) ?_
    refine n_ ?_
    exact g_again ⟨kk + 1, by omega, by omega⟩ [7, 9, 11, 12, 13] (by dsimp only; omega) rfl (fun w h => h.pick [0,0] rfl)
   refine xg 6 [] rfl rfl ?_
   refine n_ (t_ (g_cond_f rfl (g_skip (g_in_normal (t_ (o_ ?_))))))
   refine xg 3 [] rfl (by omega) ?_
   refine n_ ?_
   exact g_again ⟨kk + 1, by omega, by omega⟩ [7, 9, 11, 12, 13] (by dsimp only; omega) rfl (fun w h => h.pick [0,0] rfl)
  refine g_cond_f rfl (g_exit (g_then_exit (g_then_exit (g_in_exit (t_ (s_ (o_ ?_)))))))
  refine g_call1 rfl rfl rfl Try.call13 (fun w hS => alive_any w (hS.maxHere hz (by simp))) ?_
  refine xg 8 [0,0] rfl (by omega) ?_
  refine g_casep 76 rfl (fun h6 => ?_) fun h6 => ?_
  ·refine xg 8 [] rfl rfl ?_
   refine n_ (t_ (g_ret ?_))
   refine g_end1 Try.results4 rfl ?_
   exact fun w hS => ⟨rfl, hS.below⟩
  refine xg 4 [1,1] rfl (by omega) ?_
  have h10 := hone (by omega)
  refine g_val (v := .bool true) rfl rfl rfl (y_val (y_spEq rfl rfl) (by rw [h10]; simp)) ?_
  refine xg 3 [] rfl rfl ?_
  refine n_ (t_ (g_ret ?_))
  refine g_end1 Try.results4 rfl ?_
  exact fun w hS => ⟨rfl, hS.below⟩
 refine o_ ?_
 refine xg 1 [] rfl rfl ?_
 refine ntso_ ?_
 refine xg 2 [] rfl rfl ?_
 refine g_callNew (fun x : {x : MT × Int // parX true p x} => .tuple #[.agg (nC x.1.1).toArray, .int .i64 x.1.2]) (fun x => [.forest [x.1.1]]) rfl rfl rfl Try.call16 (fun w hS => parse_xe p w (hS.maxHere hz (by simp))) ?_
 rintro ⟨⟨t, ern⟩, hpar⟩
 obtain ⟨nk, ns, nm, nx, nu, nv, nq⟩ := t
 refine g_kids 0 rfl (fun pv cv hv => ?_)
 cases hv
 dsimp only
 simp only [List.cons_append, List.nil_append]
 refine xg 3 [] rfl rfl ?_
 refine g_alloc rfl rfl Try.zeroValue28 rfl (fun b7 => ?_)
 refine xg 2 [0] rfl (by omega) ?_
 refine n_ (t_ (s_ (s_ (o_ ?_))))
 refine xg 1 [] rfl rfl ?_
 refine g_val (v := .int .i64 (p.length : Int)) rfl rfl rfl (y_val (y_slen rfl Try.underlying9) (by rw [size_mk])) ?_
 refine xg 2 [0] rfl rfl ?_
 refine g_casep 23 rfl (fun h7 => ?_) fun h7 => ?_
 ·refine xg 8 [] rfl rfl ?_
  refine n_ (t_ (g_cond_t rfl (s_ (o_ ?_))))
  refine g_call1 rfl rfl rfl Try.call13 (fun w hS => alive_any w (hS.maxHere hz (by simp))) ?_
  refine xg 1 [] rfl rfl ?_
  refine n_ (t_ (g_ret (g_then_ret ?_)))
  refine g_end1 Try.results4 rfl ?_
  exact fun w hS => ⟨rfl, hS.below⟩
 refine xg 4 [0] rfl rfl ?_
 refine g_casep 27 rfl (fun h8 => ?_) fun h8 => ?_
 ·refine xg 4 [] rfl rfl ?_
  refine n_ (t_ (g_cond_t rfl (s_ (o_ ?_))))
  refine g_call1 rfl rfl rfl Try.call13 (fun w hS => alive_any w (hS.maxHere hz (by simp))) ?_
  refine xg 1 [] rfl rfl ?_
  refine n_ (t_ (g_ret (g_then_ret ?_)))
  refine g_end1 Try.results4 rfl ?_
  exact fun w hS => ⟨rfl, hS.below⟩
 refine xg 1 [] rfl rfl ?_
 refine g_val (v := .int .i64 (l.length : Int)) rfl rfl rfl (y_val (y_slen rfl Try.underlying9) (by rw [size_mk])) ?_
 refine xg 2 [0] rfl rfl ?_
 refine n_ (t_ ?_)
 refine g_casep 31 rfl (fun h9 => ?_) fun h9 => ?_
 ·refine g_cond_t rfl (s_ (o_ ?_))
  refine g_call1 rfl rfl rfl Try.call13 (fun w hS => alive_any w (hS.maxHere hz (by simp))) ?_
  refine xg 1 [] rfl rfl ?_
  refine n_ (t_ (g_ret (g_then_ret ?_)))
  refine g_end1 Try.results4 rfl ?_
  exact fun w hS => ⟨rfl, hS.below⟩
 refine g_cond_f rfl (g_skip (t_ (s_ ?_)))
 obtain rfl : ern = 0 := by omega
 obtain ⟨g9, hgood, hg9⟩ : ∃ g, GoodT (.mk nk ns nm nx nu (.slice pv nq.length cv) nq) 0 g ∧ g ≤ 9 := (parX_good hpar).elim (fun h => absurd (show (0 : Int) = 91 from congrArg Prod.snd h) (by decide)) (fun h => h.2.2.2)
 have hgc := gcT_good _ 0 g9 hgood
 rcases grp_found (x := ⟨l, true⟩) hgood (show l.length ≤ 1024 by omega) with hfr | ⟨m, hfr, hok2, hfix, hone⟩
 ·refine o_ ?_
  refine xg 2 [0] rfl (by omega) ?_
  refine g_c1 (m_find ⟨l, true⟩ (.mk nk ns nm nx nu (.slice pv nq.length cv) nq) 0 (by show l.length ≤ _; omega) (by have := parX_size hpar; dsimp only at this; omega)) (fun w hS => forest_rd hS (i := 1) rfl) rfl rfl rfl ?_
  rw [hfr]
  refine xg 3 [] rfl rfl ?_
  refine g_alloc rfl rfl Try.zeroValue36 rfl (fun b9 => ?_)
  refine xg 2 [0] rfl (by omega) ?_
  refine n_ (t_ (s_ (s_ (o_ ?_))))
  refine xg 2 [] rfl rfl ?_
  refine n_ (t_ (g_cond_t rfl (s_ (o_ ?_))))
  refine g_call1 rfl rfl rfl Try.call13 (fun w hS => alive_any w (hS.maxHere hz (by simp))) ?_
  refine xg 3 [0] rfl (by omega) ?_
  refine g_val (v := .bool true) rfl rfl rfl (y_mtEq m0 rfl rfl) ?_
  refine xg 2 [] rfl rfl ?_
  refine n_ (t_ (g_ret (g_then_ret ?_)))
  refine g_end1 Try.results4 rfl ?_
  exact fun w hS => ⟨rfl, hS.below⟩
 replace hone : nk = 5 → m 1 = m 0 := hone
 refine o_ ?_
 refine xg 2 [0] rfl (by omega) ?_
 refine g_c1 (m_find ⟨l, true⟩ (.mk nk ns nm nx nu (.slice pv nq.length cv) nq) 0 (by show l.length ≤ _; omega) (by have := parX_size hpar; dsimp only at this; omega)) (fun w hS => forest_rd hS (i := 1) rfl) rfl rfl rfl ?_
 rw [hfr]
 refine xg 3 [] rfl rfl ?_
 refine g_alloc rfl rfl Try.zeroValue36 rfl (fun b9 => ?_)
 refine xg 2 [0] rfl (by omega) ?_
 refine n_ (t_ (s_ (s_ (o_ ?_))))
 refine xg 2 [] rfl rfl ?_
 refine n_ (t_ (g_cond_f rfl (g_skip (t_ (s_ (o_ ?_))))))
 refine xg 4 [1,0,0] rfl (by omega) ?_
 refine g_c1 (m_within m _ _ hok2 (.mk nk ns nm nx nu (.slice pv nq.length cv) nq) (by have := parX_size hpar; dsimp only at this; omega)) (fun w hS => forest_rd hS (i := 2) rfl) rfl rfl rfl ?_
 refine xg 1 [] rfl rfl ?_
 refine ntso_ ?_
 refine xg 1 [1] rfl (by omega) ?_
 refine g_c1 (m_gro (.mk nk ns nm nx nu (.slice pv nq.length cv) nq) (by have := parX_size hpar; dsimp only at this; omega)) (fun w hS => forest_rd hS (i := 2) rfl) rfl rfl rfl ?_
 refine xg 1 [] rfl rfl ?_
 refine n_ (t_ (s_ (s_ (o_ ?_))))
 refine xg 1 [] rfl rfl ?_
 refine n_ (t_ (g_block ?_))
 refine g_loop (α := {x : Nat // 1 ≤ x ∧ x ≤ 10}) (fun x => [(7, .pointer (some ⟨b7, 0, none⟩)), (9, .pointer (some ⟨b9, 0, none⟩)), (11, .bool true), (12, .int .i64 (gcT (.mk nk ns nm nx nu (.slice pv nq.length cv) nq) : Int)), (13, .int .i64 (x.1 : Int))]) (fun x => St w [] [.cells b7 28 (nC (.mk nk ns nm nx nu (.slice pv nq.length cv) nq)), .cells b9 36 (spC m)]) (fun x => 10 - x.1) ⟨1, by decide⟩ [7, 9, 11, 12, 13] rfl (fun w h => h.pick [1,0] rfl) ?_
 rintro ⟨kk, gk⟩
 dsimp only
 refine s_ (s_ (o_ ?_))
 refine xg 2 [0] rfl rfl ?_
 refine n_ (t_ ?_)
 refine g_casep 55 rfl (fun h10 => ?_) fun h10 => ?_
 ·refine g_cond_t rfl (g_skip (t_ (s_ (g_block (s_ (o_ ?_))))))
  refine xg 4 [0] rfl rfl ?_
  refine g_casep 61 rfl (fun h11 => ?_) fun h11 => ?_
  ·refine xg 1 [] rfl rfl ?_
   refine g_val rfl rfl rfl (y_idxArr (m := kk * 2) rfl rfl Try.underlying36 Try.sizeOf34 (by omega) (by omega) (by omega)) ?_
   have hmk := hfix kk (by omega) (by omega)
   refine g_val (v := .agg [.int .i64 (-1), .int .i64 (-1)].toArray) rfl rfl rfl (y_val (y_ldN (vs := [.int .i64 (m kk).1, .int .i64 (m kk).2]) 1 rfl Try.isAgg34 Try.sizeOf34 rfl (spC_at m _ (by omega)) rfl) (by rw [hmk])) ?_
   refine xg 1 [] rfl rfl ?_
   refine g_val (v := .bool false) rfl rfl rfl (y_val (y_spNe rfl rfl) (by simp)) ?_
   refine xg 1 [] rfl rfl ?_
   refine n_ (t_ (g_cond_f rfl (g_skip (g_in_normal (t_ (o_ ?_))))))
   refine xg 3 [] rfl (by omega) ?_
   refine n_ ?_
   exact g_again ⟨kk + 1, by omega, by omega⟩ [7, 9, 11, 12, 13] (by dsimp only; omega) rfl (fun w h => h.pick [0,0] rfl)
  refine xg 6 [] rfl rfl ?_
  refine n_ (t_ (g_cond_f rfl (g_skip (g_in_normal (t_ (o_ ?_))))))
  refine xg 3 [] rfl (by omega) ?_
  refine n_ ?_
  exact g_again ⟨kk + 1, by omega, by omega⟩ [7, 9, 11, 12, 13] (by dsimp only; omega) rfl (fun w h => h.pick [0,0] rfl)
 refine g_cond_f rfl (g_exit (g_then_exit (g_then_exit (g_in_exit (t_ (s_ (o_ ?_)))))))
 refine g_call1 rfl rfl rfl Try.call13 (fun w hS => alive_any w (hS.maxHere hz (by simp))) ?_
 refine xg 8 [0,0] rfl (by omega) ?_
 refine g_casep 76 rfl (fun h12 => ?_) fun h12 => ?_
 ·refine xg 8 [] rfl rfl ?_
  refine n_ (t_ (g_ret ?_))
  refine g_end1 Try.results4 rfl ?_
  exact fun w hS => ⟨rfl, hS.below⟩
 refine xg 4 [1,1] rfl (by omega) ?_
 have h10 := hone (by omega)
 refine g_val (v := .bool true) rfl rfl rfl (y_val (y_spEq rfl rfl) (by rw [h10]; simp)) ?_
 refine xg 3 [] rfl rfl ?_
 refine n_ (t_ (g_ret ?_))
 refine g_end1 Try.results4 rfl ?_
 exact fun w hS => ⟨rfl, hS.below⟩

theorem mgroups_law (s t : ByteArray) (b : Bool) (hs : s.size ≤ maxLen) (ht : t.size ≤ maxLen) (w : World) (hsh : w.ShapedOpen Try.prog) : Calls Try.prog 4 #[.string s, .bool b, .string t] w fun e w' => e = .returned (.bool true) ∧ Below w.heap.size w w' := by
  have h := mgroups_any s.data.toList t.data.toList b (by rw [Array.length_toList]; exact hs) (by rw [Array.length_toList]; exact ht) w (maxHere_of hsh)
  unfold st8 at h
  rw [Array.toArray_toList, Array.toArray_toList] at h
  exact h
end Go.Proofs.Ytfcamlkbkehlnaa

