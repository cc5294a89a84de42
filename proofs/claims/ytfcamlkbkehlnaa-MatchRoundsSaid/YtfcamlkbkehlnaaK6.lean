/- The texts that the proof leans on, one behind the other (6 of 6). -/
import Derived.Laws.StructEq
import Derived.Test.YtfcamlkbkehlnaaK5
/- MatchEither. -/
namespace Go.Proofs.Ytfcamlkbkehlnaa
open Go Go.RowKit

theorem run_eqSp (a b c e : Int) (w : World) : (Op.equalIn 10000 34 (.agg #[.int .i64 a, .int .i64 b]) (.agg #[.int .i64 c, .int .i64 e])).run Try.prog w = .ok (a == c && b == e) w := by
  have u3 := Try.underlying3
  rw [show (10000 : Nat) = 9999 + 1 from rfl, Op.equalIn]
  simp only [Sem.run_bind, run_underlying Try.underlying34, Result.andThen_ok]
  go_simp
  by_cases h1 : a = c <;> by_cases h2 : b = e <;> simp [h1, h2]
theorem run_eqMt (m : Spn) (w : World) : (Op.equalIn 10000 36 (.agg (spC m).toArray) (.agg (spC m).toArray)).run Try.prog w = .ok true w := by
  rw [show (10000 : Nat) = 9999 + 1 from rfl, Op.equalIn]
  unfold spC
  simp only [Sem.run_bind, run_underlying Try.underlying36, Result.andThen_ok]
  simp only [Std.Legacy.Range.forIn_eq_forIn_range', Std.Legacy.Range.size, Nat.sub_zero, Nat.add_sub_cancel, Nat.div_one, List.range'_succ, List.range'_zero, List.forIn_cons, List.forIn_nil]
  go_simp
section
variable {N : Nat} {R : Regs} {S : World → Prop} {dst : Option Tmp} {ty t' : TypeId} {pos : String} {af : Array Edge} {gd : Option (Nat × Bool)} {x y : Operand}
theorem y_spEq {a b c e : Int} (hx : ev R x = some (.agg #[.int .i64 a, .int .i64 b])) (hy : ev R y = some (.agg #[.int .i64 c, .int .i64 e])) : Yv Try.prog N R S ⟨dst, .binOp .eql 34 x y t', ty, pos, af, gd⟩ (.bool (a == c && b == e)) :=
  y_bin hx hy fun w => by
    rw [Sem.run_bind, run_eqGuard_agg w _ _ _ _ _ _ (by kernel_rfl), Result.andThen_ok, run_eql_struct, run_eqSp]; rfl
theorem y_spNe {a b c e : Int} (hx : ev R x = some (.agg #[.int .i64 a, .int .i64 b])) (hy : ev R y = some (.agg #[.int .i64 c, .int .i64 e])) : Yv Try.prog N R S ⟨dst, .binOp .neq 34 x y t', ty, pos, af, gd⟩ (.bool (!(a == c && b == e))) :=
  y_bin hx hy fun w => by
    rw [Sem.run_bind, run_eqGuard_agg w _ _ _ _ _ _ (by kernel_rfl), Result.andThen_ok, run_neq_struct, run_eqSp]; rfl
theorem y_mtEq (m : Spn) (hx : ev R x = some (.agg (spC m).toArray)) (hy : ev R y = some (.agg (spC m).toArray)) : Yv Try.prog N R S ⟨dst, .binOp .eql 36 x y t', ty, pos, af, gd⟩ (.bool true) :=
  y_bin hx hy fun w => by
    rw [Sem.run_bind, run_eqGuard_agg w _ _ _ _ _ _ (by kernel_rfl), Result.andThen_ok, run_eql_struct, run_eqMt]; rfl
end
theorem findR_v {x : Tx} {k : Int} {s : Nat → Int} {a b c : Int} {v : Value} (u : Value) {q : List MT} {fr : Int} : findR x (.mk k s a b c v q) fr = findR x (.mk k s a b c u q) fr := by rw [← findR_er, er_mk, ← findR_er x (.mk k s a b c u q), er_mk]
theorem mM_ei {x : Tx} {s : Nat → Int} {a b c : Int} {v : Value} {t u : MT} {i j : Nat} : mM x (.mk 3 s a b c v [t, u]) i j = (mM x t i j || mM x u i j) := by
  rw [mM_mk, if_neg (by decide), if_neg (by decide), if_neg (by decide), if_neg (by decide), if_pos rfl, mAny_cons, mAny_cons, mAny_nil, Bool.or_false]
/-- What is found of either of two, by what is found of each. -/
theorem eith (x : Tx) (t u : MT) (s : Nat → Int) (a b c : Int) (hn : x.n ≤ 1024) : ∃ r p q : Spn × Bool, findR x t 0 = r ∧ findR x u 0 = p ∧ findR x (.mk 3 s a b c nilS [t, u]) 0 = q ∧
    ((r.2 = true ∧ p.2 = true ∧ q.2 = true ∧ (r.1 0).1 < (p.1 0).1 ∧ q.1 0 = r.1 0) ∨
    (r.2 = true ∧ p.2 = true ∧ q.2 = true ∧ (p.1 0).1 < (r.1 0).1 ∧ q.1 0 = p.1 0) ∨
    (r.2 = true ∧ p.2 = true ∧ q.2 = true ∧ (p.1 0).1 = (r.1 0).1 ∧ (r.1 0).2 < (p.1 0).2 ∧ q.1 0 = p.1 0) ∨
    (r.2 = true ∧ p.2 = true ∧ q.2 = true ∧ (p.1 0).1 = (r.1 0).1 ∧ (p.1 0).2 ≤ (r.1 0).2 ∧ q.1 0 = r.1 0) ∨
    (r.2 = true ∧ p.2 = false ∧ q.2 = true ∧ q.1 0 = r.1 0) ∨ (r.2 = false ∧ p.2 = true ∧ q.2 = true ∧ q.1 0 = p.1 0) ∨ (r.2 = false ∧ p.2 = false ∧ q.2 = false)) := by
  have key : ∀ i j, First x (.mk 3 s a b c nilS [t, u]) 0 i j → ∃ m : Spn, findR x (.mk 3 s a b c nilS [t, u]) 0 = (m, true) ∧ m 0 = ((i : Int), (j : Int)) := fun i j h => ⟨_, findR_yes (f := 0) hn h, by rw [gM_0]; rfl⟩
  have f0 : ∀ {w : MT} {i j : Nat}, (gM x w i j (setS mN 0 ((i : Int), (j : Int)))) 0 = ((i : Int), (j : Int)) := by intro w i j; rw [gM_0]; rfl
  have fst : ∀ {w v : MT} {i j : Nat}, First x w 0 i j → (∀ p q, p < i → mM x v p q = false) → (∀ q, j < q → mM x v i q = false) → ∀ z, (∀ p q, mM x z p q = (mM x w p q || mM x v p q)) → First x z 0 i j := by
    intro w v i j h h1 h2 z hz
    exact ⟨h.1, h.2.1, by rw [hz, h.2.2.1]; rfl, fun p q h3 h4 => by rw [hz, h.2.2.2.1 p q h3 h4, h1 p q h4]; rfl, fun q h3 => by rw [hz, h.2.2.2.2 q h3, h2 q h3]; rfl⟩
  have z1 : ∀ p q, mM x (.mk 3 s a b c nilS [t, u]) p q = (mM x t p q || mM x u p q) := fun p q => mM_ei
  have z2 : ∀ p q, mM x (.mk 3 s a b c nilS [t, u]) p q = (mM x u p q || mM x t p q) := fun p q => by rw [mM_ei, Bool.or_comm]
  rcases findR_cases x t 0 (Nat.zero_le _) hn with ⟨i, j, hA, eA⟩ | ⟨hA, eA⟩ <;> rcases findR_cases x u 0 (Nat.zero_le _) hn with ⟨i', j', hB, eB⟩ | ⟨hB, eB⟩
  · rcases Nat.lt_trichotomy i i' with hlt | heq | hgt
    · obtain ⟨m, e1, e2⟩ := key i j (fst hA (fun p q hp => hB.2.2.2.1 p q (Nat.zero_le _) (by omega)) (fun q hq => hB.2.2.2.1 i q (Nat.zero_le _) hlt) _ z1)
      refine ⟨_, _, _, eA, eB, e1, .inl ⟨rfl, rfl, rfl, ?_, ?_⟩⟩
      · dsimp only; rw [f0, f0]; dsimp only; omega
      · dsimp only; rw [f0, e2]
    · subst heq
      by_cases hj : j < j'
      · obtain ⟨m, e1, e2⟩ := key i j' (fst hB (fun p q hp => hA.2.2.2.1 p q (Nat.zero_le _) (by omega)) (fun q hq => hA.2.2.2.2 q (by omega)) _ z2)
        refine ⟨_, _, _, eA, eB, e1, .inr (.inr (.inl ⟨rfl, rfl, rfl, ?_, ?_, ?_⟩))⟩
        · dsimp only; rw [f0, f0]
        · dsimp only; rw [f0, f0]; dsimp only; omega
        · dsimp only; rw [f0, e2]
      · obtain ⟨m, e1, e2⟩ := key i j (fst hA (fun p q hp => hB.2.2.2.1 p q (Nat.zero_le _) (by omega)) (fun q hq => hB.2.2.2.2 q (by omega)) _ z1)
        refine ⟨_, _, _, eA, eB, e1, .inr (.inr (.inr (.inl ⟨rfl, rfl, rfl, ?_, ?_, ?_⟩)))⟩
        · dsimp only; rw [f0, f0]
        · dsimp only; rw [f0, f0]; dsimp only; omega
        · dsimp only; rw [f0, e2]
    · obtain ⟨m, e1, e2⟩ := key i' j' (fst hB (fun p q hp => hA.2.2.2.1 p q (Nat.zero_le _) (by omega)) (fun q hq => hA.2.2.2.1 i' q (Nat.zero_le _) hgt) _ z2)
      refine ⟨_, _, _, eA, eB, e1, .inr (.inl ⟨rfl, rfl, rfl, ?_, ?_⟩)⟩
      · dsimp only; rw [f0, f0]; dsimp only; omega
      · dsimp only; rw [f0, e2]
  · obtain ⟨m, e1, e2⟩ := key i j (fst hA (fun p q hp => hB p q (Nat.zero_le _) (by have := hA.2.1; omega)) (fun q hq => hB i q (Nat.zero_le _) hA.2.1) _ z1)
    exact ⟨_, _, _, eA, eB, e1, .inr (.inr (.inr (.inr (.inl ⟨rfl, rfl, rfl, by dsimp only; rw [f0, e2]⟩))))⟩
  · obtain ⟨m, e1, e2⟩ := key i' j' (fst hB (fun p q hp => hA p q (Nat.zero_le _) (by have := hB.2.1; omega)) (fun q hq => hA i' q (Nat.zero_le _) hB.2.1) _ z2)
    exact ⟨_, _, _, eA, eB, e1, .inr (.inr (.inr (.inr (.inr (.inl ⟨rfl, rfl, rfl, by dsimp only; rw [f0, e2]⟩)))))⟩
  · exact ⟨_, _, _, eA, eB, findR_no (f := 0) (fun p q hp hq => by rw [z1, hA p q hp hq, hB p q hp hq]; rfl), .inr (.inr (.inr (.inr (.inr (.inr ⟨rfl, rfl, rfl⟩)))))⟩
theorem wT_two {k : Int} {s : Nat → Int} {a b c : Int} {v : Value} {t u : MT} : wT (.mk k s a b c v [t, u]) = wT t + wT u + 1 := by
  simp only [wT_mk, wL]; omega

set_option maxRecDepth 100000 in
theorem meith_any (a b l : List UInt8) (ha : a.length ≤ maxLen) (hb : b.length ≤ maxLen) (hl : l.length ≤ maxLen) (w : World) (hz : MaxHere w) :
    Calls Try.prog 7 #[.agg #[st8 a, st8 b], st8 l] w fun e w' => e = .returned (.bool true) ∧ Below w.heap.size w w' := by
 have hmax : maxLen = 9223372036854775807 := rfl
 refine fn_intro Try.func7 rfl Try.ntmps7 rfl rfl ?_
 refine s_ (o_ ?_)
 refine g_box rfl rfl rfl rfl (fun b1 => ?_)
 refine xg 1 [] rfl rfl ?_
 refine ntso_ ?_
 refine xg 2 [0] rfl (by omega) ?_
 refine g_callNew (fun x : {x : MT × Int // parX true a x} => .tuple #[.agg (nC x.1.1).toArray, .int .i64 x.1.2]) (fun x => [.forest [x.1.1]]) rfl rfl rfl Try.call16 (fun w hS => parse_xe a w (hS.maxHere hz (by simp))) ?_
 rintro ⟨⟨ta, erna⟩, hpara⟩
 obtain ⟨nka, nsa, nma, nxa, nua, nva, nqa⟩ := ta
 refine g_kids 0 rfl (fun pva cva hva => ?_)
 cases hva
 dsimp only
 simp only [List.cons_append, List.nil_append]
 refine xg 3 [] rfl rfl ?_
 refine g_alloc rfl rfl Try.zeroValue28 rfl (fun b2 => ?_)
 refine xg 2 [0] rfl (by omega) ?_
 refine ntso_ ?_
 refine xg 2 [2] rfl (by omega) ?_
 refine g_callNew (fun x : {x : MT × Int // parX true b x} => .tuple #[.agg (nC x.1.1).toArray, .int .i64 x.1.2]) (fun x => [.forest [x.1.1]]) rfl rfl rfl Try.call16 (fun w hS => parse_xe b w (hS.maxHere hz (by simp))) ?_
 rintro ⟨⟨tb, ernb⟩, hparb⟩
 obtain ⟨nkb, nsb, nmb, nxb, nub, nvb, nqb⟩ := tb
 refine g_kids 0 rfl (fun pvb cvb hvb => ?_)
 cases hvb
 dsimp only
 simp only [List.cons_append, List.nil_append]
 refine xg 3 [] rfl rfl ?_
 refine g_alloc rfl rfl Try.zeroValue28 rfl (fun b3 => ?_)
 refine xg 2 [0] rfl (by omega) ?_
 refine n_ (t_ (s_ (s_ (o_ ?_))))
 refine xg 2 [4] rfl (by omega) ?_
 refine g_val (v := .int .i64 (a.length : Int)) rfl rfl rfl (y_val (y_slen rfl Try.underlying9) (by rw [size_mk])) ?_
 refine xg 2 [0] rfl rfl ?_
 refine g_casep 32 rfl (fun h1 => ?_) fun h1 => ?_
 ·refine xg 18 [] rfl rfl ?_
  refine n_ (t_ (g_cond_t rfl (s_ (o_ ?_))))
  refine g_call1 rfl rfl rfl Try.call13 (fun w hS => alive_any w (hS.maxHere hz (by simp))) ?_
  refine xg 1 [] rfl rfl ?_
  refine n_ (t_ (g_ret (g_then_ret ?_)))
  refine g_end1 Try.results7 rfl ?_
  exact fun w hS => ⟨rfl, hS.below⟩
 refine xg 2 [4] rfl (by omega) ?_
 refine g_val (v := .int .i64 (b.length : Int)) rfl rfl rfl (y_val (y_slen rfl Try.underlying9) (by rw [size_mk])) ?_
 refine xg 3 [0] rfl rfl ?_
 refine g_casep 38 rfl (fun h2 => ?_) fun h2 => ?_
 ·refine xg 12 [] rfl rfl ?_
  refine n_ (t_ (g_cond_t rfl (s_ (o_ ?_))))
  refine g_call1 rfl rfl rfl Try.call13 (fun w hS => alive_any w (hS.maxHere hz (by simp))) ?_
  refine xg 1 [] rfl rfl ?_
  refine n_ (t_ (g_ret (g_then_ret ?_)))
  refine g_end1 Try.results7 rfl ?_
  exact fun w hS => ⟨rfl, hS.below⟩
 refine xg 4 [0] rfl rfl ?_
 refine g_casep 42 rfl (fun h3 => ?_) fun h3 => ?_
 ·refine xg 8 [] rfl rfl ?_
  refine n_ (t_ (g_cond_t rfl (s_ (o_ ?_))))
  refine g_call1 rfl rfl rfl Try.call13 (fun w hS => alive_any w (hS.maxHere hz (by simp))) ?_
  refine xg 1 [] rfl rfl ?_
  refine n_ (t_ (g_ret (g_then_ret ?_)))
  refine g_end1 Try.results7 rfl ?_
  exact fun w hS => ⟨rfl, hS.below⟩
 refine xg 4 [0] rfl rfl ?_
 refine g_casep 46 rfl (fun h4 => ?_) fun h4 => ?_
 ·refine xg 4 [] rfl rfl ?_
  refine n_ (t_ (g_cond_t rfl (s_ (o_ ?_))))
  refine g_call1 rfl rfl rfl Try.call13 (fun w hS => alive_any w (hS.maxHere hz (by simp))) ?_
  refine xg 1 [] rfl rfl ?_
  refine n_ (t_ (g_ret (g_then_ret ?_)))
  refine g_end1 Try.results7 rfl ?_
  exact fun w hS => ⟨rfl, hS.below⟩
 refine xg 1 [] rfl rfl ?_
 refine g_val (v := .int .i64 (l.length : Int)) rfl rfl rfl (y_val (y_slen rfl Try.underlying9) (by rw [size_mk])) ?_
 refine xg 2 [0] rfl rfl ?_
 refine n_ (t_ ?_)
 refine g_casep 50 rfl (fun h5 => ?_) fun h5 => ?_
 ·refine g_cond_t rfl (s_ (o_ ?_))
  refine g_call1 rfl rfl rfl Try.call13 (fun w hS => alive_any w (hS.maxHere hz (by simp))) ?_
  refine xg 1 [] rfl rfl ?_
  refine n_ (t_ (g_ret (g_then_ret ?_)))
  refine g_end1 Try.results7 rfl ?_
  exact fun w hS => ⟨rfl, hS.below⟩
 refine g_cond_f rfl (g_skip (t_ (s_ ?_)))
 obtain rfl : erna = 0 := by omega
 obtain rfl : ernb = 0 := by omega
 obtain ⟨r, p, z, er, ep, ez, hc⟩ := eith ⟨l, true⟩ (.mk nka nsa nma nxa nua (.slice pva nqa.length cva) nqa) (.mk nkb nsb nmb nxb nub (.slice pvb nqb.length cvb) nqb) s0 0 0 0 (show l.length ≤ 1024 by omega)
 rcases hc with ⟨r2, p2, z2, c1, c2⟩ | ⟨r2, p2, z2, c1, c2⟩ | ⟨r2, p2, z2, c1, c3, c2⟩ | ⟨r2, p2, z2, c1, c3, c2⟩ | ⟨r2, p2, z2, c2⟩ | ⟨r2, p2, z2, c2⟩ | ⟨r2, p2, z2⟩
 ·have c4 := congrArg Prod.fst c2
  have c5 := congrArg Prod.snd c2
  refine o_ ?_
  refine xg 2 [2] rfl (by omega) ?_
  refine g_c1 (m_find ⟨l, true⟩ (.mk nka nsa nma nxa nua (.slice pva nqa.length cva) nqa) 0 (by show l.length ≤ _; omega) (by have := parX_size hpara; dsimp only at this; omega)) (fun w hS => forest_rd hS (i := 3) rfl) rfl rfl rfl ?_
  rw [er, r2]
  refine xg 3 [] rfl rfl ?_
  refine g_alloc rfl rfl Try.zeroValue36 rfl (fun b4 => ?_)
  refine xg 2 [0] rfl (by omega) ?_
  refine ntso_ ?_
  refine xg 2 [1] rfl (by omega) ?_
  refine g_c1 (m_find ⟨l, true⟩ (.mk nkb nsb nmb nxb nub (.slice pvb nqb.length cvb) nqb) 0 (by show l.length ≤ _; omega) (by have := parX_size hparb; dsimp only at this; omega)) (fun w hS => forest_rd hS (i := 2) rfl) rfl rfl rfl ?_
  rw [ep, p2]
  refine xg 3 [] rfl rfl ?_
  refine g_alloc rfl rfl Try.zeroValue36 rfl (fun b5 => ?_)
  refine xg 2 [0] rfl (by omega) ?_
  refine ntso_ ?_
  refine xg 2 [4,2] rfl (by omega) ?_
  refine g_buildSlice (offs := [0, 9]) rfl rfl Try.underlying26 rfl Try.zeroValue28 (by kernel_rfl) (fun b6 => ?_)
  refine xg 2 [] rfl rfl ?_
  refine g_c1 (m_find ⟨l, true⟩ (.mk 3 s0 0 0 0 (.slice (some ⟨b6, 0, none⟩) 2 2) [(.mk nka nsa nma nxa nua (.slice pva nqa.length cva) nqa), (.mk nkb nsb nmb nxb nub (.slice pvb nqb.length cvb) nqb)]) 0 (by show l.length ≤ _; omega) (by rw [wT_two]; have h1 := parX_size hpara; dsimp only at h1; have h2 := parX_size hparb; dsimp only at h2; omega)) (fun w hS => rd_node rfl (hS.cells (i := 0) rfl) (rdL_cons.2 ⟨forest_rd hS (i := 6) rfl, rdL_cons.2 ⟨forest_rd hS (i := 4) rfl, rdL_nil⟩⟩)) rfl rfl rfl ?_
  rw [findR_v nilS, ez, z2]
  refine xg 3 [] rfl rfl ?_
  refine g_alloc rfl rfl Try.zeroValue36 rfl (fun b7 => ?_)
  refine xg 2 [0] rfl (by omega) ?_
  refine ntso_ ?_
  refine xg 2 [3] rfl (by omega) ?_
  refine g_alloc rfl rfl Try.zeroValue34 rfl (fun b8 => ?_)
  refine xg 1 [0] rfl (by omega) ?_
  refine n_ (t_ (s_ (s_ (o_ ?_))))
  refine xg 29 [3,0,2,3,0,2] rfl (by omega) ?_
  refine n_ (t_ (g_cond_f rfl (g_skip (t_ (s_ (o_ ?_))))))
  refine g_call1 rfl rfl rfl Try.call13 (fun w hS => alive_any w (hS.maxHere hz (by simp))) ?_
  refine xg 6 [] rfl rfl ?_
  refine g_val rfl rfl rfl (y_lit true (y_beq rfl rfl (by kernel_rfl)) (rfl)) ?_
  refine xg 8 [1,0] rfl (by omega) ?_
  refine g_val (v := .bool true) rfl rfl rfl (y_val (y_spEq rfl rfl) (by rw [show ((z.1 0).1 == (r.1 0).1) = true from beq_iff_eq.2 (by omega), show ((z.1 0).2 == (r.1 0).2) = true from beq_iff_eq.2 (by omega)]; rfl)) ?_
  refine xg 3 [] rfl rfl ?_
  refine n_ (t_ (g_ret ?_))
  refine g_end1 Try.results7 rfl ?_
  exact fun w hS => ⟨rfl, hS.below⟩
 ·have c4 := congrArg Prod.fst c2
  have c5 := congrArg Prod.snd c2
  refine o_ ?_
  refine xg 2 [2] rfl (by omega) ?_
  refine g_c1 (m_find ⟨l, true⟩ (.mk nka nsa nma nxa nua (.slice pva nqa.length cva) nqa) 0 (by show l.length ≤ _; omega) (by have := parX_size hpara; dsimp only at this; omega)) (fun w hS => forest_rd hS (i := 3) rfl) rfl rfl rfl ?_
  rw [er, r2]
  refine xg 3 [] rfl rfl ?_
  refine g_alloc rfl rfl Try.zeroValue36 rfl (fun b9 => ?_)
  refine xg 2 [0] rfl (by omega) ?_
  refine ntso_ ?_
  refine xg 2 [1] rfl (by omega) ?_
  refine g_c1 (m_find ⟨l, true⟩ (.mk nkb nsb nmb nxb nub (.slice pvb nqb.length cvb) nqb) 0 (by show l.length ≤ _; omega) (by have := parX_size hparb; dsimp only at this; omega)) (fun w hS => forest_rd hS (i := 2) rfl) rfl rfl rfl ?_
  rw [ep, p2]
  refine xg 3 [] rfl rfl ?_
  refine g_alloc rfl rfl Try.zeroValue36 rfl (fun b10 => ?_)
  refine xg 2 [0] rfl (by omega) ?_
  refine ntso_ ?_
  refine xg 2 [4,2] rfl (by omega) ?_
  refine g_buildSlice (offs := [0, 9]) rfl rfl Try.underlying26 rfl Try.zeroValue28 (by kernel_rfl) (fun b11 => ?_)
  refine xg 2 [] rfl rfl ?_
  refine g_c1 (m_find ⟨l, true⟩ (.mk 3 s0 0 0 0 (.slice (some ⟨b11, 0, none⟩) 2 2) [(.mk nka nsa nma nxa nua (.slice pva nqa.length cva) nqa), (.mk nkb nsb nmb nxb nub (.slice pvb nqb.length cvb) nqb)]) 0 (by show l.length ≤ _; omega) (by rw [wT_two]; have h1 := parX_size hpara; dsimp only at h1; have h2 := parX_size hparb; dsimp only at h2; omega)) (fun w hS => rd_node rfl (hS.cells (i := 0) rfl) (rdL_cons.2 ⟨forest_rd hS (i := 6) rfl, rdL_cons.2 ⟨forest_rd hS (i := 4) rfl, rdL_nil⟩⟩)) rfl rfl rfl ?_
  rw [findR_v nilS, ez, z2]
  refine xg 3 [] rfl rfl ?_
  refine g_alloc rfl rfl Try.zeroValue36 rfl (fun b12 => ?_)
  refine xg 2 [0] rfl (by omega) ?_
  refine ntso_ ?_
  refine xg 2 [3] rfl (by omega) ?_
  refine g_alloc rfl rfl Try.zeroValue34 rfl (fun b13 => ?_)
  refine xg 1 [0] rfl (by omega) ?_
  refine n_ (t_ (s_ (s_ (o_ ?_))))
  refine xg 29 [3,0,1] rfl (by omega) ?_
  refine n_ (t_ (g_cond_t rfl (o_ ?_)))
  refine xg 3 [3,0] rfl (by omega) ?_
  refine ntso_ ?_
  refine g_call1 rfl rfl rfl Try.call13 (fun w hS => alive_any w (hS.maxHere hz (by simp))) ?_
  refine xg 6 [] rfl rfl ?_
  refine g_val rfl rfl rfl (y_lit true (y_beq rfl rfl (by kernel_rfl)) (rfl)) ?_
  refine xg 8 [1,0] rfl (by omega) ?_
  refine g_val (v := .bool true) rfl rfl rfl (y_val (y_spEq rfl rfl) (by rw [show ((z.1 0).1 == (p.1 0).1) = true from beq_iff_eq.2 (by omega), show ((z.1 0).2 == (p.1 0).2) = true from beq_iff_eq.2 (by omega)]; rfl)) ?_
  refine xg 3 [] rfl rfl ?_
  refine n_ (t_ (g_ret ?_))
  refine g_end1 Try.results7 rfl ?_
  exact fun w hS => ⟨rfl, hS.below⟩
 ·have c4 := congrArg Prod.fst c2
  have c5 := congrArg Prod.snd c2
  refine o_ ?_
  refine xg 2 [2] rfl (by omega) ?_
  refine g_c1 (m_find ⟨l, true⟩ (.mk nka nsa nma nxa nua (.slice pva nqa.length cva) nqa) 0 (by show l.length ≤ _; omega) (by have := parX_size hpara; dsimp only at this; omega)) (fun w hS => forest_rd hS (i := 3) rfl) rfl rfl rfl ?_
  rw [er, r2]
  refine xg 3 [] rfl rfl ?_
  refine g_alloc rfl rfl Try.zeroValue36 rfl (fun b14 => ?_)
  refine xg 2 [0] rfl (by omega) ?_
  refine ntso_ ?_
  refine xg 2 [1] rfl (by omega) ?_
  refine g_c1 (m_find ⟨l, true⟩ (.mk nkb nsb nmb nxb nub (.slice pvb nqb.length cvb) nqb) 0 (by show l.length ≤ _; omega) (by have := parX_size hparb; dsimp only at this; omega)) (fun w hS => forest_rd hS (i := 2) rfl) rfl rfl rfl ?_
  rw [ep, p2]
  refine xg 3 [] rfl rfl ?_
  refine g_alloc rfl rfl Try.zeroValue36 rfl (fun b15 => ?_)
  refine xg 2 [0] rfl (by omega) ?_
  refine ntso_ ?_
  refine xg 2 [4,2] rfl (by omega) ?_
  refine g_buildSlice (offs := [0, 9]) rfl rfl Try.underlying26 rfl Try.zeroValue28 (by kernel_rfl) (fun b16 => ?_)
  refine xg 2 [] rfl rfl ?_
  refine g_c1 (m_find ⟨l, true⟩ (.mk 3 s0 0 0 0 (.slice (some ⟨b16, 0, none⟩) 2 2) [(.mk nka nsa nma nxa nua (.slice pva nqa.length cva) nqa), (.mk nkb nsb nmb nxb nub (.slice pvb nqb.length cvb) nqb)]) 0 (by show l.length ≤ _; omega) (by rw [wT_two]; have h1 := parX_size hpara; dsimp only at h1; have h2 := parX_size hparb; dsimp only at h2; omega)) (fun w hS => rd_node rfl (hS.cells (i := 0) rfl) (rdL_cons.2 ⟨forest_rd hS (i := 6) rfl, rdL_cons.2 ⟨forest_rd hS (i := 4) rfl, rdL_nil⟩⟩)) rfl rfl rfl ?_
  rw [findR_v nilS, ez, z2]
  refine xg 3 [] rfl rfl ?_
  refine g_alloc rfl rfl Try.zeroValue36 rfl (fun b17 => ?_)
  refine xg 2 [0] rfl (by omega) ?_
  refine ntso_ ?_
  refine xg 2 [3] rfl (by omega) ?_
  refine g_alloc rfl rfl Try.zeroValue34 rfl (fun b18 => ?_)
  refine xg 1 [0] rfl (by omega) ?_
  refine n_ (t_ (s_ (s_ (o_ ?_))))
  refine xg 29 [3,0,2,3,0,1,3,0,1] rfl (by omega) ?_
  refine n_ (t_ (g_cond_t rfl (o_ ?_)))
  refine xg 3 [3,0] rfl (by omega) ?_
  refine ntso_ ?_
  refine g_call1 rfl rfl rfl Try.call13 (fun w hS => alive_any w (hS.maxHere hz (by simp))) ?_
  refine xg 6 [] rfl rfl ?_
  refine g_val rfl rfl rfl (y_lit true (y_beq rfl rfl (by kernel_rfl)) (rfl)) ?_
  refine xg 8 [1,0] rfl (by omega) ?_
  refine g_val (v := .bool true) rfl rfl rfl (y_val (y_spEq rfl rfl) (by rw [show ((z.1 0).1 == (p.1 0).1) = true from beq_iff_eq.2 (by omega), show ((z.1 0).2 == (p.1 0).2) = true from beq_iff_eq.2 (by omega)]; rfl)) ?_
  refine xg 3 [] rfl rfl ?_
  refine n_ (t_ (g_ret ?_))
  refine g_end1 Try.results7 rfl ?_
  exact fun w hS => ⟨rfl, hS.below⟩
 ·have c4 := congrArg Prod.fst c2
  have c5 := congrArg Prod.snd c2
  refine o_ ?_
  refine xg 2 [2] rfl (by omega) ?_
  refine g_c1 (m_find ⟨l, true⟩ (.mk nka nsa nma nxa nua (.slice pva nqa.length cva) nqa) 0 (by show l.length ≤ _; omega) (by have := parX_size hpara; dsimp only at this; omega)) (fun w hS => forest_rd hS (i := 3) rfl) rfl rfl rfl ?_
  rw [er, r2]
  refine xg 3 [] rfl rfl ?_
  refine g_alloc rfl rfl Try.zeroValue36 rfl (fun b19 => ?_)
  refine xg 2 [0] rfl (by omega) ?_
  refine ntso_ ?_
  refine xg 2 [1] rfl (by omega) ?_
  refine g_c1 (m_find ⟨l, true⟩ (.mk nkb nsb nmb nxb nub (.slice pvb nqb.length cvb) nqb) 0 (by show l.length ≤ _; omega) (by have := parX_size hparb; dsimp only at this; omega)) (fun w hS => forest_rd hS (i := 2) rfl) rfl rfl rfl ?_
  rw [ep, p2]
  refine xg 3 [] rfl rfl ?_
  refine g_alloc rfl rfl Try.zeroValue36 rfl (fun b20 => ?_)
  refine xg 2 [0] rfl (by omega) ?_
  refine ntso_ ?_
  refine xg 2 [4,2] rfl (by omega) ?_
  refine g_buildSlice (offs := [0, 9]) rfl rfl Try.underlying26 rfl Try.zeroValue28 (by kernel_rfl) (fun b21 => ?_)
  refine xg 2 [] rfl rfl ?_
  refine g_c1 (m_find ⟨l, true⟩ (.mk 3 s0 0 0 0 (.slice (some ⟨b21, 0, none⟩) 2 2) [(.mk nka nsa nma nxa nua (.slice pva nqa.length cva) nqa), (.mk nkb nsb nmb nxb nub (.slice pvb nqb.length cvb) nqb)]) 0 (by show l.length ≤ _; omega) (by rw [wT_two]; have h1 := parX_size hpara; dsimp only at h1; have h2 := parX_size hparb; dsimp only at h2; omega)) (fun w hS => rd_node rfl (hS.cells (i := 0) rfl) (rdL_cons.2 ⟨forest_rd hS (i := 6) rfl, rdL_cons.2 ⟨forest_rd hS (i := 4) rfl, rdL_nil⟩⟩)) rfl rfl rfl ?_
  rw [findR_v nilS, ez, z2]
  refine xg 3 [] rfl rfl ?_
  refine g_alloc rfl rfl Try.zeroValue36 rfl (fun b22 => ?_)
  refine xg 2 [0] rfl (by omega) ?_
  refine ntso_ ?_
  refine xg 2 [3] rfl (by omega) ?_
  refine g_alloc rfl rfl Try.zeroValue34 rfl (fun b23 => ?_)
  refine xg 1 [0] rfl (by omega) ?_
  refine n_ (t_ (s_ (s_ (o_ ?_))))
  refine xg 29 [3,0,2,3,0,1,3,0,2] rfl (by omega) ?_
  refine n_ (t_ (g_cond_f rfl (g_skip (t_ (s_ (o_ ?_))))))
  refine g_call1 rfl rfl rfl Try.call13 (fun w hS => alive_any w (hS.maxHere hz (by simp))) ?_
  refine xg 6 [] rfl rfl ?_
  refine g_val rfl rfl rfl (y_lit true (y_beq rfl rfl (by kernel_rfl)) (rfl)) ?_
  refine xg 8 [1,0] rfl (by omega) ?_
  refine g_val (v := .bool true) rfl rfl rfl (y_val (y_spEq rfl rfl) (by rw [show ((z.1 0).1 == (r.1 0).1) = true from beq_iff_eq.2 (by omega), show ((z.1 0).2 == (r.1 0).2) = true from beq_iff_eq.2 (by omega)]; rfl)) ?_
  refine xg 3 [] rfl rfl ?_
  refine n_ (t_ (g_ret ?_))
  refine g_end1 Try.results7 rfl ?_
  exact fun w hS => ⟨rfl, hS.below⟩
 ·have c4 := congrArg Prod.fst c2
  have c5 := congrArg Prod.snd c2
  refine o_ ?_
  refine xg 2 [2] rfl (by omega) ?_
  refine g_c1 (m_find ⟨l, true⟩ (.mk nka nsa nma nxa nua (.slice pva nqa.length cva) nqa) 0 (by show l.length ≤ _; omega) (by have := parX_size hpara; dsimp only at this; omega)) (fun w hS => forest_rd hS (i := 3) rfl) rfl rfl rfl ?_
  rw [er, r2]
  refine xg 3 [] rfl rfl ?_
  refine g_alloc rfl rfl Try.zeroValue36 rfl (fun b24 => ?_)
  refine xg 2 [0] rfl (by omega) ?_
  refine ntso_ ?_
  refine xg 2 [1] rfl (by omega) ?_
  refine g_c1 (m_find ⟨l, true⟩ (.mk nkb nsb nmb nxb nub (.slice pvb nqb.length cvb) nqb) 0 (by show l.length ≤ _; omega) (by have := parX_size hparb; dsimp only at this; omega)) (fun w hS => forest_rd hS (i := 2) rfl) rfl rfl rfl ?_
  rw [ep, p2]
  refine xg 3 [] rfl rfl ?_
  refine g_alloc rfl rfl Try.zeroValue36 rfl (fun b25 => ?_)
  refine xg 2 [0] rfl (by omega) ?_
  refine ntso_ ?_
  refine xg 2 [4,2] rfl (by omega) ?_
  refine g_buildSlice (offs := [0, 9]) rfl rfl Try.underlying26 rfl Try.zeroValue28 (by kernel_rfl) (fun b26 => ?_)
  refine xg 2 [] rfl rfl ?_
  refine g_c1 (m_find ⟨l, true⟩ (.mk 3 s0 0 0 0 (.slice (some ⟨b26, 0, none⟩) 2 2) [(.mk nka nsa nma nxa nua (.slice pva nqa.length cva) nqa), (.mk nkb nsb nmb nxb nub (.slice pvb nqb.length cvb) nqb)]) 0 (by show l.length ≤ _; omega) (by rw [wT_two]; have h1 := parX_size hpara; dsimp only at h1; have h2 := parX_size hparb; dsimp only at h2; omega)) (fun w hS => rd_node rfl (hS.cells (i := 0) rfl) (rdL_cons.2 ⟨forest_rd hS (i := 6) rfl, rdL_cons.2 ⟨forest_rd hS (i := 4) rfl, rdL_nil⟩⟩)) rfl rfl rfl ?_
  rw [findR_v nilS, ez, z2]
  refine xg 3 [] rfl rfl ?_
  refine g_alloc rfl rfl Try.zeroValue36 rfl (fun b27 => ?_)
  refine xg 2 [0] rfl (by omega) ?_
  refine ntso_ ?_
  refine xg 2 [3] rfl (by omega) ?_
  refine g_alloc rfl rfl Try.zeroValue34 rfl (fun b28 => ?_)
  refine xg 1 [0] rfl (by omega) ?_
  refine n_ (t_ (s_ (s_ (o_ ?_))))
  refine xg 29 [] rfl rfl ?_
  refine n_ (t_ (g_cond_f rfl (g_skip (t_ (s_ (o_ ?_))))))
  refine g_call1 rfl rfl rfl Try.call13 (fun w hS => alive_any w (hS.maxHere hz (by simp))) ?_
  refine xg 6 [] rfl rfl ?_
  refine g_val rfl rfl rfl (y_lit true (y_beq rfl rfl (by kernel_rfl)) (rfl)) ?_
  refine xg 8 [1,0] rfl (by omega) ?_
  refine g_val (v := .bool true) rfl rfl rfl (y_val (y_spEq rfl rfl) (by rw [show ((z.1 0).1 == (r.1 0).1) = true from beq_iff_eq.2 (by omega), show ((z.1 0).2 == (r.1 0).2) = true from beq_iff_eq.2 (by omega)]; rfl)) ?_
  refine xg 3 [] rfl rfl ?_
  refine n_ (t_ (g_ret ?_))
  refine g_end1 Try.results7 rfl ?_
  exact fun w hS => ⟨rfl, hS.below⟩
 ·have c4 := congrArg Prod.fst c2
  have c5 := congrArg Prod.snd c2
  refine o_ ?_
  refine xg 2 [2] rfl (by omega) ?_
  refine g_c1 (m_find ⟨l, true⟩ (.mk nka nsa nma nxa nua (.slice pva nqa.length cva) nqa) 0 (by show l.length ≤ _; omega) (by have := parX_size hpara; dsimp only at this; omega)) (fun w hS => forest_rd hS (i := 3) rfl) rfl rfl rfl ?_
  rw [er, r2]
  refine xg 3 [] rfl rfl ?_
  refine g_alloc rfl rfl Try.zeroValue36 rfl (fun b29 => ?_)
  refine xg 2 [0] rfl (by omega) ?_
  refine ntso_ ?_
  refine xg 2 [1] rfl (by omega) ?_
  refine g_c1 (m_find ⟨l, true⟩ (.mk nkb nsb nmb nxb nub (.slice pvb nqb.length cvb) nqb) 0 (by show l.length ≤ _; omega) (by have := parX_size hparb; dsimp only at this; omega)) (fun w hS => forest_rd hS (i := 2) rfl) rfl rfl rfl ?_
  rw [ep, p2]
  refine xg 3 [] rfl rfl ?_
  refine g_alloc rfl rfl Try.zeroValue36 rfl (fun b30 => ?_)
  refine xg 2 [0] rfl (by omega) ?_
  refine ntso_ ?_
  refine xg 2 [4,2] rfl (by omega) ?_
  refine g_buildSlice (offs := [0, 9]) rfl rfl Try.underlying26 rfl Try.zeroValue28 (by kernel_rfl) (fun b31 => ?_)
  refine xg 2 [] rfl rfl ?_
  refine g_c1 (m_find ⟨l, true⟩ (.mk 3 s0 0 0 0 (.slice (some ⟨b31, 0, none⟩) 2 2) [(.mk nka nsa nma nxa nua (.slice pva nqa.length cva) nqa), (.mk nkb nsb nmb nxb nub (.slice pvb nqb.length cvb) nqb)]) 0 (by show l.length ≤ _; omega) (by rw [wT_two]; have h1 := parX_size hpara; dsimp only at h1; have h2 := parX_size hparb; dsimp only at h2; omega)) (fun w hS => rd_node rfl (hS.cells (i := 0) rfl) (rdL_cons.2 ⟨forest_rd hS (i := 6) rfl, rdL_cons.2 ⟨forest_rd hS (i := 4) rfl, rdL_nil⟩⟩)) rfl rfl rfl ?_
  rw [findR_v nilS, ez, z2]
  refine xg 3 [] rfl rfl ?_
  refine g_alloc rfl rfl Try.zeroValue36 rfl (fun b32 => ?_)
  refine xg 2 [0] rfl (by omega) ?_
  refine ntso_ ?_
  refine xg 2 [3] rfl (by omega) ?_
  refine g_alloc rfl rfl Try.zeroValue34 rfl (fun b33 => ?_)
  refine xg 1 [0] rfl (by omega) ?_
  refine n_ (t_ (s_ (s_ (o_ ?_))))
  refine xg 29 [] rfl rfl ?_
  refine n_ (t_ (g_cond_t rfl (o_ ?_)))
  refine xg 3 [3,0] rfl (by omega) ?_
  refine ntso_ ?_
  refine g_call1 rfl rfl rfl Try.call13 (fun w hS => alive_any w (hS.maxHere hz (by simp))) ?_
  refine xg 6 [] rfl rfl ?_
  refine g_val rfl rfl rfl (y_lit true (y_beq rfl rfl (by kernel_rfl)) (rfl)) ?_
  refine xg 8 [1,0] rfl (by omega) ?_
  refine g_val (v := .bool true) rfl rfl rfl (y_val (y_spEq rfl rfl) (by rw [show ((z.1 0).1 == (p.1 0).1) = true from beq_iff_eq.2 (by omega), show ((z.1 0).2 == (p.1 0).2) = true from beq_iff_eq.2 (by omega)]; rfl)) ?_
  refine xg 3 [] rfl rfl ?_
  refine n_ (t_ (g_ret ?_))
  refine g_end1 Try.results7 rfl ?_
  exact fun w hS => ⟨rfl, hS.below⟩
 refine o_ ?_
 refine xg 2 [2] rfl (by omega) ?_
 refine g_c1 (m_find ⟨l, true⟩ (.mk nka nsa nma nxa nua (.slice pva nqa.length cva) nqa) 0 (by show l.length ≤ _; omega) (by have := parX_size hpara; dsimp only at this; omega)) (fun w hS => forest_rd hS (i := 3) rfl) rfl rfl rfl ?_
 rw [er, r2]
 refine xg 3 [] rfl rfl ?_
 refine g_alloc rfl rfl Try.zeroValue36 rfl (fun b34 => ?_)
 refine xg 2 [0] rfl (by omega) ?_
 refine ntso_ ?_
 refine xg 2 [1] rfl (by omega) ?_
 refine g_c1 (m_find ⟨l, true⟩ (.mk nkb nsb nmb nxb nub (.slice pvb nqb.length cvb) nqb) 0 (by show l.length ≤ _; omega) (by have := parX_size hparb; dsimp only at this; omega)) (fun w hS => forest_rd hS (i := 2) rfl) rfl rfl rfl ?_
 rw [ep, p2]
 refine xg 3 [] rfl rfl ?_
 refine g_alloc rfl rfl Try.zeroValue36 rfl (fun b35 => ?_)
 refine xg 2 [0] rfl (by omega) ?_
 refine ntso_ ?_
 refine xg 2 [4,2] rfl (by omega) ?_
 refine g_buildSlice (offs := [0, 9]) rfl rfl Try.underlying26 rfl Try.zeroValue28 (by kernel_rfl) (fun b36 => ?_)
 refine xg 2 [] rfl rfl ?_
 refine g_c1 (m_find ⟨l, true⟩ (.mk 3 s0 0 0 0 (.slice (some ⟨b36, 0, none⟩) 2 2) [(.mk nka nsa nma nxa nua (.slice pva nqa.length cva) nqa), (.mk nkb nsb nmb nxb nub (.slice pvb nqb.length cvb) nqb)]) 0 (by show l.length ≤ _; omega) (by rw [wT_two]; have h1 := parX_size hpara; dsimp only at h1; have h2 := parX_size hparb; dsimp only at h2; omega)) (fun w hS => rd_node rfl (hS.cells (i := 0) rfl) (rdL_cons.2 ⟨forest_rd hS (i := 6) rfl, rdL_cons.2 ⟨forest_rd hS (i := 4) rfl, rdL_nil⟩⟩)) rfl rfl rfl ?_
 rw [findR_v nilS, ez, z2]
 refine xg 3 [] rfl rfl ?_
 refine g_alloc rfl rfl Try.zeroValue36 rfl (fun b37 => ?_)
 refine xg 2 [0] rfl (by omega) ?_
 refine ntso_ ?_
 refine xg 2 [3] rfl (by omega) ?_
 refine g_alloc rfl rfl Try.zeroValue34 rfl (fun b38 => ?_)
 refine xg 1 [0] rfl (by omega) ?_
 refine n_ (t_ (s_ (s_ (o_ ?_))))
 refine xg 29 [] rfl rfl ?_
 refine n_ (t_ (g_cond_t rfl (o_ ?_)))
 refine xg 3 [3,0] rfl (by omega) ?_
 refine ntso_ ?_
 refine g_call1 rfl rfl rfl Try.call13 (fun w hS => alive_any w (hS.maxHere hz (by simp))) ?_
 refine xg 6 [] rfl rfl ?_
 refine g_val rfl rfl rfl (y_lit true (y_beq rfl rfl (by kernel_rfl)) (rfl)) ?_
 refine xg 12 [] rfl rfl ?_
 refine n_ (t_ (g_ret ?_))
 refine g_end1 Try.results7 rfl ?_
 exact fun w hS => ⟨rfl, hS.below⟩

theorem meith_law (s u t : ByteArray) (hs : s.size ≤ maxLen) (hu : u.size ≤ maxLen) (ht : t.size ≤ maxLen) (w : World) (hsh : w.ShapedOpen Try.prog) : Calls Try.prog 7 #[.agg #[.string s, .string u], .string t] w fun e w' => e = .returned (.bool true) ∧ Below w.heap.size w w' := by
  have h := meith_any s.data.toList u.data.toList t.data.toList (by rw [Array.length_toList]; exact hs) (by rw [Array.length_toList]; exact hu) (by rw [Array.length_toList]; exact ht) w (maxHere_of hsh)
  unfold st8 at h
  rw [Array.toArray_toList, Array.toArray_toList, Array.toArray_toList] at h
  exact h
end Go.Proofs.Ytfcamlkbkehlnaa

/- A tree as an argument, read; few, count. -/
namespace Go.Proofs.Ytfcamlkbkehlnaa
open Go Go.RowKit
open Go.ChangeShapes Go.WideShapes Go.ChangeAt

section
variable {H : Type} {enc : TypeId × Value → H}
theorem trod_u64 {W : World} {base : Nat} {spare : Nat → Bool} {held : Bool} {n : Nat} {cs : List Value} {y : DataW H × List MemPlace} (h : DataW.trod enc Try.prog W base spare held n 23 cs = some y) : ∃ z, cs = [.int .u64 z] := by
  obtain ⟨z, h1, _⟩ := DataW.trod_int Try.underlying23 h; exact ⟨z, h1⟩
theorem fld_of {W : World} {base : Nat} {spare : Nat → Bool} {held : Bool} {n : Nat} {cs : List Value} {fs : Array Field} {xs : List (DataW H × List MemPlace)} (hlen : xs.length = fs.size) (hg : ∀ (i : Nat) (f : Field), fs[i]? = some f → DataW.trod enc Try.prog W base spare held n f.type ((cs.drop f.offset).take (Try.prog.cellsOf f.type)) = xs[i]?) :
    ∀ (i : Nat) (f : Field), fs[i]? = some f → ∀ o s ty, f.offset = o → Try.prog.cellsOf f.type = s → f.type = ty → ∃ y, DataW.trod enc Try.prog W base spare held n ty ((cs.drop o).take s) = some y := by
  intro i f hf o s ty ho hs hty
  subst ho hs hty
  have hil : i < fs.size := (Array.getElem?_eq_some_iff.1 hf).1
  exact ⟨xs[i]'(by omega), by rw [← List.getElem?_eq_getElem]; exact hg i f hf⟩
set_option maxRecDepth 100000 in
/-- A tree that is read as data can be read as a tree. -/
theorem tree_read {W : World} {base : Nat} {spare : Nat → Bool} {held : Bool} : ∀ (fuel : Nat) (cs : List Value) (y : DataW H × List MemPlace), DataW.trod enc Try.prog W base spare held fuel 28 cs = some y → ∃ t : MT, cs = nC t ∧ t.rd W := by
  intro fuel
  induction fuel using Nat.strongRecOn with
  | _ fuel ih =>
  intro cs y h
  obtain ⟨xs, n, hn, _, hl, hlen, hg⟩ := DataW.trod_struct Try.underlying28 h
  have hc : Try.prog.cellsOf 28 = 9 := by kernel_rfl
  rw [hc] at hl
  obtain ⟨c0, c1, c2, c3, c4, c5, c6, c7, c8, rfl⟩ : ∃ a b c d e f g h i, cs = [a, b, c, d, e, f, g, h, i] := by
    match cs, hl with | [a, b, c, d, e, f, g, h, i], _ => exact ⟨a, b, c, d, e, f, g, h, i, rfl⟩
  have fld := fld_of hlen hg
  obtain ⟨y0, e0⟩ := fld 0 _ rfl 0 1 22 rfl (by kernel_rfl) rfl
  obtain ⟨y1, e1⟩ := fld 1 _ rfl 1 4 25 rfl (by kernel_rfl) rfl
  obtain ⟨y2, e2⟩ := fld 2 _ rfl 5 1 3 rfl (by kernel_rfl) rfl
  obtain ⟨y3, e3⟩ := fld 3 _ rfl 6 1 3 rfl (by kernel_rfl) rfl
  obtain ⟨y4, e4⟩ := fld 4 _ rfl 7 1 3 rfl (by kernel_rfl) rfl
  obtain ⟨y5, e5⟩ := fld 5 _ rfl 8 1 26 rfl (by kernel_rfl) rfl
  obtain ⟨k, z0, _⟩ := DataW.trod_int Try.underlying22 e0
  obtain ⟨mi, z2, _⟩ := DataW.trod_int Try.underlying3 e2
  obtain ⟨ma, z3, _⟩ := DataW.trod_int Try.underlying3 e3
  obtain ⟨nu, z4, _⟩ := DataW.trod_int Try.underlying3 e4
  obtain ⟨m, ha⟩ := rd_array2 Try.underlying25 e1
  obtain ⟨x0, f0⟩ := ha 0 (by decide) 0 1 23 (by kernel_rfl) (by kernel_rfl) rfl
  obtain ⟨x1, f1⟩ := ha 1 (by decide) 1 1 23 (by kernel_rfl) (by kernel_rfl) rfl
  obtain ⟨x2, f2⟩ := ha 2 (by decide) 2 1 23 (by kernel_rfl) (by kernel_rfl) rfl
  obtain ⟨x3, f3⟩ := ha 3 (by decide) 3 1 23 (by kernel_rfl) (by kernel_rfl) rfl
  obtain ⟨a0, w0⟩ := trod_u64 f0
  obtain ⟨a1, w1⟩ := trod_u64 f1
  obtain ⟨a2, w2⟩ := trod_u64 f2
  obtain ⟨a3, w3⟩ := trod_u64 f3
  simp only [List.drop_succ_cons, List.drop_zero, List.take_succ_cons, List.take_zero, List.cons.injEq, and_true] at z0 z2 z3 z4 w0 w1 w2 w3
  subst z0 z2 z3 z4 w0 w1 w2 w3
  have key : ∃ q : List MT, rdV W c8 q ∧ rdL W q := by
    rcases DataW.trod_slice Try.underlying26 e5 with ⟨h5, _⟩ | ⟨a, len, cap, elems, rest, n', hn', h5, _, _, _, _, hel, hi, _, _⟩
    · have : c8 = .slice none 0 0 := by simpa using h5
      subst this
      exact ⟨[], ⟨none, 0, rfl, fun h => absurd h (by decide), fun h => absurd h (by decide), fun i j h => absurd h (Nat.not_lt_zero _)⟩, rdL_nil⟩
    · have : c8 = .slice (some a) len cap := by simpa using h5
      subst this
      have each : ∀ i, i < len → ∃ t : MT, (∀ j, j < 9 → W.cell? (a.add (i * 9 + j)) = (nC t)[j]?) ∧ t.rd W := by
        intro i hil
        have h6 := hi i hil
        rw [List.getElem?_eq_getElem (by omega)] at h6
        obtain ⟨cs', h7, h8⟩ := Option.bind_eq_some_iff.1 h6
        obtain ⟨t, rfl, ht⟩ := ih n' (by omega) cs' _ h8
        rw [hc] at h7
        obtain ⟨_, _, h9⟩ := World.cells?_some h7
        refine ⟨t, fun j hj => ?_, ht⟩
        have := h9 j (by omega)
        rw [Addr.add_add] at this
        exact this
      refine ⟨(List.range len).map fun i => if hlt : i < len then Classical.choose (each i hlt) else zMT, ⟨some a, cap, by simp, fun _ => rfl, fun h0 => ?_, fun i j hi' hj => ?_⟩, ?_⟩
      · have h1 := (Classical.choose_spec (each 0 (by simpa using h0))).1 0 (by decide)
        rw [List.getElem?_eq_getElem (by rw [nC_len]; decide)] at h1
        have := block_lt_of_cell h1
        rwa [block_add] at this
      · have hil : i < len := by simpa using hi'
        have h1 := (Classical.choose_spec (each i hil)).1 j hj
        rw [Option.getD_some, h1, List.getElem?_eq_getElem (by rw [nC_len]; exact hj)]
        have e : (List.map (fun i => if hlt : i < len then Classical.choose (each i hlt) else zMT) (List.range len)).getD i default = Classical.choose (each i hil) := by
          rw [List.getD_eq_getElem?_getD, List.getElem?_map, List.getElem?_range hil]
          simp [hil]
        rw [e, List.getElem?_eq_getElem (by rw [nC_len]; exact hj)]; rfl
      · have all : ∀ q : List MT, (∀ t ∈ q, t.rd W) → rdL W q := by
          intro q
          induction q with
          | nil => intro _; exact rdL_nil
          | cons t q ihq => intro hq; exact rdL_cons.2 ⟨hq t (List.mem_cons_self ..), ihq fun u hu => hq u (List.mem_cons_of_mem _ hu)⟩
        refine all _ fun t ht => ?_
        obtain ⟨i, hi', rfl⟩ := List.mem_map.1 ht
        rw [dif_pos (List.mem_range.1 hi')]
        exact (Classical.choose_spec (each i (List.mem_range.1 hi'))).2
  obtain ⟨q, hq1, hq2⟩ := key
  exact ⟨.mk k (fun j => if j = 0 then a0 else if j = 1 then a1 else if j = 2 then a2 else a3) mi ma nu c8 q, rfl, rd_mk.2 ⟨hq1, hq2⟩⟩
set_option maxRecDepth 100000 in
theorem rd_tree {r : Reach} {b0 base : Nat} {spare : Nat → Bool} {held : Bool} {W : World} {v : Value} {d : DataW H} {p : List MemPlace} (hv : Value.okWide Try.prog W r b0 28 v) (h : DataW.Trod enc Try.prog W base spare held 28 v d p) : ∃ t : MT, v = .agg (nC t).toArray ∧ t.rd W := by
  obtain ⟨cs, rfl, hsz⟩ := okWide_struct Try.underlying28 hv
  obtain ⟨fuel, hf⟩ := h
  obtain ⟨t, h1, h2⟩ := tree_read fuel _ _ hf
  refine ⟨t, ?_, h2⟩
  have h3 : cs.toList = nC t := h1
  rw [← h3]
end
/-! ### few -/
theorem wL_take2 {q : List MT} {i : Nat} {u : MT} (h : q[i]? = some u) : wL (q.take (i + 1)) = wL (q.take i) + wT u := by
  rw [List.take_add_one, h, wL_app]
  show _ + wL [u] = _
  rw [wL_one]
theorem wT_pos (t : MT) : 1 ≤ wT t := by cases t; rw [wT_mk]; omega

set_option maxRecDepth 100000 in
theorem count_any (k : Int) (s : Nat → Int) (nmi nma nnu : Int) (pq : Option Addr) (cq : Nat) (q : List MT) (lim : Int) (hl1 : 1 ≤ lim) (hl2 : lim ≤ 1000) (ih : ∀ u, u ∈ q → ∀ (lim : Int), 1 ≤ lim → lim ≤ 1000 → ∀ w, u.rd w → Calls Try.prog 32 #[.agg (nC u).toArray, .int .i64 lim] w fun e w' => e = .returned (.int .i64 (min (wT u : Int) lim)) ∧ Below w.heap.size w w') (w : World) (hok : MT.rd w (MT.mk k s nmi nma nnu (Value.slice pq q.length cq) q)) :
    Calls Try.prog 32 #[.agg (nC (MT.mk k s nmi nma nnu (Value.slice pq q.length cq) q)).toArray, .int .i64 lim] w fun e w' => e = .returned (.int .i64 (min (wT (MT.mk k s nmi nma nnu (Value.slice pq q.length cq) q) : Int) lim)) ∧ Below w.heap.size w w' := by
 obtain ⟨hrq, _, hqk⟩ := rd_facts (F := []) hok (fun _ _ => List.not_mem_nil)
 have hmax : maxLen = 9223372036854775807 := rfl
 have hwq := wT_mk (k := k) (s := s) (mi := nmi) (ma := nma) (nu := nnu) (v := .slice pq q.length cq) (q := q)
 refine fn_intro Try.func32 rfl Try.ntmps32 rfl rfl ?_
 refine s_ (o_ ?_)
 refine g_box rfl rfl rfl rfl (fun b1 => ?_)
 refine xg 1 [] rfl rfl ?_
 refine ntso_ ?_
 refine xg 1 [] rfl rfl ?_
 refine n_ (t_ (s_ (s_ (o_ ?_))))
 refine xg 1 [] rfl rfl ?_
 refine n_ (t_ (g_block ?_))
 refine g_loop (α := {x : Nat × Int // x.1 ≤ q.length ∧ x.2 = min (1 + wL (q.take x.1) : Int) lim}) (fun x => [(1, .int .i64 lim), (2, .pointer (some ⟨b1, 0, none⟩)), (5, .int .i64 x.1.2), (6, .int .i64 (x.1.1 : Int))]) (fun x => St w [] [.cells b1 28 (nC (MT.mk k s nmi nma nnu (Value.slice pq q.length cq) q))]) (fun x => q.length - x.1.1) ⟨(0, 1), Nat.zero_le _, by show (1 : Int) = min (1 + ((wL (q.take 0) : Nat) : Int)) lim; rw [List.take_zero, wL]; omega⟩ [1, 2, 5, 6] rfl (fun w h => h.pick [0] rfl) ?_
 rintro ⟨⟨i, c⟩, hi, hc⟩
 dsimp only
 dsimp only at hi hc
 have hil : i ≤ wL (q.take i) := by
   have := wL_len (q.take i); rw [List.length_take] at this; omega
 refine s_ (s_ (o_ ?_))
 refine xg 3 [0] rfl (by omega) ?_
 refine g_val (v := .int .i64 ((q.length : Nat) : Int)) rfl rfl rfl (y_llen rfl Try.underlying26) ?_
 refine xg 2 [0] rfl rfl ?_
 refine g_casep 12 rfl (fun h1 => ?_) fun h1 => ?_
 ·refine xg 4 [0] rfl rfl ?_
  refine n_ (t_ ?_)
  refine g_casep 16 rfl (fun h2 => ?_) fun h2 => ?_
  ·refine g_cond_t rfl (g_skip (t_ (s_ (g_block (o_ ?_)))))
   refine xg 4 [0] rfl (by omega) ?_
   refine g_val rfl rfl rfl (y_rdAddr hrq rfl rfl Try.underlying26 Try.sizeOf28 (by omega) (by omega)) ?_
   obtain ⟨u, hu⟩ : ∃ u, q[i]? = some u := ⟨_, List.getElem?_eq_getElem (by omega)⟩
   have huk := (hqk i u hu).1
   have hupos := wT_pos u
   have hnx := wL_take2 hu
   refine g_val (v := .agg (nC u).toArray) rfl rfl rfl (y_rdAggF (i := (i : Int)) (vs := nC u) hrq List.not_mem_nil rfl Try.isAgg28 Try.sizeOf28 (by omega) (by omega) (nC_len _) (fun jj hjj => by rw [Int.toNat_natCast, List.getD_eq_getElem?_getD, hu]; rw [Option.getD_some, List.getElem?_eq_getElem (show jj < (nC u).length by rw [nC_len]; exact hjj)]; rfl)) ?_
   refine xg 3 [] rfl (by omega) ?_
   refine g_call1 (v := .int .i64 (min (wT u : Int) (lim - c))) rfl rfl rfl Try.call32 (fun w1 hS => ih u (List.mem_of_getElem? hu) (lim - c) (by omega) (by omega) w1 (hS.okOf huk (fun _ _ => List.not_mem_nil))) ?_
   refine xg 2 [] rfl (by omega) ?_
   refine n_ (g_in_normal (t_ (o_ ?_)))
   refine xg 3 [] rfl (by omega) ?_
   refine n_ ?_
   exact g_again ⟨(i + 1, c + min (wT u : Int) (lim - c)), by dsimp only; omega, by dsimp only; omega⟩ [1, 2, 5, 6] (by dsimp only; omega) rfl (fun w h => h.pick [0] rfl)
  refine g_cond_f rfl (g_exit (g_then_exit (g_then_exit (g_in_exit (t_ (s_ (o_ ?_)))))))
  refine xg 2 [] rfl rfl ?_
  refine n_ (t_ (g_ret ?_))
  refine g_end1 Try.results32 rfl ?_
  have htk : wL (q.take i) ≤ wL q := wL_take i
  have htl : i = q.length → wL (q.take i) = wL q := fun h => by rw [h, List.take_length]
  rw [show min ((wT (MT.mk k s nmi nma nnu (Value.slice pq q.length cq) q) : Nat) : Int) lim = c by omega]
  exact fun w hS => ⟨rfl, hS.below⟩
 refine xg 4 [] rfl rfl ?_
 refine n_ (t_ (g_cond_f rfl (g_exit (g_then_exit (g_then_exit (g_in_exit (t_ (s_ (o_ ?_)))))))))
 refine xg 2 [] rfl rfl ?_
 refine n_ (t_ (g_ret ?_))
 refine g_end1 Try.results32 rfl ?_
 have htk : wL (q.take i) ≤ wL q := wL_take i
 have htl : i = q.length → wL (q.take i) = wL q := fun h => by rw [h, List.take_length]
 rw [show min ((wT (MT.mk k s nmi nma nnu (Value.slice pq q.length cq) q) : Nat) : Int) lim = c by omega]
 exact fun w hS => ⟨rfl, hS.below⟩

theorem count_t : ∀ (D : Nat) (t : MT), wT t ≤ D → ∀ (lim : Int), 1 ≤ lim → lim ≤ 1000 → ∀ w, t.rd w → Calls Try.prog 32 #[.agg (nC t).toArray, .int .i64 lim] w fun e w' => e = .returned (.int .i64 (min (wT t : Int) lim)) ∧ Below w.heap.size w w' := by
  intro D
  induction D with
  | zero => intro t h; have := wT_pos t; omega
  | succ D ihD =>
    intro t hD lim h1 h2 w hok
    obtain ⟨k, s, mi, ma, nu, p, c, q, rfl⟩ := rd_v hok
    rw [wT_mk] at hD
    exact count_any k s mi ma nu p c q lim h1 h2 (fun u hu => ihD u (by have := wT_mem hu; omega)) w hok

set_option maxRecDepth 100000 in
theorem few_any (t : MT) (w : World) (hok : t.rd w) :
    Calls Try.prog 19 #[.agg (nC t).toArray] w fun e w' => e = .returned (.bool (decide ((wT t : Int) ≤ 30))) ∧ Below w.heap.size w w' := by
 obtain ⟨k, s, mi, ma, nu, p, c, q, rfl⟩ := rd_v hok
 refine fn_intro Try.func19 rfl Try.ntmps19 rfl rfl ?_
 refine s_ (o_ ?_)
 refine g_box rfl rfl rfl rfl (fun b1 => ?_)
 refine xg 1 [] rfl rfl ?_
 refine ntso_ ?_
 refine xg 1 [0] rfl (by omega) ?_
 refine g_call1 (v := .int .i64 (min (wT (.mk k s mi ma nu (.slice p q.length c) q) : Int) 31)) rfl rfl rfl Try.call32 (fun w1 hS => count_t _ _ (Nat.le_refl _) 31 (by decide) (by decide) w1 (hS.okOf hok (fun _ _ => List.not_mem_nil))) ?_
 refine xg 2 [0] rfl rfl ?_
 refine n_ (t_ (g_ret ?_))
 refine g_end1 Try.results19 rfl ?_
 rw [show decide ((wT (.mk k s mi ma nu (.slice p q.length c) q) : Int) ≤ 30) = decide (min (wT (.mk k s mi ma nu (.slice p q.length c) q) : Int) 31 ≤ 30) by congr 1; apply propext; omega]
 exact fun w hS => ⟨rfl, hS.below⟩

theorem m_few (t : MT) : Meets Try.prog (fun w => t.rd w) 19 [.agg (nC t).toArray] (fun _ : Unit => .bool (decide ((wT t : Int) ≤ 30))) [] (fun _ => []) := meets1 Try.call19 (fun w hI => few_any t w hI)
end Go.Proofs.Ytfcamlkbkehlnaa

/- MatchPlain. -/
namespace Go.Proofs.Ytfcamlkbkehlnaa
open Go Go.RowKit

theorem st8_mid (a b : Nat) (l : List UInt8) : (⟨l.toArray⟩ : ByteArray).extract a b = ⟨((l.drop a).take (b - a)).toArray⟩ := by
  apply ByteArray.ext
  show ((⟨l.toArray⟩ : ByteArray).extract a b).data = _
  rw [ByteArray.data_extract]
  simp
theorem occ_iff {l p : List UInt8} {i n : Nat} : (⟨l.toArray⟩ : ByteArray).extract (i : Int).toNat ((i : Int) + (n : Int)).toNat = ⟨p.toArray⟩ ↔ (l.drop i).take n = p := by
  rw [st8_mid, show ((i : Int) + (n : Int)).toNat - (i : Int).toNat = n by omega, Int.toNat_natCast]
  constructor
  · intro h; injection h with h; exact List.toArray_inj h
  · intro h; rw [h]
def plP (p : List UInt8) (m : Nat) : Prop := ∃ c, p[m]? = some c ∧ ((97 ≤ c.toNat ∧ c.toNat ≤ 122) ∨ (48 ≤ c.toNat ∧ c.toNat ≤ 57))
theorem plP_all {p : List UInt8} (h : ∀ m, 0 ≤ m → m < p.length → plP p m) : ∀ c, c ∈ p → plainC c := fun c hc => by
  obtain ⟨m, hm, rfl⟩ := List.mem_iff_getElem.1 hc
  obtain ⟨c, h1, h2⟩ := h m (Nat.zero_le _) hm
  rw [List.getElem?_eq_getElem hm] at h1
  cases h1
  unfold plainC
  rcases h2 with h2 | h2
  · exact .inl h2
  · exact .inr (.inr h2)
def occ (l p : List UInt8) (i : Nat) : Prop := (l.drop i).take p.length = p
theorem occ_le {l p : List UInt8} {i : Nat} (h : occ l p i) : i + p.length ≤ l.length ∨ p = [] := by
  unfold occ at h
  have := congrArg List.length h
  rw [List.length_take, List.length_drop] at this
  cases p with
  | nil => exact .inr rfl
  | cons c p => left; simp only [List.length_cons] at this ⊢; omega
theorem mRow_plain {x : Tx} : ∀ (p : List UInt8) {i j : Nat}, i ≤ x.n → (mRow x (p.map oneM) i j = true ↔ j = i + p.length ∧ occ x.l p i)
  | [], i, j, hi => by rw [List.map_nil, mRow_nil]; unfold occ; simp
  | c :: p, i, j, hi => by
    rw [List.map_cons, mRow_two]
    constructor
    · rintro ⟨k, h1, h2, h3, h4⟩
      rw [mM_one] at h3
      simp only [Bool.and_eq_true, decide_eq_true_eq] at h3
      obtain ⟨rfl, h3⟩ := h3
      obtain ⟨rfl, h5⟩ := (mRow_plain p h1).1 h4
      refine ⟨by rw [List.length_cons]; omega, ?_⟩
      unfold occ at *
      have hlt := (List.getElem?_eq_some_iff.1 h3)
      rw [List.drop_eq_getElem_cons hlt.1, List.length_cons, List.take_succ_cons, h5, hlt.2]
    · rintro ⟨rfl, h⟩
      unfold occ at h
      cases hd : x.l.drop i with
      | nil => rw [hd] at h; cases h
      | cons d r =>
        rw [hd, List.length_cons, List.take_succ_cons] at h
        injection h with h1 h2
        subst h1
        have h3 : x.l[i]? = some d := by
          have := congrArg (·[0]?) hd
          simpa using this
        have h4 : x.l.drop (i + 1) = r := by rw [← List.drop_drop, hd]; rfl
        have h5 := one_in i h3
        exact ⟨i + 1, by omega, by omega, by rw [mM_one]; simp [h3], (mRow_plain p (by omega)).2 ⟨by rw [List.length_cons]; omega, by unfold occ; rw [h4]; exact h2⟩⟩
theorem ngL_one : ∀ (p : List UInt8), ngL (p.map oneM)
  | [] => ngL_nil
  | c :: p => ngL_cons.2 ⟨ng_one c, ngL_one p⟩
/-- What a plain text is parsed to finds that text. -/
theorem plain_mM {ext : Bool} {p : List UInt8} {t : MT × Int} (h : parX ext p t) (hp : ∀ c, c ∈ p → plainC c) (h1 : 1 ≤ p.length) (h2 : p.length ≤ 20) : t.2 = 0 ∧ ngT t.1 ∧ ∀ (x : Tx) (i j : Nat), i ≤ x.n → (mM x t.1 i j = true ↔ j = i + p.length ∧ occ x.l p i) := by
  have hne : p ≠ [] := fun e => by subst e; exact absurd h1 (by decide)
  have h3 : parR (tokX ext) p t := parX_R (fun c hc => plain_ok (hp c hc)) h
  have h4 := parse_plain (f := tokX ext) (fun c ts d hc => by cases ext; exact tokB_plain hc ts d; exact tokE_plain hc ts d) hp hne (by omega) h3
  rcases h4 with ⟨h0, ⟨c, rfl, h5⟩ | ⟨_, v, h5⟩⟩
  · refine ⟨h0, by rw [h5]; exact ng_one c, fun x i j hi => ?_⟩
    have := mRow_plain (x := x) [c] (j := j) hi
    rw [List.map_cons, List.map_nil, mRow_one hi] at this
    rw [h5]; exact this
  · refine ⟨h0, by rw [h5]; exact ngT_mk.2 ⟨by decide, ngL_one p⟩, fun x i j hi => ?_⟩
    rw [h5, mM_mk, if_neg (by decide), if_neg (by decide), if_neg (by decide), if_pos rfl]
    exact mRow_plain p hi
theorem occ_at {l p : List UInt8} {i : Nat} {z : Int} (h : (z = -1 ∧ (∀ m, m < i → ¬ occ l p m)) ∨ (∃ a : Nat, z = a ∧ a + p.length ≤ l.length ∧ occ l p a ∧ (∀ m, m < a → ¬ occ l p m))) (hz : z < 0) : z = -1 ∧ ∀ m, m < i → ¬ occ l p m := by
  rcases h with h | ⟨a, h, _⟩
  · exact h
  · omega
theorem occ_next {l p : List UInt8} {i : Nat} (h0 : ∀ m, m < i → ¬ occ l p m) (h : ¬ (⟨l.toArray⟩ : ByteArray).extract (i : Int).toNat ((i : Int) + (p.length : Int)).toNat = ⟨p.toArray⟩) : ∀ m, m < i + 1 → ¬ occ l p m := fun m hm hh => by
  by_cases e : m = i
  · subst e; exact h (occ_iff.2 hh)
  · exact h0 m (by omega) hh
theorem occ_stop {l p : List UInt8} {i : Nat} {z : Int} (h : (z = -1 ∧ (∀ m, m < i → ¬ occ l p m)) ∨ (∃ a : Nat, z = a ∧ a + p.length ≤ l.length ∧ occ l p a ∧ (∀ m, m < a → ¬ occ l p m))) (hp : 1 ≤ p.length) (hi : z < 0 → l.length < i + p.length) : (z = -1 ∧ (∀ m, ¬ occ l p m)) ∨ (∃ a : Nat, z = a ∧ a + p.length ≤ l.length ∧ occ l p a ∧ (∀ m, m < a → ¬ occ l p m)) := by
  rcases h with ⟨h1, h2⟩ | h
  · refine .inl ⟨h1, fun m hm => ?_⟩
    by_cases e : m < i
    · exact h2 m e hm
    · have := hi (by omega)
      rcases occ_le hm with q | q
      · omega
      · subst q; exact absurd hp (by decide)
  · exact .inr h
theorem plain_none {l p : List UInt8} {t : MT} (ht : ∀ (x : Tx) (i j : Nat), i ≤ x.n → (mM x t i j = true ↔ j = i + p.length ∧ occ x.l p i)) (h : ∀ m, ¬ occ l p m) : findR ⟨l, false⟩ t 0 = (m0, false) :=
  findR_no (f := 0) fun a b _ ha => false_of fun hm => h a ((ht ⟨l, false⟩ a b ha).1 hm).2
theorem plain_some {l p : List UInt8} {t : MT} {a : Nat} (hng : ngT t) (ht : ∀ (x : Tx) (i j : Nat), i ≤ x.n → (mM x t i j = true ↔ j = i + p.length ∧ occ x.l p i)) (hn : l.length ≤ 60) (ha : a + p.length ≤ l.length) (h1 : occ l p a) (h0 : ∀ m, m < a → ¬ occ l p m) : findR ⟨l, false⟩ t 0 = (setS mN 0 ((a : Int), ((a + p.length : Nat) : Int)), true) := by
  have hx : ∀ b, b ≤ l.length → b ≤ Tx.n ⟨l, false⟩ := fun b h => h
  rw [show (0 : Int) = ((0 : Nat) : Int) from rfl, findR_yes (x := ⟨l, false⟩) (t := t) (f := 0) (i := a) (j := a + p.length) (show l.length ≤ 1024 by omega) ⟨Nat.zero_le _, hx a (by omega), (ht ⟨l, false⟩ a _ (hx a (by omega))).2 ⟨rfl, h1⟩, fun b c _ hb => false_of fun hm => h0 b hb ((ht ⟨l, false⟩ b c (hx b (by omega))).1 hm).2, fun c hc => false_of fun hm => ?_⟩, gM_ng t _ _ _ hng]
  have := ((ht ⟨l, false⟩ a c (hx a (by omega))).1 hm).1; omega

set_option maxRecDepth 100000 in
theorem mplain_any (p l : List UInt8) (ext : Bool) (hp : p.length ≤ maxLen) (hl : l.length ≤ maxLen) (w : World) (hz : MaxHere w) :
    Calls Try.prog 5 #[st8 p, st8 l, .bool ext] w fun e w' => e = .returned (.bool true) ∧ Below w.heap.size w w' := by
 have hmax : maxLen = 9223372036854775807 := rfl
 have hsl := size_mk l
 have hsp := size_mk p
 refine fn_intro Try.func5 rfl Try.ntmps5 rfl rfl ?_
 refine s_ ?_
 cases ext
 ·refine o_ ?_
  refine xg 1 [] rfl rfl ?_
  refine ntso_ ?_
  refine xg 2 [] rfl rfl ?_
  refine g_callNew (fun x : {x : MT × Int // parX false p x} => .tuple #[.agg (nC x.1.1).toArray, .int .i64 x.1.2]) (fun x => [.forest [x.1.1]]) rfl rfl rfl Try.call16 (fun w hS => parse_xb p w (hS.maxHere hz (by simp))) ?_
  rintro ⟨⟨t, ern⟩, hpar⟩
  obtain ⟨nk, ns, nm, nx, nu, nv, nq⟩ := t
  refine g_kids 0 rfl (fun pv cv hv => ?_)
  cases hv
  dsimp only
  simp only [List.cons_append, List.nil_append]
  refine xg 3 [] rfl rfl ?_
  refine g_alloc rfl rfl Try.zeroValue28 rfl (fun b1 => ?_)
  refine xg 2 [0] rfl (by omega) ?_
  refine ntso_ ?_
  refine xg 1 [] rfl rfl ?_
  refine g_val (v := .int .i64 (p.length : Int)) rfl rfl rfl (y_val (y_slen rfl Try.underlying9) (by rw [size_mk])) ?_
  refine xg 2 [0] rfl rfl ?_
  refine g_casep 24 rfl (fun h1 => ?_) fun h1 => ?_
  ·refine xg 1 [] rfl rfl ?_
   refine g_val (v := .int .i64 (p.length : Int)) rfl rfl rfl (y_val (y_slen rfl Try.underlying9) (by rw [size_mk])) ?_
   refine xg 3 [0] rfl rfl ?_
   refine g_casep 29 rfl (fun h2 => ?_) fun h2 => ?_
   ·refine xg 1 [] rfl rfl ?_
    refine g_val (v := .int .i64 (l.length : Int)) rfl rfl rfl (y_val (y_slen rfl Try.underlying9) (by rw [size_mk])) ?_
    refine xg 3 [0] rfl rfl ?_
    refine n_ (t_ (s_ (s_ ?_)))
    refine g_casep 9 rfl (fun h9 => ?_) fun h9 => ?_
    ·refine o_ ?_
     refine xg 1 [] rfl rfl ?_
     refine n_ (t_ ?_)
     refine g_cutc (α := {x : Bool // x = true → (1 ≤ p.length ∧ p.length ≤ 20 ∧ l.length ≤ 60) ∧ (∀ m, 0 ≤ m → m < p.length → plP p m)}) (fun x => [(0, st8 p), (1, st8 l), (7, .pointer (some ⟨b1, 0, none⟩)), (8, .int .i64 ern), (9, .bool x.1)]) (fun x => [.cells b1 28 (nC (.mk nk ns nm nx nu (.slice pv nq.length cv) nq)), .forest [(.mk nk ns nm nx nu (.slice pv nq.length cv) nq)]]) ?_ ?_
     ·rintro ⟨b, gx⟩
      try dsimp only
      refine t_ (s_ (s_ (o_ ?_)))
      refine xg 2 [] rfl rfl ?_
      refine n_ (t_ ?_)
      first | refine g_casep 66 rfl (fun h3 => ?_) fun h3 => ?_ | refine g_caseb 66 rfl (fun h3 => ?_) fun h3 => ?_
      ·refine g_cond_t rfl (s_ (o_ ?_))
       refine g_call1 rfl rfl rfl Try.call13 (fun w hS => alive_any w (hS.maxHere hz (by simp))) ?_
       refine xg 1 [] rfl rfl ?_
       refine n_ (t_ (g_ret (g_then_ret ?_)))
       refine g_end1 Try.results5 rfl ?_
       exact fun w hS => ⟨rfl, hS.below⟩
      refine g_cond_f rfl (g_skip (t_ (s_ ?_)))
      obtain ⟨hcn, hall⟩ := gx (by simpa using ‹(!b) = false›)
      obtain ⟨h0, hng, htm⟩ := plain_mM hpar (plP_all hall) hcn.1 hcn.2.1
      dsimp only at h0 hng htm
      subst h0
      refine o_ ?_
      refine xg 1 [] rfl rfl ?_
      refine n_ (t_ (s_ (s_ (o_ ?_))))
      refine xg 1 [] rfl rfl ?_
      refine n_ (t_ ?_)
      refine g_cutc (α := {x : Int // (x = -1 ∧ (∀ m, ¬ occ l p m)) ∨ (∃ a : Nat, x = a ∧ a + p.length ≤ l.length ∧ occ l p a ∧ (∀ m, m < a → ¬ occ l p m))}) (fun x => [(0, st8 p), (1, st8 l), (7, .pointer (some ⟨b1, 0, none⟩)), (8, .int .i64 0), (11, .int .i64 x.1)]) (fun x => [.cells b1 28 (nC (.mk nk ns nm nx nu (.slice pv nq.length cv) nq)), .forest [(.mk nk ns nm nx nu (.slice pv nq.length cv) nq)]]) ?_ ?_
      ·rintro ⟨at_, gx⟩
       try dsimp only
       refine t_ (s_ ?_)
       rcases gx with ⟨rfl, hno⟩ | ⟨a, rfl, ha1, ha2, ha3⟩
       ·refine o_ ?_
        refine xg 2 [0] rfl (by omega) ?_
        refine g_c1 (m_find ⟨l, false⟩ (.mk nk ns nm nx nu (.slice pv nq.length cv) nq) 0 (by show l.length ≤ _; omega) (by have := parX_size hpar; dsimp only at this; omega)) (fun w hS => forest_rd hS (i := 1) rfl) rfl rfl rfl ?_
        rw [plain_none htm hno, sp_none]
        refine xg 3 [] rfl rfl ?_
        refine g_alloc rfl rfl Try.zeroValue36 rfl (fun b2 => ?_)
        refine xg 2 [0] rfl (by omega) ?_
        refine n_ (t_ (s_ (s_ (o_ ?_))))
        refine xg 2 [1] rfl (by omega) ?_
        refine n_ (t_ (g_cond_t rfl (s_ (o_ ?_))))
        refine g_call1 rfl rfl rfl Try.call13 (fun w hS => alive_any w (hS.maxHere hz (by simp))) ?_
        refine xg 9 [1] rfl (by omega) ?_
        refine n_ (t_ (g_ret (g_then_ret ?_)))
        refine g_end1 Try.results5 rfl ?_
        exact fun w hS => ⟨rfl, hS.below⟩
       refine o_ ?_
       refine xg 2 [0] rfl (by omega) ?_
       refine g_c1 (m_find ⟨l, false⟩ (.mk nk ns nm nx nu (.slice pv nq.length cv) nq) 0 (by show l.length ≤ _; omega) (by have := parX_size hpar; dsimp only at this; omega)) (fun w hS => forest_rd hS (i := 1) rfl) rfl rfl rfl ?_
       rw [plain_some hng htm hcn.2.2 ha1 ha2 ha3, sp_found]
       refine xg 3 [] rfl rfl ?_
       refine g_alloc rfl rfl Try.zeroValue36 rfl (fun b3 => ?_)
       refine xg 2 [0] rfl (by omega) ?_
       refine n_ (t_ (s_ (s_ (o_ ?_))))
       refine xg 2 [2] rfl (by omega) ?_
       refine n_ (t_ (g_cond_f rfl (g_skip (t_ (s_ (o_ ?_))))))
       refine g_call1 rfl rfl rfl Try.call13 (fun w hS => alive_any w (hS.maxHere hz (by simp))) ?_
       refine xg 20 [1,0,1,0] rfl (by omega) ?_
       refine g_val (v := .int .i64 (p.length : Int)) rfl rfl rfl (y_val (y_slen rfl Try.underlying9) (by rw [size_mk])) ?_
       refine xg 10 [1,0,1] rfl (by omega) ?_
       refine n_ (t_ (g_ret ?_))
       refine g_end1 Try.results5 rfl ?_
       exact fun w hS => ⟨rfl, hS.below⟩
      intro hj
      refine g_block ?_
      refine g_loop (α := {x : Nat × Int // x.1 ≤ l.length + 1 ∧ ((x.2 = -1 ∧ (∀ m, m < x.1 → ¬ occ l p m)) ∨ (∃ a : Nat, x.2 = a ∧ a + p.length ≤ l.length ∧ occ l p a ∧ (∀ m, m < a → ¬ occ l p m)))}) (fun x => [(0, st8 p), (1, st8 l), (7, .pointer (some ⟨b1, 0, none⟩)), (8, .int .i64 0), (11, .int .i64 x.1.2), (12, .int .i64 (x.1.1 : Int))]) (fun x => St w [] [.cells b1 28 (nC (.mk nk ns nm nx nu (.slice pv nq.length cv) nq)), .forest [(.mk nk ns nm nx nu (.slice pv nq.length cv) nq)]]) (fun x => l.length + 1 - x.1.1) ⟨(0, -1), Nat.zero_le _, .inl ⟨rfl, fun m h => by omega⟩⟩ [0, 1, 7, 8, 11, 12] rfl (fun w h => h.pick [0,0] rfl) ?_
      rintro ⟨⟨i, at_⟩, gi, gx⟩
      dsimp only
      dsimp only at gi gx
      refine s_ (s_ (o_ ?_))
      refine xg 3 [0] rfl rfl ?_
      refine g_casep 70 rfl (fun h4 => ?_) fun h4 => ?_
      ·refine xg 2 [] rfl rfl ?_
       refine g_val (v := .int .i64 (p.length : Int)) rfl rfl rfl (y_val (y_slen rfl Try.underlying9) (by rw [size_mk])) ?_
       refine xg 2 [] rfl (by omega) ?_
       refine g_val (v := .int .i64 (l.length : Int)) rfl rfl rfl (y_val (y_slen rfl Try.underlying9) (by rw [size_mk])) ?_
       refine xg 2 [0] rfl rfl ?_
       refine n_ (t_ ?_)
       refine g_casep 78 rfl (fun h5 => ?_) fun h5 => ?_
       ·refine g_cond_t rfl (g_skip (t_ (s_ (g_block (s_ ?_)))))
        obtain ⟨rfl, gx0⟩ := occ_at gx (by omega)
        refine o_ ?_
        refine xg 4 [] rfl rfl ?_
        refine g_val (v := .int .i64 (p.length : Int)) rfl rfl rfl (y_val (y_slen rfl Try.underlying9) (by rw [size_mk])) ?_
        refine xg 4 [] rfl (by omega) ?_
        refine n_ (t_ ?_)
        refine g_casep 89 rfl (fun h6 => ?_) fun h6 => ?_
        ·refine g_cond_t rfl (o_ ?_)
         refine xg 2 [] rfl rfl ?_
         refine n_ (g_in_normal (t_ (o_ ?_)))
         refine xg 3 [] rfl (by omega) ?_
         refine n_ ?_
         exact g_again ⟨(i + 1, (i : Int)), by dsimp only; omega, .inr ⟨i, rfl, by omega, occ_iff.1 (by assumption), gx0⟩⟩ [0, 1, 7, 8, 11, 12] (by dsimp only; omega) rfl (fun w h => h.pick [0,0] rfl)
        refine g_cond_f rfl (g_skip (g_in_normal (t_ (o_ ?_))))
        refine xg 3 [] rfl (by omega) ?_
        refine n_ ?_
        exact g_again ⟨(i + 1, -1), by dsimp only; omega, .inl ⟨rfl, occ_next gx0 (by assumption)⟩⟩ [0, 1, 7, 8, 11, 12] (by dsimp only; omega) rfl (fun w h => h.pick [0,0] rfl)
       refine g_cond_f rfl (g_exit (g_then_exit (g_then_exit (g_in_exit ?_))))
       exact g_fall (hj ⟨at_, occ_stop gx hcn.1 (fun _ => by omega)⟩) [0, 1, 7, 8, 11] rfl (fun w h => h.pick [0,0] rfl)
      refine xg 8 [] rfl rfl ?_
      refine n_ (t_ (g_cond_f rfl (g_exit (g_then_exit (g_then_exit (g_in_exit ?_))))))
      exact g_fall (hj ⟨at_, occ_stop gx hcn.1 (fun _ => by omega)⟩) [0, 1, 7, 8, 11] rfl (fun w h => h.pick [0,0] rfl)
     intro hj
     refine g_block ?_
     refine g_loop (α := {x : Nat × Bool // x.1 ≤ p.length ∧ (x.2 = true → (1 ≤ p.length ∧ p.length ≤ 20 ∧ l.length ≤ 60) ∧ (∀ m, 0 ≤ m → m < x.1 → plP p m))}) (fun x => [(0, st8 p), (1, st8 l), (7, .pointer (some ⟨b1, 0, none⟩)), (8, .int .i64 ern), (9, .bool x.1.2), (10, .int .i64 (x.1.1 : Int))]) (fun x => St w [] [.cells b1 28 (nC (.mk nk ns nm nx nu (.slice pv nq.length cv) nq)), .forest [(.mk nk ns nm nx nu (.slice pv nq.length cv) nq)]]) (fun x => p.length - x.1.1) ⟨(0, true), Nat.zero_le _, fun _ => ⟨by omega, fun m h1 h2 => by omega⟩⟩ [0, 1, 7, 8, 9, 10] rfl (fun w h => h.pick [0,0] rfl) ?_
     rintro ⟨⟨i, b⟩, gi, gx⟩
     dsimp only
     dsimp only at gi gx
     refine s_ (s_ (o_ ?_))
     refine xg 2 [] rfl rfl ?_
     refine g_val (v := .int .i64 (p.length : Int)) rfl rfl rfl (y_val (y_slen rfl Try.underlying9) (by rw [size_mk])) ?_
     refine xg 2 [0] rfl rfl ?_
     refine g_casep 38 rfl (fun h7 => ?_) fun h7 => ?_
     ·refine xg 2 [] rfl rfl ?_
      refine n_ (t_ ?_)
      refine g_caseb 40 rfl (fun h8 => ?_) fun h8 => ?_
      ·refine g_cond_t rfl (g_skip (t_ (s_ (g_block (o_ ?_)))))
       refine xg 2 [] rfl rfl ?_
       obtain ⟨ch, hch, hch8⟩ := st8_get (l := p) (i := i) (by omega)
       refine g_val rfl rfl rfl (y_sidx (i := i) rfl rfl Try.underlying9 hch8) ?_
       refine xg 2 [0] rfl rfl ?_
       refine g_casep 47 rfl (fun h9 => ?_) fun h9 => ?_
       ·refine xg 2 [] rfl rfl ?_
        refine g_val rfl rfl rfl (y_sidx (i := i) rfl rfl Try.underlying9 hch8) ?_
        refine xg 3 [0] rfl rfl ?_
        refine g_casep 53 rfl (fun h10 => ?_) fun h10 => ?_
        ·refine xg 12 [] rfl rfl ?_
         refine n_ (g_in_normal (t_ (o_ ?_)))
         refine xg 3 [] rfl (by omega) ?_
         refine n_ ?_
         exact g_again ⟨(i + 1, true), by dsimp only; omega, fun _ => ⟨(gx (by assumption)).1, run_more (l := p) (P := plP p) (gx (by assumption)).2 ⟨ch, hch, by omega⟩⟩⟩ [0, 1, 7, 8, 9, 10] (by dsimp only; omega) rfl (fun w h => h.pick [0,0] rfl)
        refine xg 2 [] rfl rfl ?_
        refine g_val rfl rfl rfl (y_sidx (i := i) rfl rfl Try.underlying9 hch8) ?_
        refine xg 2 [0] rfl rfl ?_
        refine g_casep 58 rfl (fun h11 => ?_) fun h11 => ?_
        ·refine xg 2 [] rfl rfl ?_
         refine g_val rfl rfl rfl (y_sidx (i := i) rfl rfl Try.underlying9 hch8) ?_
         refine xg 4 [0] rfl rfl ?_
         refine n_ (g_in_normal (t_ (o_ ?_)))
         refine xg 3 [] rfl (by omega) ?_
         refine n_ ?_
         first | refine g_casep 9 rfl (fun h12 => ?_) (fun h12 => ?_) | refine g_caseb 9 rfl (fun h12 => ?_) (fun h12 => ?_)
         · exact g_again ⟨(i + 1, true), by dsimp only; omega, fun _ => ⟨(gx (by assumption)).1, run_more (l := p) (P := plP p) (gx (by assumption)).2 ⟨ch, hch, by omega⟩⟩⟩ [0, 1, 7, 8, 9, 10] (by dsimp only; omega) rfl (fun w h => h.pick [0,0] rfl)
         · exact g_again ⟨(i + 1, false), by dsimp only; omega, fun h => by cases h⟩ [0, 1, 7, 8, 9, 10] (by dsimp only; omega) rfl (fun w h => h.pick [0,0] rfl)
        refine xg 7 [] rfl rfl ?_
        refine n_ (g_in_normal (t_ (o_ ?_)))
        refine xg 3 [] rfl (by omega) ?_
        refine n_ ?_
        exact g_again ⟨(i + 1, false), by dsimp only; omega, fun h => by cases h⟩ [0, 1, 7, 8, 9, 10] (by dsimp only; omega) rfl (fun w h => h.pick [0,0] rfl)
       refine xg 8 [] rfl rfl ?_
       refine g_val rfl rfl rfl (y_sidx (i := i) rfl rfl Try.underlying9 hch8) ?_
       refine xg 2 [0] rfl rfl ?_
       refine g_casep 58 rfl (fun h13 => ?_) fun h13 => ?_
       ·refine xg 2 [] rfl rfl ?_
        refine g_val rfl rfl rfl (y_sidx (i := i) rfl rfl Try.underlying9 hch8) ?_
        refine xg 4 [0] rfl rfl ?_
        refine n_ (g_in_normal (t_ (o_ ?_)))
        refine xg 3 [] rfl (by omega) ?_
        refine n_ ?_
        first | refine g_casep 9 rfl (fun h14 => ?_) (fun h14 => ?_) | refine g_caseb 9 rfl (fun h14 => ?_) (fun h14 => ?_)
        · exact g_again ⟨(i + 1, true), by dsimp only; omega, fun _ => ⟨(gx (by assumption)).1, run_more (l := p) (P := plP p) (gx (by assumption)).2 ⟨ch, hch, by omega⟩⟩⟩ [0, 1, 7, 8, 9, 10] (by dsimp only; omega) rfl (fun w h => h.pick [0,0] rfl)
        · exact g_again ⟨(i + 1, false), by dsimp only; omega, fun h => by cases h⟩ [0, 1, 7, 8, 9, 10] (by dsimp only; omega) rfl (fun w h => h.pick [0,0] rfl)
       refine xg 7 [] rfl rfl ?_
       refine n_ (g_in_normal (t_ (o_ ?_)))
       refine xg 3 [] rfl (by omega) ?_
       refine n_ ?_
       exact g_again ⟨(i + 1, false), by dsimp only; omega, fun h => by cases h⟩ [0, 1, 7, 8, 9, 10] (by dsimp only; omega) rfl (fun w h => h.pick [0,0] rfl)
      refine g_cond_f rfl (g_exit (g_then_exit (g_then_exit (g_in_exit ?_))))
      exact g_fall (hj ⟨b, fun hb => by first | exact ⟨(gx hb).1, fun m h1 h2 => (gx hb).2 m h1 (by omega)⟩ | (rw [show b = false by assumption] at hb; cases hb)⟩) [0, 1, 7, 8, 9] rfl (fun w h => h.pick [0,0] rfl)
     refine xg 2 [] rfl rfl ?_
     refine n_ (t_ (g_cond_f rfl (g_exit (g_then_exit (g_then_exit (g_in_exit ?_))))))
     exact g_fall (hj ⟨b, fun hb => by first | exact ⟨(gx hb).1, fun m h1 h2 => (gx hb).2 m h1 (by omega)⟩ | (rw [show b = false by assumption] at hb; cases hb)⟩) [0, 1, 7, 8, 9] rfl (fun w h => h.pick [0,0] rfl)
    refine o_ ?_
    refine xg 1 [] rfl rfl ?_
    refine n_ (t_ ?_)
    refine g_cutc (α := {x : Bool // x = true → (1 ≤ p.length ∧ p.length ≤ 20 ∧ l.length ≤ 60) ∧ (∀ m, 0 ≤ m → m < p.length → plP p m)}) (fun x => [(0, st8 p), (1, st8 l), (7, .pointer (some ⟨b1, 0, none⟩)), (8, .int .i64 ern), (9, .bool x.1)]) (fun x => [.cells b1 28 (nC (.mk nk ns nm nx nu (.slice pv nq.length cv) nq)), .forest [(.mk nk ns nm nx nu (.slice pv nq.length cv) nq)]]) ?_ ?_
    ·rintro ⟨b, gx⟩
     try dsimp only
     refine t_ (s_ (s_ (o_ ?_)))
     refine xg 2 [] rfl rfl ?_
     refine n_ (t_ ?_)
     first | refine g_casep 66 rfl (fun h15 => ?_) fun h15 => ?_ | refine g_caseb 66 rfl (fun h15 => ?_) fun h15 => ?_
     ·refine g_cond_t rfl (s_ (o_ ?_))
      refine g_call1 rfl rfl rfl Try.call13 (fun w hS => alive_any w (hS.maxHere hz (by simp))) ?_
      refine xg 1 [] rfl rfl ?_
      refine n_ (t_ (g_ret (g_then_ret ?_)))
      refine g_end1 Try.results5 rfl ?_
      exact fun w hS => ⟨rfl, hS.below⟩
     refine g_cond_f rfl (g_skip (t_ (s_ ?_)))
     obtain ⟨hcn, hall⟩ := gx (by simpa using ‹(!b) = false›)
     obtain ⟨h0, hng, htm⟩ := plain_mM hpar (plP_all hall) hcn.1 hcn.2.1
     dsimp only at h0 hng htm
     subst h0
     refine o_ ?_
     refine xg 1 [] rfl rfl ?_
     refine n_ (t_ (s_ (s_ (o_ ?_))))
     refine xg 1 [] rfl rfl ?_
     refine n_ (t_ ?_)
     refine g_cutc (α := {x : Int // (x = -1 ∧ (∀ m, ¬ occ l p m)) ∨ (∃ a : Nat, x = a ∧ a + p.length ≤ l.length ∧ occ l p a ∧ (∀ m, m < a → ¬ occ l p m))}) (fun x => [(0, st8 p), (1, st8 l), (7, .pointer (some ⟨b1, 0, none⟩)), (8, .int .i64 0), (11, .int .i64 x.1)]) (fun x => [.cells b1 28 (nC (.mk nk ns nm nx nu (.slice pv nq.length cv) nq)), .forest [(.mk nk ns nm nx nu (.slice pv nq.length cv) nq)]]) ?_ ?_
     ·rintro ⟨at_, gx⟩
      try dsimp only
      refine t_ (s_ ?_)
      rcases gx with ⟨rfl, hno⟩ | ⟨a, rfl, ha1, ha2, ha3⟩
      ·refine o_ ?_
       refine xg 2 [0] rfl (by omega) ?_
       refine g_c1 (m_find ⟨l, false⟩ (.mk nk ns nm nx nu (.slice pv nq.length cv) nq) 0 (by show l.length ≤ _; omega) (by have := parX_size hpar; dsimp only at this; omega)) (fun w hS => forest_rd hS (i := 1) rfl) rfl rfl rfl ?_
       rw [plain_none htm hno, sp_none]
       refine xg 3 [] rfl rfl ?_
       refine g_alloc rfl rfl Try.zeroValue36 rfl (fun b4 => ?_)
       refine xg 2 [0] rfl (by omega) ?_
       refine n_ (t_ (s_ (s_ (o_ ?_))))
       refine xg 2 [1] rfl (by omega) ?_
       refine n_ (t_ (g_cond_t rfl (s_ (o_ ?_))))
       refine g_call1 rfl rfl rfl Try.call13 (fun w hS => alive_any w (hS.maxHere hz (by simp))) ?_
       refine xg 9 [1] rfl (by omega) ?_
       refine n_ (t_ (g_ret (g_then_ret ?_)))
       refine g_end1 Try.results5 rfl ?_
       exact fun w hS => ⟨rfl, hS.below⟩
      refine o_ ?_
      refine xg 2 [0] rfl (by omega) ?_
      refine g_c1 (m_find ⟨l, false⟩ (.mk nk ns nm nx nu (.slice pv nq.length cv) nq) 0 (by show l.length ≤ _; omega) (by have := parX_size hpar; dsimp only at this; omega)) (fun w hS => forest_rd hS (i := 1) rfl) rfl rfl rfl ?_
      rw [plain_some hng htm hcn.2.2 ha1 ha2 ha3, sp_found]
      refine xg 3 [] rfl rfl ?_
      refine g_alloc rfl rfl Try.zeroValue36 rfl (fun b5 => ?_)
      refine xg 2 [0] rfl (by omega) ?_
      refine n_ (t_ (s_ (s_ (o_ ?_))))
      refine xg 2 [2] rfl (by omega) ?_
      refine n_ (t_ (g_cond_f rfl (g_skip (t_ (s_ (o_ ?_))))))
      refine g_call1 rfl rfl rfl Try.call13 (fun w hS => alive_any w (hS.maxHere hz (by simp))) ?_
      refine xg 20 [1,0,1,0] rfl (by omega) ?_
      refine g_val (v := .int .i64 (p.length : Int)) rfl rfl rfl (y_val (y_slen rfl Try.underlying9) (by rw [size_mk])) ?_
      refine xg 10 [1,0,1] rfl (by omega) ?_
      refine n_ (t_ (g_ret ?_))
      refine g_end1 Try.results5 rfl ?_
      exact fun w hS => ⟨rfl, hS.below⟩
     intro hj
     refine g_block ?_
     refine g_loop (α := {x : Nat × Int // x.1 ≤ l.length + 1 ∧ ((x.2 = -1 ∧ (∀ m, m < x.1 → ¬ occ l p m)) ∨ (∃ a : Nat, x.2 = a ∧ a + p.length ≤ l.length ∧ occ l p a ∧ (∀ m, m < a → ¬ occ l p m)))}) (fun x => [(0, st8 p), (1, st8 l), (7, .pointer (some ⟨b1, 0, none⟩)), (8, .int .i64 0), (11, .int .i64 x.1.2), (12, .int .i64 (x.1.1 : Int))]) (fun x => St w [] [.cells b1 28 (nC (.mk nk ns nm nx nu (.slice pv nq.length cv) nq)), .forest [(.mk nk ns nm nx nu (.slice pv nq.length cv) nq)]]) (fun x => l.length + 1 - x.1.1) ⟨(0, -1), Nat.zero_le _, .inl ⟨rfl, fun m h => by omega⟩⟩ [0, 1, 7, 8, 11, 12] rfl (fun w h => h.pick [0,0] rfl) ?_
     rintro ⟨⟨i, at_⟩, gi, gx⟩
     dsimp only
     dsimp only at gi gx
     refine s_ (s_ (o_ ?_))
     refine xg 3 [0] rfl rfl ?_
     refine g_casep 70 rfl (fun h16 => ?_) fun h16 => ?_
     ·refine xg 2 [] rfl rfl ?_
      refine g_val (v := .int .i64 (p.length : Int)) rfl rfl rfl (y_val (y_slen rfl Try.underlying9) (by rw [size_mk])) ?_
      refine xg 2 [] rfl (by omega) ?_
      refine g_val (v := .int .i64 (l.length : Int)) rfl rfl rfl (y_val (y_slen rfl Try.underlying9) (by rw [size_mk])) ?_
      refine xg 2 [0] rfl rfl ?_
      refine n_ (t_ ?_)
      refine g_casep 78 rfl (fun h17 => ?_) fun h17 => ?_
      ·refine g_cond_t rfl (g_skip (t_ (s_ (g_block (s_ ?_)))))
       obtain ⟨rfl, gx0⟩ := occ_at gx (by omega)
       refine o_ ?_
       refine xg 4 [] rfl rfl ?_
       refine g_val (v := .int .i64 (p.length : Int)) rfl rfl rfl (y_val (y_slen rfl Try.underlying9) (by rw [size_mk])) ?_
       refine xg 4 [] rfl (by omega) ?_
       refine n_ (t_ ?_)
       refine g_casep 89 rfl (fun h18 => ?_) fun h18 => ?_
       ·refine g_cond_t rfl (o_ ?_)
        refine xg 2 [] rfl rfl ?_
        refine n_ (g_in_normal (t_ (o_ ?_)))
        refine xg 3 [] rfl (by omega) ?_
        refine n_ ?_
        exact g_again ⟨(i + 1, (i : Int)), by dsimp only; omega, .inr ⟨i, rfl, by omega, occ_iff.1 (by assumption), gx0⟩⟩ [0, 1, 7, 8, 11, 12] (by dsimp only; omega) rfl (fun w h => h.pick [0,0] rfl)
       refine g_cond_f rfl (g_skip (g_in_normal (t_ (o_ ?_))))
       refine xg 3 [] rfl (by omega) ?_
       refine n_ ?_
       exact g_again ⟨(i + 1, -1), by dsimp only; omega, .inl ⟨rfl, occ_next gx0 (by assumption)⟩⟩ [0, 1, 7, 8, 11, 12] (by dsimp only; omega) rfl (fun w h => h.pick [0,0] rfl)
      refine g_cond_f rfl (g_exit (g_then_exit (g_then_exit (g_in_exit ?_))))
      exact g_fall (hj ⟨at_, occ_stop gx hcn.1 (fun _ => by omega)⟩) [0, 1, 7, 8, 11] rfl (fun w h => h.pick [0,0] rfl)
     refine xg 8 [] rfl rfl ?_
     refine n_ (t_ (g_cond_f rfl (g_exit (g_then_exit (g_then_exit (g_in_exit ?_))))))
     exact g_fall (hj ⟨at_, occ_stop gx hcn.1 (fun _ => by omega)⟩) [0, 1, 7, 8, 11] rfl (fun w h => h.pick [0,0] rfl)
    intro hj
    refine g_block ?_
    refine g_loop (α := {x : Nat × Bool // x.1 ≤ p.length ∧ (x.2 = true → (1 ≤ p.length ∧ p.length ≤ 20 ∧ l.length ≤ 60) ∧ (∀ m, 0 ≤ m → m < x.1 → plP p m))}) (fun x => [(0, st8 p), (1, st8 l), (7, .pointer (some ⟨b1, 0, none⟩)), (8, .int .i64 ern), (9, .bool x.1.2), (10, .int .i64 (x.1.1 : Int))]) (fun x => St w [] [.cells b1 28 (nC (.mk nk ns nm nx nu (.slice pv nq.length cv) nq)), .forest [(.mk nk ns nm nx nu (.slice pv nq.length cv) nq)]]) (fun x => p.length - x.1.1) ⟨(0, false), Nat.zero_le _, fun h => by cases h⟩ [0, 1, 7, 8, 9, 10] rfl (fun w h => h.pick [0,0] rfl) ?_
    rintro ⟨⟨i, b⟩, gi, gx⟩
    dsimp only
    dsimp only at gi gx
    refine s_ (s_ (o_ ?_))
    refine xg 2 [] rfl rfl ?_
    refine g_val (v := .int .i64 (p.length : Int)) rfl rfl rfl (y_val (y_slen rfl Try.underlying9) (by rw [size_mk])) ?_
    refine xg 2 [0] rfl rfl ?_
    refine g_casep 38 rfl (fun h19 => ?_) fun h19 => ?_
    ·refine xg 2 [] rfl rfl ?_
     refine n_ (t_ ?_)
     refine g_caseb 40 rfl (fun h20 => ?_) fun h20 => ?_
     ·refine g_cond_t rfl (g_skip (t_ (s_ (g_block (o_ ?_)))))
      refine xg 2 [] rfl rfl ?_
      obtain ⟨ch, hch, hch8⟩ := st8_get (l := p) (i := i) (by omega)
      refine g_val rfl rfl rfl (y_sidx (i := i) rfl rfl Try.underlying9 hch8) ?_
      refine xg 2 [0] rfl rfl ?_
      refine g_casep 47 rfl (fun h21 => ?_) fun h21 => ?_
      ·refine xg 2 [] rfl rfl ?_
       refine g_val rfl rfl rfl (y_sidx (i := i) rfl rfl Try.underlying9 hch8) ?_
       refine xg 3 [0] rfl rfl ?_
       refine g_casep 53 rfl (fun h22 => ?_) fun h22 => ?_
       ·refine xg 12 [] rfl rfl ?_
        refine n_ (g_in_normal (t_ (o_ ?_)))
        refine xg 3 [] rfl (by omega) ?_
        refine n_ ?_
        exact g_again ⟨(i + 1, true), by dsimp only; omega, fun _ => ⟨(gx (by assumption)).1, run_more (l := p) (P := plP p) (gx (by assumption)).2 ⟨ch, hch, by omega⟩⟩⟩ [0, 1, 7, 8, 9, 10] (by dsimp only; omega) rfl (fun w h => h.pick [0,0] rfl)
       refine xg 2 [] rfl rfl ?_
       refine g_val rfl rfl rfl (y_sidx (i := i) rfl rfl Try.underlying9 hch8) ?_
       refine xg 2 [0] rfl rfl ?_
       refine g_casep 58 rfl (fun h23 => ?_) fun h23 => ?_
       ·refine xg 2 [] rfl rfl ?_
        refine g_val rfl rfl rfl (y_sidx (i := i) rfl rfl Try.underlying9 hch8) ?_
        refine xg 4 [0] rfl rfl ?_
        refine n_ (g_in_normal (t_ (o_ ?_)))
        refine xg 3 [] rfl (by omega) ?_
        refine n_ ?_
        first | refine g_casep 9 rfl (fun h24 => ?_) (fun h24 => ?_) | refine g_caseb 9 rfl (fun h24 => ?_) (fun h24 => ?_)
        · exact g_again ⟨(i + 1, true), by dsimp only; omega, fun _ => ⟨(gx (by assumption)).1, run_more (l := p) (P := plP p) (gx (by assumption)).2 ⟨ch, hch, by omega⟩⟩⟩ [0, 1, 7, 8, 9, 10] (by dsimp only; omega) rfl (fun w h => h.pick [0,0] rfl)
        · exact g_again ⟨(i + 1, false), by dsimp only; omega, fun h => by cases h⟩ [0, 1, 7, 8, 9, 10] (by dsimp only; omega) rfl (fun w h => h.pick [0,0] rfl)
       refine xg 7 [] rfl rfl ?_
       refine n_ (g_in_normal (t_ (o_ ?_)))
       refine xg 3 [] rfl (by omega) ?_
       refine n_ ?_
       exact g_again ⟨(i + 1, false), by dsimp only; omega, fun h => by cases h⟩ [0, 1, 7, 8, 9, 10] (by dsimp only; omega) rfl (fun w h => h.pick [0,0] rfl)
      refine xg 8 [] rfl rfl ?_
      refine g_val rfl rfl rfl (y_sidx (i := i) rfl rfl Try.underlying9 hch8) ?_
      refine xg 2 [0] rfl rfl ?_
      refine g_casep 58 rfl (fun h25 => ?_) fun h25 => ?_
      ·refine xg 2 [] rfl rfl ?_
       refine g_val rfl rfl rfl (y_sidx (i := i) rfl rfl Try.underlying9 hch8) ?_
       refine xg 4 [0] rfl rfl ?_
       refine n_ (g_in_normal (t_ (o_ ?_)))
       refine xg 3 [] rfl (by omega) ?_
       refine n_ ?_
       first | refine g_casep 9 rfl (fun h26 => ?_) (fun h26 => ?_) | refine g_caseb 9 rfl (fun h26 => ?_) (fun h26 => ?_)
       · exact g_again ⟨(i + 1, true), by dsimp only; omega, fun _ => ⟨(gx (by assumption)).1, run_more (l := p) (P := plP p) (gx (by assumption)).2 ⟨ch, hch, by omega⟩⟩⟩ [0, 1, 7, 8, 9, 10] (by dsimp only; omega) rfl (fun w h => h.pick [0,0] rfl)
       · exact g_again ⟨(i + 1, false), by dsimp only; omega, fun h => by cases h⟩ [0, 1, 7, 8, 9, 10] (by dsimp only; omega) rfl (fun w h => h.pick [0,0] rfl)
      refine xg 7 [] rfl rfl ?_
      refine n_ (g_in_normal (t_ (o_ ?_)))
      refine xg 3 [] rfl (by omega) ?_
      refine n_ ?_
      exact g_again ⟨(i + 1, false), by dsimp only; omega, fun h => by cases h⟩ [0, 1, 7, 8, 9, 10] (by dsimp only; omega) rfl (fun w h => h.pick [0,0] rfl)
     refine g_cond_f rfl (g_exit (g_then_exit (g_then_exit (g_in_exit ?_))))
     exact g_fall (hj ⟨b, fun hb => by first | exact ⟨(gx hb).1, fun m h1 h2 => (gx hb).2 m h1 (by omega)⟩ | (rw [show b = false by assumption] at hb; cases hb)⟩) [0, 1, 7, 8, 9] rfl (fun w h => h.pick [0,0] rfl)
    refine xg 2 [] rfl rfl ?_
    refine n_ (t_ (g_cond_f rfl (g_exit (g_then_exit (g_then_exit (g_in_exit ?_))))))
    exact g_fall (hj ⟨b, fun hb => by first | exact ⟨(gx hb).1, fun m h1 h2 => (gx hb).2 m h1 (by omega)⟩ | (rw [show b = false by assumption] at hb; cases hb)⟩) [0, 1, 7, 8, 9] rfl (fun w h => h.pick [0,0] rfl)
   refine xg 5 [] rfl rfl ?_
   refine n_ (t_ (s_ (s_ (o_ ?_))))
   refine xg 1 [] rfl rfl ?_
   refine n_ (t_ ?_)
   refine g_cutc (α := {x : Bool // x = true → (1 ≤ p.length ∧ p.length ≤ 20 ∧ l.length ≤ 60) ∧ (∀ m, 0 ≤ m → m < p.length → plP p m)}) (fun x => [(0, st8 p), (1, st8 l), (7, .pointer (some ⟨b1, 0, none⟩)), (8, .int .i64 ern), (9, .bool x.1)]) (fun x => [.cells b1 28 (nC (.mk nk ns nm nx nu (.slice pv nq.length cv) nq)), .forest [(.mk nk ns nm nx nu (.slice pv nq.length cv) nq)]]) ?_ ?_
   ·rintro ⟨b, gx⟩
    try dsimp only
    refine t_ (s_ (s_ (o_ ?_)))
    refine xg 2 [] rfl rfl ?_
    refine n_ (t_ ?_)
    first | refine g_casep 66 rfl (fun h27 => ?_) fun h27 => ?_ | refine g_caseb 66 rfl (fun h27 => ?_) fun h27 => ?_
    ·refine g_cond_t rfl (s_ (o_ ?_))
     refine g_call1 rfl rfl rfl Try.call13 (fun w hS => alive_any w (hS.maxHere hz (by simp))) ?_
     refine xg 1 [] rfl rfl ?_
     refine n_ (t_ (g_ret (g_then_ret ?_)))
     refine g_end1 Try.results5 rfl ?_
     exact fun w hS => ⟨rfl, hS.below⟩
    refine g_cond_f rfl (g_skip (t_ (s_ ?_)))
    obtain ⟨hcn, hall⟩ := gx (by simpa using ‹(!b) = false›)
    obtain ⟨h0, hng, htm⟩ := plain_mM hpar (plP_all hall) hcn.1 hcn.2.1
    dsimp only at h0 hng htm
    subst h0
    refine o_ ?_
    refine xg 1 [] rfl rfl ?_
    refine n_ (t_ (s_ (s_ (o_ ?_))))
    refine xg 1 [] rfl rfl ?_
    refine n_ (t_ ?_)
    refine g_cutc (α := {x : Int // (x = -1 ∧ (∀ m, ¬ occ l p m)) ∨ (∃ a : Nat, x = a ∧ a + p.length ≤ l.length ∧ occ l p a ∧ (∀ m, m < a → ¬ occ l p m))}) (fun x => [(0, st8 p), (1, st8 l), (7, .pointer (some ⟨b1, 0, none⟩)), (8, .int .i64 0), (11, .int .i64 x.1)]) (fun x => [.cells b1 28 (nC (.mk nk ns nm nx nu (.slice pv nq.length cv) nq)), .forest [(.mk nk ns nm nx nu (.slice pv nq.length cv) nq)]]) ?_ ?_
    ·rintro ⟨at_, gx⟩
     try dsimp only
     refine t_ (s_ ?_)
     rcases gx with ⟨rfl, hno⟩ | ⟨a, rfl, ha1, ha2, ha3⟩
     ·refine o_ ?_
      refine xg 2 [0] rfl (by omega) ?_
      refine g_c1 (m_find ⟨l, false⟩ (.mk nk ns nm nx nu (.slice pv nq.length cv) nq) 0 (by show l.length ≤ _; omega) (by have := parX_size hpar; dsimp only at this; omega)) (fun w hS => forest_rd hS (i := 1) rfl) rfl rfl rfl ?_
      rw [plain_none htm hno, sp_none]
      refine xg 3 [] rfl rfl ?_
      refine g_alloc rfl rfl Try.zeroValue36 rfl (fun b6 => ?_)
      refine xg 2 [0] rfl (by omega) ?_
      refine n_ (t_ (s_ (s_ (o_ ?_))))
      refine xg 2 [1] rfl (by omega) ?_
      refine n_ (t_ (g_cond_t rfl (s_ (o_ ?_))))
      refine g_call1 rfl rfl rfl Try.call13 (fun w hS => alive_any w (hS.maxHere hz (by simp))) ?_
      refine xg 9 [1] rfl (by omega) ?_
      refine n_ (t_ (g_ret (g_then_ret ?_)))
      refine g_end1 Try.results5 rfl ?_
      exact fun w hS => ⟨rfl, hS.below⟩
     refine o_ ?_
     refine xg 2 [0] rfl (by omega) ?_
     refine g_c1 (m_find ⟨l, false⟩ (.mk nk ns nm nx nu (.slice pv nq.length cv) nq) 0 (by show l.length ≤ _; omega) (by have := parX_size hpar; dsimp only at this; omega)) (fun w hS => forest_rd hS (i := 1) rfl) rfl rfl rfl ?_
     rw [plain_some hng htm hcn.2.2 ha1 ha2 ha3, sp_found]
     refine xg 3 [] rfl rfl ?_
     refine g_alloc rfl rfl Try.zeroValue36 rfl (fun b7 => ?_)
     refine xg 2 [0] rfl (by omega) ?_
     refine n_ (t_ (s_ (s_ (o_ ?_))))
     refine xg 2 [2] rfl (by omega) ?_
     refine n_ (t_ (g_cond_f rfl (g_skip (t_ (s_ (o_ ?_))))))
     refine g_call1 rfl rfl rfl Try.call13 (fun w hS => alive_any w (hS.maxHere hz (by simp))) ?_
     refine xg 20 [1,0,1,0] rfl (by omega) ?_
     refine g_val (v := .int .i64 (p.length : Int)) rfl rfl rfl (y_val (y_slen rfl Try.underlying9) (by rw [size_mk])) ?_
     refine xg 10 [1,0,1] rfl (by omega) ?_
     refine n_ (t_ (g_ret ?_))
     refine g_end1 Try.results5 rfl ?_
     exact fun w hS => ⟨rfl, hS.below⟩
    intro hj
    refine g_block ?_
    refine g_loop (α := {x : Nat × Int // x.1 ≤ l.length + 1 ∧ ((x.2 = -1 ∧ (∀ m, m < x.1 → ¬ occ l p m)) ∨ (∃ a : Nat, x.2 = a ∧ a + p.length ≤ l.length ∧ occ l p a ∧ (∀ m, m < a → ¬ occ l p m)))}) (fun x => [(0, st8 p), (1, st8 l), (7, .pointer (some ⟨b1, 0, none⟩)), (8, .int .i64 0), (11, .int .i64 x.1.2), (12, .int .i64 (x.1.1 : Int))]) (fun x => St w [] [.cells b1 28 (nC (.mk nk ns nm nx nu (.slice pv nq.length cv) nq)), .forest [(.mk nk ns nm nx nu (.slice pv nq.length cv) nq)]]) (fun x => l.length + 1 - x.1.1) ⟨(0, -1), Nat.zero_le _, .inl ⟨rfl, fun m h => by omega⟩⟩ [0, 1, 7, 8, 11, 12] rfl (fun w h => h.pick [0,0] rfl) ?_
    rintro ⟨⟨i, at_⟩, gi, gx⟩
    dsimp only
    dsimp only at gi gx
    refine s_ (s_ (o_ ?_))
    refine xg 3 [0] rfl rfl ?_
    refine g_casep 70 rfl (fun h28 => ?_) fun h28 => ?_
    ·refine xg 2 [] rfl rfl ?_
     refine g_val (v := .int .i64 (p.length : Int)) rfl rfl rfl (y_val (y_slen rfl Try.underlying9) (by rw [size_mk])) ?_
     refine xg 2 [] rfl (by omega) ?_
     refine g_val (v := .int .i64 (l.length : Int)) rfl rfl rfl (y_val (y_slen rfl Try.underlying9) (by rw [size_mk])) ?_
     refine xg 2 [0] rfl rfl ?_
     refine n_ (t_ ?_)
     refine g_casep 78 rfl (fun h29 => ?_) fun h29 => ?_
     ·refine g_cond_t rfl (g_skip (t_ (s_ (g_block (s_ ?_)))))
      obtain ⟨rfl, gx0⟩ := occ_at gx (by omega)
      refine o_ ?_
      refine xg 4 [] rfl rfl ?_
      refine g_val (v := .int .i64 (p.length : Int)) rfl rfl rfl (y_val (y_slen rfl Try.underlying9) (by rw [size_mk])) ?_
      refine xg 4 [] rfl (by omega) ?_
      refine n_ (t_ ?_)
      refine g_casep 89 rfl (fun h30 => ?_) fun h30 => ?_
      ·refine g_cond_t rfl (o_ ?_)
       refine xg 2 [] rfl rfl ?_
       refine n_ (g_in_normal (t_ (o_ ?_)))
       refine xg 3 [] rfl (by omega) ?_
       refine n_ ?_
       exact g_again ⟨(i + 1, (i : Int)), by dsimp only; omega, .inr ⟨i, rfl, by omega, occ_iff.1 (by assumption), gx0⟩⟩ [0, 1, 7, 8, 11, 12] (by dsimp only; omega) rfl (fun w h => h.pick [0,0] rfl)
      refine g_cond_f rfl (g_skip (g_in_normal (t_ (o_ ?_))))
      refine xg 3 [] rfl (by omega) ?_
      refine n_ ?_
      exact g_again ⟨(i + 1, -1), by dsimp only; omega, .inl ⟨rfl, occ_next gx0 (by assumption)⟩⟩ [0, 1, 7, 8, 11, 12] (by dsimp only; omega) rfl (fun w h => h.pick [0,0] rfl)
     refine g_cond_f rfl (g_exit (g_then_exit (g_then_exit (g_in_exit ?_))))
     exact g_fall (hj ⟨at_, occ_stop gx hcn.1 (fun _ => by omega)⟩) [0, 1, 7, 8, 11] rfl (fun w h => h.pick [0,0] rfl)
    refine xg 8 [] rfl rfl ?_
    refine n_ (t_ (g_cond_f rfl (g_exit (g_then_exit (g_then_exit (g_in_exit ?_))))))
    exact g_fall (hj ⟨at_, occ_stop gx hcn.1 (fun _ => by omega)⟩) [0, 1, 7, 8, 11] rfl (fun w h => h.pick [0,0] rfl)
   intro hj
   refine g_block ?_
   refine g_loop (α := {x : Nat × Bool // x.1 ≤ p.length ∧ (x.2 = true → (1 ≤ p.length ∧ p.length ≤ 20 ∧ l.length ≤ 60) ∧ (∀ m, 0 ≤ m → m < x.1 → plP p m))}) (fun x => [(0, st8 p), (1, st8 l), (7, .pointer (some ⟨b1, 0, none⟩)), (8, .int .i64 ern), (9, .bool x.1.2), (10, .int .i64 (x.1.1 : Int))]) (fun x => St w [] [.cells b1 28 (nC (.mk nk ns nm nx nu (.slice pv nq.length cv) nq)), .forest [(.mk nk ns nm nx nu (.slice pv nq.length cv) nq)]]) (fun x => p.length - x.1.1) ⟨(0, false), Nat.zero_le _, fun h => by cases h⟩ [0, 1, 7, 8, 9, 10] rfl (fun w h => h.pick [0,0] rfl) ?_
   rintro ⟨⟨i, b⟩, gi, gx⟩
   dsimp only
   dsimp only at gi gx
   refine s_ (s_ (o_ ?_))
   refine xg 2 [] rfl rfl ?_
   refine g_val (v := .int .i64 (p.length : Int)) rfl rfl rfl (y_val (y_slen rfl Try.underlying9) (by rw [size_mk])) ?_
   refine xg 2 [0] rfl rfl ?_
   refine g_casep 38 rfl (fun h31 => ?_) fun h31 => ?_
   ·refine xg 2 [] rfl rfl ?_
    refine n_ (t_ ?_)
    refine g_caseb 40 rfl (fun h32 => ?_) fun h32 => ?_
    ·refine g_cond_t rfl (g_skip (t_ (s_ (g_block (o_ ?_)))))
     refine xg 2 [] rfl rfl ?_
     obtain ⟨ch, hch, hch8⟩ := st8_get (l := p) (i := i) (by omega)
     refine g_val rfl rfl rfl (y_sidx (i := i) rfl rfl Try.underlying9 hch8) ?_
     refine xg 2 [0] rfl rfl ?_
     refine g_casep 47 rfl (fun h33 => ?_) fun h33 => ?_
     ·refine xg 2 [] rfl rfl ?_
      refine g_val rfl rfl rfl (y_sidx (i := i) rfl rfl Try.underlying9 hch8) ?_
      refine xg 3 [0] rfl rfl ?_
      refine g_casep 53 rfl (fun h34 => ?_) fun h34 => ?_
      ·refine xg 12 [] rfl rfl ?_
       refine n_ (g_in_normal (t_ (o_ ?_)))
       refine xg 3 [] rfl (by omega) ?_
       refine n_ ?_
       exact g_again ⟨(i + 1, true), by dsimp only; omega, fun _ => ⟨(gx (by assumption)).1, run_more (l := p) (P := plP p) (gx (by assumption)).2 ⟨ch, hch, by omega⟩⟩⟩ [0, 1, 7, 8, 9, 10] (by dsimp only; omega) rfl (fun w h => h.pick [0,0] rfl)
      refine xg 2 [] rfl rfl ?_
      refine g_val rfl rfl rfl (y_sidx (i := i) rfl rfl Try.underlying9 hch8) ?_
      refine xg 2 [0] rfl rfl ?_
      refine g_casep 58 rfl (fun h35 => ?_) fun h35 => ?_
      ·refine xg 2 [] rfl rfl ?_
       refine g_val rfl rfl rfl (y_sidx (i := i) rfl rfl Try.underlying9 hch8) ?_
       refine xg 4 [0] rfl rfl ?_
       refine n_ (g_in_normal (t_ (o_ ?_)))
       refine xg 3 [] rfl (by omega) ?_
       refine n_ ?_
       first | refine g_casep 9 rfl (fun h36 => ?_) (fun h36 => ?_) | refine g_caseb 9 rfl (fun h36 => ?_) (fun h36 => ?_)
       · exact g_again ⟨(i + 1, true), by dsimp only; omega, fun _ => ⟨(gx (by assumption)).1, run_more (l := p) (P := plP p) (gx (by assumption)).2 ⟨ch, hch, by omega⟩⟩⟩ [0, 1, 7, 8, 9, 10] (by dsimp only; omega) rfl (fun w h => h.pick [0,0] rfl)
       · exact g_again ⟨(i + 1, false), by dsimp only; omega, fun h => by cases h⟩ [0, 1, 7, 8, 9, 10] (by dsimp only; omega) rfl (fun w h => h.pick [0,0] rfl)
      refine xg 7 [] rfl rfl ?_
      refine n_ (g_in_normal (t_ (o_ ?_)))
      refine xg 3 [] rfl (by omega) ?_
      refine n_ ?_
      exact g_again ⟨(i + 1, false), by dsimp only; omega, fun h => by cases h⟩ [0, 1, 7, 8, 9, 10] (by dsimp only; omega) rfl (fun w h => h.pick [0,0] rfl)
     refine xg 8 [] rfl rfl ?_
     refine g_val rfl rfl rfl (y_sidx (i := i) rfl rfl Try.underlying9 hch8) ?_
     refine xg 2 [0] rfl rfl ?_
     refine g_casep 58 rfl (fun h37 => ?_) fun h37 => ?_
     ·refine xg 2 [] rfl rfl ?_
      refine g_val rfl rfl rfl (y_sidx (i := i) rfl rfl Try.underlying9 hch8) ?_
      refine xg 4 [0] rfl rfl ?_
      refine n_ (g_in_normal (t_ (o_ ?_)))
      refine xg 3 [] rfl (by omega) ?_
      refine n_ ?_
      first | refine g_casep 9 rfl (fun h38 => ?_) (fun h38 => ?_) | refine g_caseb 9 rfl (fun h38 => ?_) (fun h38 => ?_)
      · exact g_again ⟨(i + 1, true), by dsimp only; omega, fun _ => ⟨(gx (by assumption)).1, run_more (l := p) (P := plP p) (gx (by assumption)).2 ⟨ch, hch, by omega⟩⟩⟩ [0, 1, 7, 8, 9, 10] (by dsimp only; omega) rfl (fun w h => h.pick [0,0] rfl)
      · exact g_again ⟨(i + 1, false), by dsimp only; omega, fun h => by cases h⟩ [0, 1, 7, 8, 9, 10] (by dsimp only; omega) rfl (fun w h => h.pick [0,0] rfl)
     refine xg 7 [] rfl rfl ?_
     refine n_ (g_in_normal (t_ (o_ ?_)))
     refine xg 3 [] rfl (by omega) ?_
     refine n_ ?_
     exact g_again ⟨(i + 1, false), by dsimp only; omega, fun h => by cases h⟩ [0, 1, 7, 8, 9, 10] (by dsimp only; omega) rfl (fun w h => h.pick [0,0] rfl)
    refine g_cond_f rfl (g_exit (g_then_exit (g_then_exit (g_in_exit ?_))))
    exact g_fall (hj ⟨b, fun hb => by first | exact ⟨(gx hb).1, fun m h1 h2 => (gx hb).2 m h1 (by omega)⟩ | (rw [show b = false by assumption] at hb; cases hb)⟩) [0, 1, 7, 8, 9] rfl (fun w h => h.pick [0,0] rfl)
   refine xg 2 [] rfl rfl ?_
   refine n_ (t_ (g_cond_f rfl (g_exit (g_then_exit (g_then_exit (g_in_exit ?_))))))
   exact g_fall (hj ⟨b, fun hb => by first | exact ⟨(gx hb).1, fun m h1 h2 => (gx hb).2 m h1 (by omega)⟩ | (rw [show b = false by assumption] at hb; cases hb)⟩) [0, 1, 7, 8, 9] rfl (fun w h => h.pick [0,0] rfl)
  refine xg 10 [] rfl rfl ?_
  refine n_ (t_ (s_ (s_ (o_ ?_))))
  refine xg 1 [] rfl rfl ?_
  refine n_ (t_ ?_)
  refine g_cutc (α := {x : Bool // x = true → (1 ≤ p.length ∧ p.length ≤ 20 ∧ l.length ≤ 60) ∧ (∀ m, 0 ≤ m → m < p.length → plP p m)}) (fun x => [(0, st8 p), (1, st8 l), (7, .pointer (some ⟨b1, 0, none⟩)), (8, .int .i64 ern), (9, .bool x.1)]) (fun x => [.cells b1 28 (nC (.mk nk ns nm nx nu (.slice pv nq.length cv) nq)), .forest [(.mk nk ns nm nx nu (.slice pv nq.length cv) nq)]]) ?_ ?_
  ·rintro ⟨b, gx⟩
   try dsimp only
   refine t_ (s_ (s_ (o_ ?_)))
   refine xg 2 [] rfl rfl ?_
   refine n_ (t_ ?_)
   first | refine g_casep 66 rfl (fun h39 => ?_) fun h39 => ?_ | refine g_caseb 66 rfl (fun h39 => ?_) fun h39 => ?_
   ·refine g_cond_t rfl (s_ (o_ ?_))
    refine g_call1 rfl rfl rfl Try.call13 (fun w hS => alive_any w (hS.maxHere hz (by simp))) ?_
    refine xg 1 [] rfl rfl ?_
    refine n_ (t_ (g_ret (g_then_ret ?_)))
    refine g_end1 Try.results5 rfl ?_
    exact fun w hS => ⟨rfl, hS.below⟩
   refine g_cond_f rfl (g_skip (t_ (s_ ?_)))
   obtain ⟨hcn, hall⟩ := gx (by simpa using ‹(!b) = false›)
   obtain ⟨h0, hng, htm⟩ := plain_mM hpar (plP_all hall) hcn.1 hcn.2.1
   dsimp only at h0 hng htm
   subst h0
   refine o_ ?_
   refine xg 1 [] rfl rfl ?_
   refine n_ (t_ (s_ (s_ (o_ ?_))))
   refine xg 1 [] rfl rfl ?_
   refine n_ (t_ ?_)
   refine g_cutc (α := {x : Int // (x = -1 ∧ (∀ m, ¬ occ l p m)) ∨ (∃ a : Nat, x = a ∧ a + p.length ≤ l.length ∧ occ l p a ∧ (∀ m, m < a → ¬ occ l p m))}) (fun x => [(0, st8 p), (1, st8 l), (7, .pointer (some ⟨b1, 0, none⟩)), (8, .int .i64 0), (11, .int .i64 x.1)]) (fun x => [.cells b1 28 (nC (.mk nk ns nm nx nu (.slice pv nq.length cv) nq)), .forest [(.mk nk ns nm nx nu (.slice pv nq.length cv) nq)]]) ?_ ?_
   ·rintro ⟨at_, gx⟩
    try dsimp only
    refine t_ (s_ ?_)
    rcases gx with ⟨rfl, hno⟩ | ⟨a, rfl, ha1, ha2, ha3⟩
    ·refine o_ ?_
     refine xg 2 [0] rfl (by omega) ?_
     refine g_c1 (m_find ⟨l, false⟩ (.mk nk ns nm nx nu (.slice pv nq.length cv) nq) 0 (by show l.length ≤ _; omega) (by have := parX_size hpar; dsimp only at this; omega)) (fun w hS => forest_rd hS (i := 1) rfl) rfl rfl rfl ?_
     rw [plain_none htm hno, sp_none]
     refine xg 3 [] rfl rfl ?_
     refine g_alloc rfl rfl Try.zeroValue36 rfl (fun b8 => ?_)
     refine xg 2 [0] rfl (by omega) ?_
     refine n_ (t_ (s_ (s_ (o_ ?_))))
     refine xg 2 [1] rfl (by omega) ?_
     refine n_ (t_ (g_cond_t rfl (s_ (o_ ?_))))
     refine g_call1 rfl rfl rfl Try.call13 (fun w hS => alive_any w (hS.maxHere hz (by simp))) ?_
     refine xg 9 [1] rfl (by omega) ?_
     refine n_ (t_ (g_ret (g_then_ret ?_)))
     refine g_end1 Try.results5 rfl ?_
     exact fun w hS => ⟨rfl, hS.below⟩
    refine o_ ?_
    refine xg 2 [0] rfl (by omega) ?_
    refine g_c1 (m_find ⟨l, false⟩ (.mk nk ns nm nx nu (.slice pv nq.length cv) nq) 0 (by show l.length ≤ _; omega) (by have := parX_size hpar; dsimp only at this; omega)) (fun w hS => forest_rd hS (i := 1) rfl) rfl rfl rfl ?_
    rw [plain_some hng htm hcn.2.2 ha1 ha2 ha3, sp_found]
    refine xg 3 [] rfl rfl ?_
    refine g_alloc rfl rfl Try.zeroValue36 rfl (fun b9 => ?_)
    refine xg 2 [0] rfl (by omega) ?_
    refine n_ (t_ (s_ (s_ (o_ ?_))))
    refine xg 2 [2] rfl (by omega) ?_
    refine n_ (t_ (g_cond_f rfl (g_skip (t_ (s_ (o_ ?_))))))
    refine g_call1 rfl rfl rfl Try.call13 (fun w hS => alive_any w (hS.maxHere hz (by simp))) ?_
    refine xg 20 [1,0,1,0] rfl (by omega) ?_
    refine g_val (v := .int .i64 (p.length : Int)) rfl rfl rfl (y_val (y_slen rfl Try.underlying9) (by rw [size_mk])) ?_
    refine xg 10 [1,0,1] rfl (by omega) ?_
    refine n_ (t_ (g_ret ?_))
    refine g_end1 Try.results5 rfl ?_
    exact fun w hS => ⟨rfl, hS.below⟩
   intro hj
   refine g_block ?_
   refine g_loop (α := {x : Nat × Int // x.1 ≤ l.length + 1 ∧ ((x.2 = -1 ∧ (∀ m, m < x.1 → ¬ occ l p m)) ∨ (∃ a : Nat, x.2 = a ∧ a + p.length ≤ l.length ∧ occ l p a ∧ (∀ m, m < a → ¬ occ l p m)))}) (fun x => [(0, st8 p), (1, st8 l), (7, .pointer (some ⟨b1, 0, none⟩)), (8, .int .i64 0), (11, .int .i64 x.1.2), (12, .int .i64 (x.1.1 : Int))]) (fun x => St w [] [.cells b1 28 (nC (.mk nk ns nm nx nu (.slice pv nq.length cv) nq)), .forest [(.mk nk ns nm nx nu (.slice pv nq.length cv) nq)]]) (fun x => l.length + 1 - x.1.1) ⟨(0, -1), Nat.zero_le _, .inl ⟨rfl, fun m h => by omega⟩⟩ [0, 1, 7, 8, 11, 12] rfl (fun w h => h.pick [0,0] rfl) ?_
   rintro ⟨⟨i, at_⟩, gi, gx⟩
   dsimp only
   dsimp only at gi gx
   refine s_ (s_ (o_ ?_))
   refine xg 3 [0] rfl rfl ?_
   refine g_casep 70 rfl (fun h40 => ?_) fun h40 => ?_
   ·refine xg 2 [] rfl rfl ?_
    refine g_val (v := .int .i64 (p.length : Int)) rfl rfl rfl (y_val (y_slen rfl Try.underlying9) (by rw [size_mk])) ?_
    refine xg 2 [] rfl (by omega) ?_
    refine g_val (v := .int .i64 (l.length : Int)) rfl rfl rfl (y_val (y_slen rfl Try.underlying9) (by rw [size_mk])) ?_
    refine xg 2 [0] rfl rfl ?_
    refine n_ (t_ ?_)
    refine g_casep 78 rfl (fun h41 => ?_) fun h41 => ?_
    ·refine g_cond_t rfl (g_skip (t_ (s_ (g_block (s_ ?_)))))
     obtain ⟨rfl, gx0⟩ := occ_at gx (by omega)
     refine o_ ?_
     refine xg 4 [] rfl rfl ?_
     refine g_val (v := .int .i64 (p.length : Int)) rfl rfl rfl (y_val (y_slen rfl Try.underlying9) (by rw [size_mk])) ?_
     refine xg 4 [] rfl (by omega) ?_
     refine n_ (t_ ?_)
     refine g_casep 89 rfl (fun h42 => ?_) fun h42 => ?_
     ·refine g_cond_t rfl (o_ ?_)
      refine xg 2 [] rfl rfl ?_
      refine n_ (g_in_normal (t_ (o_ ?_)))
      refine xg 3 [] rfl (by omega) ?_
      refine n_ ?_
      exact g_again ⟨(i + 1, (i : Int)), by dsimp only; omega, .inr ⟨i, rfl, by omega, occ_iff.1 (by assumption), gx0⟩⟩ [0, 1, 7, 8, 11, 12] (by dsimp only; omega) rfl (fun w h => h.pick [0,0] rfl)
     refine g_cond_f rfl (g_skip (g_in_normal (t_ (o_ ?_))))
     refine xg 3 [] rfl (by omega) ?_
     refine n_ ?_
     exact g_again ⟨(i + 1, -1), by dsimp only; omega, .inl ⟨rfl, occ_next gx0 (by assumption)⟩⟩ [0, 1, 7, 8, 11, 12] (by dsimp only; omega) rfl (fun w h => h.pick [0,0] rfl)
    refine g_cond_f rfl (g_exit (g_then_exit (g_then_exit (g_in_exit ?_))))
    exact g_fall (hj ⟨at_, occ_stop gx hcn.1 (fun _ => by omega)⟩) [0, 1, 7, 8, 11] rfl (fun w h => h.pick [0,0] rfl)
   refine xg 8 [] rfl rfl ?_
   refine n_ (t_ (g_cond_f rfl (g_exit (g_then_exit (g_then_exit (g_in_exit ?_))))))
   exact g_fall (hj ⟨at_, occ_stop gx hcn.1 (fun _ => by omega)⟩) [0, 1, 7, 8, 11] rfl (fun w h => h.pick [0,0] rfl)
  intro hj
  refine g_block ?_
  refine g_loop (α := {x : Nat × Bool // x.1 ≤ p.length ∧ (x.2 = true → (1 ≤ p.length ∧ p.length ≤ 20 ∧ l.length ≤ 60) ∧ (∀ m, 0 ≤ m → m < x.1 → plP p m))}) (fun x => [(0, st8 p), (1, st8 l), (7, .pointer (some ⟨b1, 0, none⟩)), (8, .int .i64 ern), (9, .bool x.1.2), (10, .int .i64 (x.1.1 : Int))]) (fun x => St w [] [.cells b1 28 (nC (.mk nk ns nm nx nu (.slice pv nq.length cv) nq)), .forest [(.mk nk ns nm nx nu (.slice pv nq.length cv) nq)]]) (fun x => p.length - x.1.1) ⟨(0, false), Nat.zero_le _, fun h => by cases h⟩ [0, 1, 7, 8, 9, 10] rfl (fun w h => h.pick [0,0] rfl) ?_
  rintro ⟨⟨i, b⟩, gi, gx⟩
  dsimp only
  dsimp only at gi gx
  refine s_ (s_ (o_ ?_))
  refine xg 2 [] rfl rfl ?_
  refine g_val (v := .int .i64 (p.length : Int)) rfl rfl rfl (y_val (y_slen rfl Try.underlying9) (by rw [size_mk])) ?_
  refine xg 2 [0] rfl rfl ?_
  refine g_casep 38 rfl (fun h43 => ?_) fun h43 => ?_
  ·refine xg 2 [] rfl rfl ?_
   refine n_ (t_ ?_)
   refine g_caseb 40 rfl (fun h44 => ?_) fun h44 => ?_
   ·refine g_cond_t rfl (g_skip (t_ (s_ (g_block (o_ ?_)))))
    refine xg 2 [] rfl rfl ?_
    obtain ⟨ch, hch, hch8⟩ := st8_get (l := p) (i := i) (by omega)
    refine g_val rfl rfl rfl (y_sidx (i := i) rfl rfl Try.underlying9 hch8) ?_
    refine xg 2 [0] rfl rfl ?_
    refine g_casep 47 rfl (fun h45 => ?_) fun h45 => ?_
    ·refine xg 2 [] rfl rfl ?_
     refine g_val rfl rfl rfl (y_sidx (i := i) rfl rfl Try.underlying9 hch8) ?_
     refine xg 3 [0] rfl rfl ?_
     refine g_casep 53 rfl (fun h46 => ?_) fun h46 => ?_
     ·refine xg 12 [] rfl rfl ?_
      refine n_ (g_in_normal (t_ (o_ ?_)))
      refine xg 3 [] rfl (by omega) ?_
      refine n_ ?_
      exact g_again ⟨(i + 1, true), by dsimp only; omega, fun _ => ⟨(gx (by assumption)).1, run_more (l := p) (P := plP p) (gx (by assumption)).2 ⟨ch, hch, by omega⟩⟩⟩ [0, 1, 7, 8, 9, 10] (by dsimp only; omega) rfl (fun w h => h.pick [0,0] rfl)
     refine xg 2 [] rfl rfl ?_
     refine g_val rfl rfl rfl (y_sidx (i := i) rfl rfl Try.underlying9 hch8) ?_
     refine xg 2 [0] rfl rfl ?_
     refine g_casep 58 rfl (fun h47 => ?_) fun h47 => ?_
     ·refine xg 2 [] rfl rfl ?_
      refine g_val rfl rfl rfl (y_sidx (i := i) rfl rfl Try.underlying9 hch8) ?_
      refine xg 4 [0] rfl rfl ?_
      refine n_ (g_in_normal (t_ (o_ ?_)))
      refine xg 3 [] rfl (by omega) ?_
      refine n_ ?_
      first | refine g_casep 9 rfl (fun h48 => ?_) (fun h48 => ?_) | refine g_caseb 9 rfl (fun h48 => ?_) (fun h48 => ?_)
      · exact g_again ⟨(i + 1, true), by dsimp only; omega, fun _ => ⟨(gx (by assumption)).1, run_more (l := p) (P := plP p) (gx (by assumption)).2 ⟨ch, hch, by omega⟩⟩⟩ [0, 1, 7, 8, 9, 10] (by dsimp only; omega) rfl (fun w h => h.pick [0,0] rfl)
      · exact g_again ⟨(i + 1, false), by dsimp only; omega, fun h => by cases h⟩ [0, 1, 7, 8, 9, 10] (by dsimp only; omega) rfl (fun w h => h.pick [0,0] rfl)
     refine xg 7 [] rfl rfl ?_
     refine n_ (g_in_normal (t_ (o_ ?_)))
     refine xg 3 [] rfl (by omega) ?_
     refine n_ ?_
     exact g_again ⟨(i + 1, false), by dsimp only; omega, fun h => by cases h⟩ [0, 1, 7, 8, 9, 10] (by dsimp only; omega) rfl (fun w h => h.pick [0,0] rfl)
    refine xg 8 [] rfl rfl ?_
    refine g_val rfl rfl rfl (y_sidx (i := i) rfl rfl Try.underlying9 hch8) ?_
    refine xg 2 [0] rfl rfl ?_
    refine g_casep 58 rfl (fun h49 => ?_) fun h49 => ?_
    ·refine xg 2 [] rfl rfl ?_
     refine g_val rfl rfl rfl (y_sidx (i := i) rfl rfl Try.underlying9 hch8) ?_
     refine xg 4 [0] rfl rfl ?_
     refine n_ (g_in_normal (t_ (o_ ?_)))
     refine xg 3 [] rfl (by omega) ?_
     refine n_ ?_
     first | refine g_casep 9 rfl (fun h50 => ?_) (fun h50 => ?_) | refine g_caseb 9 rfl (fun h50 => ?_) (fun h50 => ?_)
     · exact g_again ⟨(i + 1, true), by dsimp only; omega, fun _ => ⟨(gx (by assumption)).1, run_more (l := p) (P := plP p) (gx (by assumption)).2 ⟨ch, hch, by omega⟩⟩⟩ [0, 1, 7, 8, 9, 10] (by dsimp only; omega) rfl (fun w h => h.pick [0,0] rfl)
     · exact g_again ⟨(i + 1, false), by dsimp only; omega, fun h => by cases h⟩ [0, 1, 7, 8, 9, 10] (by dsimp only; omega) rfl (fun w h => h.pick [0,0] rfl)
    refine xg 7 [] rfl rfl ?_
    refine n_ (g_in_normal (t_ (o_ ?_)))
    refine xg 3 [] rfl (by omega) ?_
    refine n_ ?_
    exact g_again ⟨(i + 1, false), by dsimp only; omega, fun h => by cases h⟩ [0, 1, 7, 8, 9, 10] (by dsimp only; omega) rfl (fun w h => h.pick [0,0] rfl)
   refine g_cond_f rfl (g_exit (g_then_exit (g_then_exit (g_in_exit ?_))))
   exact g_fall (hj ⟨b, fun hb => by first | exact ⟨(gx hb).1, fun m h1 h2 => (gx hb).2 m h1 (by omega)⟩ | (rw [show b = false by assumption] at hb; cases hb)⟩) [0, 1, 7, 8, 9] rfl (fun w h => h.pick [0,0] rfl)
  refine xg 2 [] rfl rfl ?_
  refine n_ (t_ (g_cond_f rfl (g_exit (g_then_exit (g_then_exit (g_in_exit ?_))))))
  exact g_fall (hj ⟨b, fun hb => by first | exact ⟨(gx hb).1, fun m h1 h2 => (gx hb).2 m h1 (by omega)⟩ | (rw [show b = false by assumption] at hb; cases hb)⟩) [0, 1, 7, 8, 9] rfl (fun w h => h.pick [0,0] rfl)
 refine o_ ?_
 refine xg 1 [] rfl rfl ?_
 refine ntso_ ?_
 refine xg 2 [] rfl rfl ?_
 refine g_callNew (fun x : {x : MT × Int // parX true p x} => .tuple #[.agg (nC x.1.1).toArray, .int .i64 x.1.2]) (fun x => [.forest [x.1.1]]) rfl rfl rfl Try.call16 (fun w hS => parse_xe p w (hS.maxHere hz (by simp))) ?_
 rintro ⟨⟨t, ern⟩, hpar⟩
 obtain ⟨nk, ns, nm, nx, nu, nv, nq⟩ := t
 refine g_kids 0 rfl (fun pv cv hv => ?_)
 cases hv
 dsimp only
 simp only [List.cons_append, List.nil_append]
 refine xg 3 [] rfl rfl ?_
 refine g_alloc rfl rfl Try.zeroValue28 rfl (fun b1 => ?_)
 refine xg 2 [0] rfl (by omega) ?_
 refine ntso_ ?_
 refine xg 1 [] rfl rfl ?_
 refine g_val (v := .int .i64 (p.length : Int)) rfl rfl rfl (y_val (y_slen rfl Try.underlying9) (by rw [size_mk])) ?_
 refine xg 2 [0] rfl rfl ?_
 refine g_casep 24 rfl (fun h51 => ?_) fun h51 => ?_
 ·refine xg 1 [] rfl rfl ?_
  refine g_val (v := .int .i64 (p.length : Int)) rfl rfl rfl (y_val (y_slen rfl Try.underlying9) (by rw [size_mk])) ?_
  refine xg 3 [0] rfl rfl ?_
  refine g_casep 29 rfl (fun h52 => ?_) fun h52 => ?_
  ·refine xg 1 [] rfl rfl ?_
   refine g_val (v := .int .i64 (l.length : Int)) rfl rfl rfl (y_val (y_slen rfl Try.underlying9) (by rw [size_mk])) ?_
   refine xg 3 [0] rfl rfl ?_
   refine n_ (t_ (s_ (s_ ?_)))
   refine g_casep 9 rfl (fun h9 => ?_) fun h9 => ?_
   ·refine o_ ?_
    refine xg 1 [] rfl rfl ?_
    refine n_ (t_ ?_)
    refine g_cutc (α := {x : Bool // x = true → (1 ≤ p.length ∧ p.length ≤ 20 ∧ l.length ≤ 60) ∧ (∀ m, 0 ≤ m → m < p.length → plP p m)}) (fun x => [(0, st8 p), (1, st8 l), (7, .pointer (some ⟨b1, 0, none⟩)), (8, .int .i64 ern), (9, .bool x.1)]) (fun x => [.cells b1 28 (nC (.mk nk ns nm nx nu (.slice pv nq.length cv) nq)), .forest [(.mk nk ns nm nx nu (.slice pv nq.length cv) nq)]]) ?_ ?_
    ·rintro ⟨b, gx⟩
     try dsimp only
     refine t_ (s_ (s_ (o_ ?_)))
     refine xg 2 [] rfl rfl ?_
     refine n_ (t_ ?_)
     first | refine g_casep 66 rfl (fun h53 => ?_) fun h53 => ?_ | refine g_caseb 66 rfl (fun h53 => ?_) fun h53 => ?_
     ·refine g_cond_t rfl (s_ (o_ ?_))
      refine g_call1 rfl rfl rfl Try.call13 (fun w hS => alive_any w (hS.maxHere hz (by simp))) ?_
      refine xg 1 [] rfl rfl ?_
      refine n_ (t_ (g_ret (g_then_ret ?_)))
      refine g_end1 Try.results5 rfl ?_
      exact fun w hS => ⟨rfl, hS.below⟩
     refine g_cond_f rfl (g_skip (t_ (s_ ?_)))
     obtain ⟨hcn, hall⟩ := gx (by simpa using ‹(!b) = false›)
     obtain ⟨h0, hng, htm⟩ := plain_mM hpar (plP_all hall) hcn.1 hcn.2.1
     dsimp only at h0 hng htm
     subst h0
     refine o_ ?_
     refine xg 1 [] rfl rfl ?_
     refine n_ (t_ (s_ (s_ (o_ ?_))))
     refine xg 1 [] rfl rfl ?_
     refine n_ (t_ ?_)
     refine g_cutc (α := {x : Int // (x = -1 ∧ (∀ m, ¬ occ l p m)) ∨ (∃ a : Nat, x = a ∧ a + p.length ≤ l.length ∧ occ l p a ∧ (∀ m, m < a → ¬ occ l p m))}) (fun x => [(0, st8 p), (1, st8 l), (7, .pointer (some ⟨b1, 0, none⟩)), (8, .int .i64 0), (11, .int .i64 x.1)]) (fun x => [.cells b1 28 (nC (.mk nk ns nm nx nu (.slice pv nq.length cv) nq)), .forest [(.mk nk ns nm nx nu (.slice pv nq.length cv) nq)]]) ?_ ?_
     ·rintro ⟨at_, gx⟩
      try dsimp only
      refine t_ (s_ ?_)
      rcases gx with ⟨rfl, hno⟩ | ⟨a, rfl, ha1, ha2, ha3⟩
      ·refine o_ ?_
       refine xg 2 [0] rfl (by omega) ?_
       refine g_c1 (m_find ⟨l, false⟩ (.mk nk ns nm nx nu (.slice pv nq.length cv) nq) 0 (by show l.length ≤ _; omega) (by have := parX_size hpar; dsimp only at this; omega)) (fun w hS => forest_rd hS (i := 1) rfl) rfl rfl rfl ?_
       rw [plain_none htm hno, sp_none]
       refine xg 3 [] rfl rfl ?_
       refine g_alloc rfl rfl Try.zeroValue36 rfl (fun b11 => ?_)
       refine xg 2 [0] rfl (by omega) ?_
       refine n_ (t_ (s_ (s_ (o_ ?_))))
       refine xg 2 [1] rfl (by omega) ?_
       refine n_ (t_ (g_cond_t rfl (s_ (o_ ?_))))
       refine g_call1 rfl rfl rfl Try.call13 (fun w hS => alive_any w (hS.maxHere hz (by simp))) ?_
       refine xg 9 [1] rfl (by omega) ?_
       refine n_ (t_ (g_ret (g_then_ret ?_)))
       refine g_end1 Try.results5 rfl ?_
       exact fun w hS => ⟨rfl, hS.below⟩
      refine o_ ?_
      refine xg 2 [0] rfl (by omega) ?_
      refine g_c1 (m_find ⟨l, false⟩ (.mk nk ns nm nx nu (.slice pv nq.length cv) nq) 0 (by show l.length ≤ _; omega) (by have := parX_size hpar; dsimp only at this; omega)) (fun w hS => forest_rd hS (i := 1) rfl) rfl rfl rfl ?_
      rw [plain_some hng htm hcn.2.2 ha1 ha2 ha3, sp_found]
      refine xg 3 [] rfl rfl ?_
      refine g_alloc rfl rfl Try.zeroValue36 rfl (fun b12 => ?_)
      refine xg 2 [0] rfl (by omega) ?_
      refine n_ (t_ (s_ (s_ (o_ ?_))))
      refine xg 2 [2] rfl (by omega) ?_
      refine n_ (t_ (g_cond_f rfl (g_skip (t_ (s_ (o_ ?_))))))
      refine g_call1 rfl rfl rfl Try.call13 (fun w hS => alive_any w (hS.maxHere hz (by simp))) ?_
      refine xg 20 [1,0,1,0] rfl (by omega) ?_
      refine g_val (v := .int .i64 (p.length : Int)) rfl rfl rfl (y_val (y_slen rfl Try.underlying9) (by rw [size_mk])) ?_
      refine xg 10 [1,0,1] rfl (by omega) ?_
      refine n_ (t_ (g_ret ?_))
      refine g_end1 Try.results5 rfl ?_
      exact fun w hS => ⟨rfl, hS.below⟩
     intro hj
     refine g_block ?_
     refine g_loop (α := {x : Nat × Int // x.1 ≤ l.length + 1 ∧ ((x.2 = -1 ∧ (∀ m, m < x.1 → ¬ occ l p m)) ∨ (∃ a : Nat, x.2 = a ∧ a + p.length ≤ l.length ∧ occ l p a ∧ (∀ m, m < a → ¬ occ l p m)))}) (fun x => [(0, st8 p), (1, st8 l), (7, .pointer (some ⟨b1, 0, none⟩)), (8, .int .i64 0), (11, .int .i64 x.1.2), (12, .int .i64 (x.1.1 : Int))]) (fun x => St w [] [.cells b1 28 (nC (.mk nk ns nm nx nu (.slice pv nq.length cv) nq)), .forest [(.mk nk ns nm nx nu (.slice pv nq.length cv) nq)]]) (fun x => l.length + 1 - x.1.1) ⟨(0, -1), Nat.zero_le _, .inl ⟨rfl, fun m h => by omega⟩⟩ [0, 1, 7, 8, 11, 12] rfl (fun w h => h.pick [0,0] rfl) ?_
     rintro ⟨⟨i, at_⟩, gi, gx⟩
     dsimp only
     dsimp only at gi gx
     refine s_ (s_ (o_ ?_))
     refine xg 3 [0] rfl rfl ?_
     refine g_casep 70 rfl (fun h54 => ?_) fun h54 => ?_
     ·refine xg 2 [] rfl rfl ?_
      refine g_val (v := .int .i64 (p.length : Int)) rfl rfl rfl (y_val (y_slen rfl Try.underlying9) (by rw [size_mk])) ?_
      refine xg 2 [] rfl (by omega) ?_
      refine g_val (v := .int .i64 (l.length : Int)) rfl rfl rfl (y_val (y_slen rfl Try.underlying9) (by rw [size_mk])) ?_
      refine xg 2 [0] rfl rfl ?_
      refine n_ (t_ ?_)
      refine g_casep 78 rfl (fun h55 => ?_) fun h55 => ?_
      ·refine g_cond_t rfl (g_skip (t_ (s_ (g_block (s_ ?_)))))
       obtain ⟨rfl, gx0⟩ := occ_at gx (by omega)
       refine o_ ?_
       refine xg 4 [] rfl rfl ?_
       refine g_val (v := .int .i64 (p.length : Int)) rfl rfl rfl (y_val (y_slen rfl Try.underlying9) (by rw [size_mk])) ?_
       refine xg 4 [] rfl (by omega) ?_
       refine n_ (t_ ?_)
       refine g_casep 89 rfl (fun h56 => ?_) fun h56 => ?_
       ·refine g_cond_t rfl (o_ ?_)
        refine xg 2 [] rfl rfl ?_
        refine n_ (g_in_normal (t_ (o_ ?_)))
        refine xg 3 [] rfl (by omega) ?_
        refine n_ ?_
        exact g_again ⟨(i + 1, (i : Int)), by dsimp only; omega, .inr ⟨i, rfl, by omega, occ_iff.1 (by assumption), gx0⟩⟩ [0, 1, 7, 8, 11, 12] (by dsimp only; omega) rfl (fun w h => h.pick [0,0] rfl)
       refine g_cond_f rfl (g_skip (g_in_normal (t_ (o_ ?_))))
       refine xg 3 [] rfl (by omega) ?_
       refine n_ ?_
       exact g_again ⟨(i + 1, -1), by dsimp only; omega, .inl ⟨rfl, occ_next gx0 (by assumption)⟩⟩ [0, 1, 7, 8, 11, 12] (by dsimp only; omega) rfl (fun w h => h.pick [0,0] rfl)
      refine g_cond_f rfl (g_exit (g_then_exit (g_then_exit (g_in_exit ?_))))
      exact g_fall (hj ⟨at_, occ_stop gx hcn.1 (fun _ => by omega)⟩) [0, 1, 7, 8, 11] rfl (fun w h => h.pick [0,0] rfl)
     refine xg 8 [] rfl rfl ?_
     refine n_ (t_ (g_cond_f rfl (g_exit (g_then_exit (g_then_exit (g_in_exit ?_))))))
     exact g_fall (hj ⟨at_, occ_stop gx hcn.1 (fun _ => by omega)⟩) [0, 1, 7, 8, 11] rfl (fun w h => h.pick [0,0] rfl)
    intro hj
    refine g_block ?_
    refine g_loop (α := {x : Nat × Bool // x.1 ≤ p.length ∧ (x.2 = true → (1 ≤ p.length ∧ p.length ≤ 20 ∧ l.length ≤ 60) ∧ (∀ m, 0 ≤ m → m < x.1 → plP p m))}) (fun x => [(0, st8 p), (1, st8 l), (7, .pointer (some ⟨b1, 0, none⟩)), (8, .int .i64 ern), (9, .bool x.1.2), (10, .int .i64 (x.1.1 : Int))]) (fun x => St w [] [.cells b1 28 (nC (.mk nk ns nm nx nu (.slice pv nq.length cv) nq)), .forest [(.mk nk ns nm nx nu (.slice pv nq.length cv) nq)]]) (fun x => p.length - x.1.1) ⟨(0, true), Nat.zero_le _, fun _ => ⟨by omega, fun m h1 h2 => by omega⟩⟩ [0, 1, 7, 8, 9, 10] rfl (fun w h => h.pick [0,0] rfl) ?_
    rintro ⟨⟨i, b⟩, gi, gx⟩
    dsimp only
    dsimp only at gi gx
    refine s_ (s_ (o_ ?_))
    refine xg 2 [] rfl rfl ?_
    refine g_val (v := .int .i64 (p.length : Int)) rfl rfl rfl (y_val (y_slen rfl Try.underlying9) (by rw [size_mk])) ?_
    refine xg 2 [0] rfl rfl ?_
    refine g_casep 38 rfl (fun h57 => ?_) fun h57 => ?_
    ·refine xg 2 [] rfl rfl ?_
     refine n_ (t_ ?_)
     refine g_caseb 40 rfl (fun h58 => ?_) fun h58 => ?_
     ·refine g_cond_t rfl (g_skip (t_ (s_ (g_block (o_ ?_)))))
      refine xg 2 [] rfl rfl ?_
      obtain ⟨ch, hch, hch8⟩ := st8_get (l := p) (i := i) (by omega)
      refine g_val rfl rfl rfl (y_sidx (i := i) rfl rfl Try.underlying9 hch8) ?_
      refine xg 2 [0] rfl rfl ?_
      refine g_casep 47 rfl (fun h59 => ?_) fun h59 => ?_
      ·refine xg 2 [] rfl rfl ?_
       refine g_val rfl rfl rfl (y_sidx (i := i) rfl rfl Try.underlying9 hch8) ?_
       refine xg 3 [0] rfl rfl ?_
       refine g_casep 53 rfl (fun h60 => ?_) fun h60 => ?_
       ·refine xg 12 [] rfl rfl ?_
        refine n_ (g_in_normal (t_ (o_ ?_)))
        refine xg 3 [] rfl (by omega) ?_
        refine n_ ?_
        exact g_again ⟨(i + 1, true), by dsimp only; omega, fun _ => ⟨(gx (by assumption)).1, run_more (l := p) (P := plP p) (gx (by assumption)).2 ⟨ch, hch, by omega⟩⟩⟩ [0, 1, 7, 8, 9, 10] (by dsimp only; omega) rfl (fun w h => h.pick [0,0] rfl)
       refine xg 2 [] rfl rfl ?_
       refine g_val rfl rfl rfl (y_sidx (i := i) rfl rfl Try.underlying9 hch8) ?_
       refine xg 2 [0] rfl rfl ?_
       refine g_casep 58 rfl (fun h61 => ?_) fun h61 => ?_
       ·refine xg 2 [] rfl rfl ?_
        refine g_val rfl rfl rfl (y_sidx (i := i) rfl rfl Try.underlying9 hch8) ?_
        refine xg 4 [0] rfl rfl ?_
        refine n_ (g_in_normal (t_ (o_ ?_)))
        refine xg 3 [] rfl (by omega) ?_
        refine n_ ?_
        first | refine g_casep 9 rfl (fun h62 => ?_) (fun h62 => ?_) | refine g_caseb 9 rfl (fun h62 => ?_) (fun h62 => ?_)
        · exact g_again ⟨(i + 1, true), by dsimp only; omega, fun _ => ⟨(gx (by assumption)).1, run_more (l := p) (P := plP p) (gx (by assumption)).2 ⟨ch, hch, by omega⟩⟩⟩ [0, 1, 7, 8, 9, 10] (by dsimp only; omega) rfl (fun w h => h.pick [0,0] rfl)
        · exact g_again ⟨(i + 1, false), by dsimp only; omega, fun h => by cases h⟩ [0, 1, 7, 8, 9, 10] (by dsimp only; omega) rfl (fun w h => h.pick [0,0] rfl)
       refine xg 7 [] rfl rfl ?_
       refine n_ (g_in_normal (t_ (o_ ?_)))
       refine xg 3 [] rfl (by omega) ?_
       refine n_ ?_
       exact g_again ⟨(i + 1, false), by dsimp only; omega, fun h => by cases h⟩ [0, 1, 7, 8, 9, 10] (by dsimp only; omega) rfl (fun w h => h.pick [0,0] rfl)
      refine xg 8 [] rfl rfl ?_
      refine g_val rfl rfl rfl (y_sidx (i := i) rfl rfl Try.underlying9 hch8) ?_
      refine xg 2 [0] rfl rfl ?_
      refine g_casep 58 rfl (fun h63 => ?_) fun h63 => ?_
      ·refine xg 2 [] rfl rfl ?_
       refine g_val rfl rfl rfl (y_sidx (i := i) rfl rfl Try.underlying9 hch8) ?_
       refine xg 4 [0] rfl rfl ?_
       refine n_ (g_in_normal (t_ (o_ ?_)))
       refine xg 3 [] rfl (by omega) ?_
       refine n_ ?_
       first | refine g_casep 9 rfl (fun h64 => ?_) (fun h64 => ?_) | refine g_caseb 9 rfl (fun h64 => ?_) (fun h64 => ?_)
       · exact g_again ⟨(i + 1, true), by dsimp only; omega, fun _ => ⟨(gx (by assumption)).1, run_more (l := p) (P := plP p) (gx (by assumption)).2 ⟨ch, hch, by omega⟩⟩⟩ [0, 1, 7, 8, 9, 10] (by dsimp only; omega) rfl (fun w h => h.pick [0,0] rfl)
       · exact g_again ⟨(i + 1, false), by dsimp only; omega, fun h => by cases h⟩ [0, 1, 7, 8, 9, 10] (by dsimp only; omega) rfl (fun w h => h.pick [0,0] rfl)
      refine xg 7 [] rfl rfl ?_
      refine n_ (g_in_normal (t_ (o_ ?_)))
      refine xg 3 [] rfl (by omega) ?_
      refine n_ ?_
      exact g_again ⟨(i + 1, false), by dsimp only; omega, fun h => by cases h⟩ [0, 1, 7, 8, 9, 10] (by dsimp only; omega) rfl (fun w h => h.pick [0,0] rfl)
     refine g_cond_f rfl (g_exit (g_then_exit (g_then_exit (g_in_exit ?_))))
     exact g_fall (hj ⟨b, fun hb => by first | exact ⟨(gx hb).1, fun m h1 h2 => (gx hb).2 m h1 (by omega)⟩ | (rw [show b = false by assumption] at hb; cases hb)⟩) [0, 1, 7, 8, 9] rfl (fun w h => h.pick [0,0] rfl)
    refine xg 2 [] rfl rfl ?_
    refine n_ (t_ (g_cond_f rfl (g_exit (g_then_exit (g_then_exit (g_in_exit ?_))))))
    exact g_fall (hj ⟨b, fun hb => by first | exact ⟨(gx hb).1, fun m h1 h2 => (gx hb).2 m h1 (by omega)⟩ | (rw [show b = false by assumption] at hb; cases hb)⟩) [0, 1, 7, 8, 9] rfl (fun w h => h.pick [0,0] rfl)
   refine o_ ?_
   refine xg 1 [] rfl rfl ?_
   refine n_ (t_ ?_)
   refine g_cutc (α := {x : Bool // x = true → (1 ≤ p.length ∧ p.length ≤ 20 ∧ l.length ≤ 60) ∧ (∀ m, 0 ≤ m → m < p.length → plP p m)}) (fun x => [(0, st8 p), (1, st8 l), (7, .pointer (some ⟨b1, 0, none⟩)), (8, .int .i64 ern), (9, .bool x.1)]) (fun x => [.cells b1 28 (nC (.mk nk ns nm nx nu (.slice pv nq.length cv) nq)), .forest [(.mk nk ns nm nx nu (.slice pv nq.length cv) nq)]]) ?_ ?_
   ·rintro ⟨b, gx⟩
    try dsimp only
    refine t_ (s_ (s_ (o_ ?_)))
    refine xg 2 [] rfl rfl ?_
    refine n_ (t_ ?_)
    first | refine g_casep 66 rfl (fun h65 => ?_) fun h65 => ?_ | refine g_caseb 66 rfl (fun h65 => ?_) fun h65 => ?_
    ·refine g_cond_t rfl (s_ (o_ ?_))
     refine g_call1 rfl rfl rfl Try.call13 (fun w hS => alive_any w (hS.maxHere hz (by simp))) ?_
     refine xg 1 [] rfl rfl ?_
     refine n_ (t_ (g_ret (g_then_ret ?_)))
     refine g_end1 Try.results5 rfl ?_
     exact fun w hS => ⟨rfl, hS.below⟩
    refine g_cond_f rfl (g_skip (t_ (s_ ?_)))
    obtain ⟨hcn, hall⟩ := gx (by simpa using ‹(!b) = false›)
    obtain ⟨h0, hng, htm⟩ := plain_mM hpar (plP_all hall) hcn.1 hcn.2.1
    dsimp only at h0 hng htm
    subst h0
    refine o_ ?_
    refine xg 1 [] rfl rfl ?_
    refine n_ (t_ (s_ (s_ (o_ ?_))))
    refine xg 1 [] rfl rfl ?_
    refine n_ (t_ ?_)
    refine g_cutc (α := {x : Int // (x = -1 ∧ (∀ m, ¬ occ l p m)) ∨ (∃ a : Nat, x = a ∧ a + p.length ≤ l.length ∧ occ l p a ∧ (∀ m, m < a → ¬ occ l p m))}) (fun x => [(0, st8 p), (1, st8 l), (7, .pointer (some ⟨b1, 0, none⟩)), (8, .int .i64 0), (11, .int .i64 x.1)]) (fun x => [.cells b1 28 (nC (.mk nk ns nm nx nu (.slice pv nq.length cv) nq)), .forest [(.mk nk ns nm nx nu (.slice pv nq.length cv) nq)]]) ?_ ?_
    ·rintro ⟨at_, gx⟩
     try dsimp only
     refine t_ (s_ ?_)
     rcases gx with ⟨rfl, hno⟩ | ⟨a, rfl, ha1, ha2, ha3⟩
     ·refine o_ ?_
      refine xg 2 [0] rfl (by omega) ?_
      refine g_c1 (m_find ⟨l, false⟩ (.mk nk ns nm nx nu (.slice pv nq.length cv) nq) 0 (by show l.length ≤ _; omega) (by have := parX_size hpar; dsimp only at this; omega)) (fun w hS => forest_rd hS (i := 1) rfl) rfl rfl rfl ?_
      rw [plain_none htm hno, sp_none]
      refine xg 3 [] rfl rfl ?_
      refine g_alloc rfl rfl Try.zeroValue36 rfl (fun b13 => ?_)
      refine xg 2 [0] rfl (by omega) ?_
      refine n_ (t_ (s_ (s_ (o_ ?_))))
      refine xg 2 [1] rfl (by omega) ?_
      refine n_ (t_ (g_cond_t rfl (s_ (o_ ?_))))
      refine g_call1 rfl rfl rfl Try.call13 (fun w hS => alive_any w (hS.maxHere hz (by simp))) ?_
      refine xg 9 [1] rfl (by omega) ?_
      refine n_ (t_ (g_ret (g_then_ret ?_)))
      refine g_end1 Try.results5 rfl ?_
      exact fun w hS => ⟨rfl, hS.below⟩
     refine o_ ?_
     refine xg 2 [0] rfl (by omega) ?_
     refine g_c1 (m_find ⟨l, false⟩ (.mk nk ns nm nx nu (.slice pv nq.length cv) nq) 0 (by show l.length ≤ _; omega) (by have := parX_size hpar; dsimp only at this; omega)) (fun w hS => forest_rd hS (i := 1) rfl) rfl rfl rfl ?_
     rw [plain_some hng htm hcn.2.2 ha1 ha2 ha3, sp_found]
     refine xg 3 [] rfl rfl ?_
     refine g_alloc rfl rfl Try.zeroValue36 rfl (fun b14 => ?_)
     refine xg 2 [0] rfl (by omega) ?_
     refine n_ (t_ (s_ (s_ (o_ ?_))))
     refine xg 2 [2] rfl (by omega) ?_
     refine n_ (t_ (g_cond_f rfl (g_skip (t_ (s_ (o_ ?_))))))
     refine g_call1 rfl rfl rfl Try.call13 (fun w hS => alive_any w (hS.maxHere hz (by simp))) ?_
     refine xg 20 [1,0,1,0] rfl (by omega) ?_
     refine g_val (v := .int .i64 (p.length : Int)) rfl rfl rfl (y_val (y_slen rfl Try.underlying9) (by rw [size_mk])) ?_
     refine xg 10 [1,0,1] rfl (by omega) ?_
     refine n_ (t_ (g_ret ?_))
     refine g_end1 Try.results5 rfl ?_
     exact fun w hS => ⟨rfl, hS.below⟩
    intro hj
    refine g_block ?_
    refine g_loop (α := {x : Nat × Int // x.1 ≤ l.length + 1 ∧ ((x.2 = -1 ∧ (∀ m, m < x.1 → ¬ occ l p m)) ∨ (∃ a : Nat, x.2 = a ∧ a + p.length ≤ l.length ∧ occ l p a ∧ (∀ m, m < a → ¬ occ l p m)))}) (fun x => [(0, st8 p), (1, st8 l), (7, .pointer (some ⟨b1, 0, none⟩)), (8, .int .i64 0), (11, .int .i64 x.1.2), (12, .int .i64 (x.1.1 : Int))]) (fun x => St w [] [.cells b1 28 (nC (.mk nk ns nm nx nu (.slice pv nq.length cv) nq)), .forest [(.mk nk ns nm nx nu (.slice pv nq.length cv) nq)]]) (fun x => l.length + 1 - x.1.1) ⟨(0, -1), Nat.zero_le _, .inl ⟨rfl, fun m h => by omega⟩⟩ [0, 1, 7, 8, 11, 12] rfl (fun w h => h.pick [0,0] rfl) ?_
    rintro ⟨⟨i, at_⟩, gi, gx⟩
    dsimp only
    dsimp only at gi gx
    refine s_ (s_ (o_ ?_))
    refine xg 3 [0] rfl rfl ?_
    refine g_casep 70 rfl (fun h66 => ?_) fun h66 => ?_
    ·refine xg 2 [] rfl rfl ?_
     refine g_val (v := .int .i64 (p.length : Int)) rfl rfl rfl (y_val (y_slen rfl Try.underlying9) (by rw [size_mk])) ?_
     refine xg 2 [] rfl (by omega) ?_
     refine g_val (v := .int .i64 (l.length : Int)) rfl rfl rfl (y_val (y_slen rfl Try.underlying9) (by rw [size_mk])) ?_
     refine xg 2 [0] rfl rfl ?_
     refine n_ (t_ ?_)
     refine g_casep 78 rfl (fun h67 => ?_) fun h67 => ?_
     ·refine g_cond_t rfl (g_skip (t_ (s_ (g_block (s_ ?_)))))
      obtain ⟨rfl, gx0⟩ := occ_at gx (by omega)
      refine o_ ?_
      refine xg 4 [] rfl rfl ?_
      refine g_val (v := .int .i64 (p.length : Int)) rfl rfl rfl (y_val (y_slen rfl Try.underlying9) (by rw [size_mk])) ?_
      refine xg 4 [] rfl (by omega) ?_
      refine n_ (t_ ?_)
      refine g_casep 89 rfl (fun h68 => ?_) fun h68 => ?_
      ·refine g_cond_t rfl (o_ ?_)
       refine xg 2 [] rfl rfl ?_
       refine n_ (g_in_normal (t_ (o_ ?_)))
       refine xg 3 [] rfl (by omega) ?_
       refine n_ ?_
       exact g_again ⟨(i + 1, (i : Int)), by dsimp only; omega, .inr ⟨i, rfl, by omega, occ_iff.1 (by assumption), gx0⟩⟩ [0, 1, 7, 8, 11, 12] (by dsimp only; omega) rfl (fun w h => h.pick [0,0] rfl)
      refine g_cond_f rfl (g_skip (g_in_normal (t_ (o_ ?_))))
      refine xg 3 [] rfl (by omega) ?_
      refine n_ ?_
      exact g_again ⟨(i + 1, -1), by dsimp only; omega, .inl ⟨rfl, occ_next gx0 (by assumption)⟩⟩ [0, 1, 7, 8, 11, 12] (by dsimp only; omega) rfl (fun w h => h.pick [0,0] rfl)
     refine g_cond_f rfl (g_exit (g_then_exit (g_then_exit (g_in_exit ?_))))
     exact g_fall (hj ⟨at_, occ_stop gx hcn.1 (fun _ => by omega)⟩) [0, 1, 7, 8, 11] rfl (fun w h => h.pick [0,0] rfl)
    refine xg 8 [] rfl rfl ?_
    refine n_ (t_ (g_cond_f rfl (g_exit (g_then_exit (g_then_exit (g_in_exit ?_))))))
    exact g_fall (hj ⟨at_, occ_stop gx hcn.1 (fun _ => by omega)⟩) [0, 1, 7, 8, 11] rfl (fun w h => h.pick [0,0] rfl)
   intro hj
   refine g_block ?_
   refine g_loop (α := {x : Nat × Bool // x.1 ≤ p.length ∧ (x.2 = true → (1 ≤ p.length ∧ p.length ≤ 20 ∧ l.length ≤ 60) ∧ (∀ m, 0 ≤ m → m < x.1 → plP p m))}) (fun x => [(0, st8 p), (1, st8 l), (7, .pointer (some ⟨b1, 0, none⟩)), (8, .int .i64 ern), (9, .bool x.1.2), (10, .int .i64 (x.1.1 : Int))]) (fun x => St w [] [.cells b1 28 (nC (.mk nk ns nm nx nu (.slice pv nq.length cv) nq)), .forest [(.mk nk ns nm nx nu (.slice pv nq.length cv) nq)]]) (fun x => p.length - x.1.1) ⟨(0, false), Nat.zero_le _, fun h => by cases h⟩ [0, 1, 7, 8, 9, 10] rfl (fun w h => h.pick [0,0] rfl) ?_
   rintro ⟨⟨i, b⟩, gi, gx⟩
   dsimp only
   dsimp only at gi gx
   refine s_ (s_ (o_ ?_))
   refine xg 2 [] rfl rfl ?_
   refine g_val (v := .int .i64 (p.length : Int)) rfl rfl rfl (y_val (y_slen rfl Try.underlying9) (by rw [size_mk])) ?_
   refine xg 2 [0] rfl rfl ?_
   refine g_casep 38 rfl (fun h69 => ?_) fun h69 => ?_
   ·refine xg 2 [] rfl rfl ?_
    refine n_ (t_ ?_)
    refine g_caseb 40 rfl (fun h70 => ?_) fun h70 => ?_
    ·refine g_cond_t rfl (g_skip (t_ (s_ (g_block (o_ ?_)))))
     refine xg 2 [] rfl rfl ?_
     obtain ⟨ch, hch, hch8⟩ := st8_get (l := p) (i := i) (by omega)
     refine g_val rfl rfl rfl (y_sidx (i := i) rfl rfl Try.underlying9 hch8) ?_
     refine xg 2 [0] rfl rfl ?_
     refine g_casep 47 rfl (fun h71 => ?_) fun h71 => ?_
     ·refine xg 2 [] rfl rfl ?_
      refine g_val rfl rfl rfl (y_sidx (i := i) rfl rfl Try.underlying9 hch8) ?_
      refine xg 3 [0] rfl rfl ?_
      refine g_casep 53 rfl (fun h72 => ?_) fun h72 => ?_
      ·refine xg 12 [] rfl rfl ?_
       refine n_ (g_in_normal (t_ (o_ ?_)))
       refine xg 3 [] rfl (by omega) ?_
       refine n_ ?_
       exact g_again ⟨(i + 1, true), by dsimp only; omega, fun _ => ⟨(gx (by assumption)).1, run_more (l := p) (P := plP p) (gx (by assumption)).2 ⟨ch, hch, by omega⟩⟩⟩ [0, 1, 7, 8, 9, 10] (by dsimp only; omega) rfl (fun w h => h.pick [0,0] rfl)
      refine xg 2 [] rfl rfl ?_
      refine g_val rfl rfl rfl (y_sidx (i := i) rfl rfl Try.underlying9 hch8) ?_
      refine xg 2 [0] rfl rfl ?_
      refine g_casep 58 rfl (fun h73 => ?_) fun h73 => ?_
      ·refine xg 2 [] rfl rfl ?_
       refine g_val rfl rfl rfl (y_sidx (i := i) rfl rfl Try.underlying9 hch8) ?_
       refine xg 4 [0] rfl rfl ?_
       refine n_ (g_in_normal (t_ (o_ ?_)))
       refine xg 3 [] rfl (by omega) ?_
       refine n_ ?_
       first | refine g_casep 9 rfl (fun h74 => ?_) (fun h74 => ?_) | refine g_caseb 9 rfl (fun h74 => ?_) (fun h74 => ?_)
       · exact g_again ⟨(i + 1, true), by dsimp only; omega, fun _ => ⟨(gx (by assumption)).1, run_more (l := p) (P := plP p) (gx (by assumption)).2 ⟨ch, hch, by omega⟩⟩⟩ [0, 1, 7, 8, 9, 10] (by dsimp only; omega) rfl (fun w h => h.pick [0,0] rfl)
       · exact g_again ⟨(i + 1, false), by dsimp only; omega, fun h => by cases h⟩ [0, 1, 7, 8, 9, 10] (by dsimp only; omega) rfl (fun w h => h.pick [0,0] rfl)
      refine xg 7 [] rfl rfl ?_
      refine n_ (g_in_normal (t_ (o_ ?_)))
      refine xg 3 [] rfl (by omega) ?_
      refine n_ ?_
      exact g_again ⟨(i + 1, false), by dsimp only; omega, fun h => by cases h⟩ [0, 1, 7, 8, 9, 10] (by dsimp only; omega) rfl (fun w h => h.pick [0,0] rfl)
     refine xg 8 [] rfl rfl ?_
     refine g_val rfl rfl rfl (y_sidx (i := i) rfl rfl Try.underlying9 hch8) ?_
     refine xg 2 [0] rfl rfl ?_
     refine g_casep 58 rfl (fun h75 => ?_) fun h75 => ?_
     ·refine xg 2 [] rfl rfl ?_
      refine g_val rfl rfl rfl (y_sidx (i := i) rfl rfl Try.underlying9 hch8) ?_
      refine xg 4 [0] rfl rfl ?_
      refine n_ (g_in_normal (t_ (o_ ?_)))
      refine xg 3 [] rfl (by omega) ?_
      refine n_ ?_
      first | refine g_casep 9 rfl (fun h76 => ?_) (fun h76 => ?_) | refine g_caseb 9 rfl (fun h76 => ?_) (fun h76 => ?_)
      · exact g_again ⟨(i + 1, true), by dsimp only; omega, fun _ => ⟨(gx (by assumption)).1, run_more (l := p) (P := plP p) (gx (by assumption)).2 ⟨ch, hch, by omega⟩⟩⟩ [0, 1, 7, 8, 9, 10] (by dsimp only; omega) rfl (fun w h => h.pick [0,0] rfl)
      · exact g_again ⟨(i + 1, false), by dsimp only; omega, fun h => by cases h⟩ [0, 1, 7, 8, 9, 10] (by dsimp only; omega) rfl (fun w h => h.pick [0,0] rfl)
     refine xg 7 [] rfl rfl ?_
     refine n_ (g_in_normal (t_ (o_ ?_)))
     refine xg 3 [] rfl (by omega) ?_
     refine n_ ?_
     exact g_again ⟨(i + 1, false), by dsimp only; omega, fun h => by cases h⟩ [0, 1, 7, 8, 9, 10] (by dsimp only; omega) rfl (fun w h => h.pick [0,0] rfl)
    refine g_cond_f rfl (g_exit (g_then_exit (g_then_exit (g_in_exit ?_))))
    exact g_fall (hj ⟨b, fun hb => by first | exact ⟨(gx hb).1, fun m h1 h2 => (gx hb).2 m h1 (by omega)⟩ | (rw [show b = false by assumption] at hb; cases hb)⟩) [0, 1, 7, 8, 9] rfl (fun w h => h.pick [0,0] rfl)
   refine xg 2 [] rfl rfl ?_
   refine n_ (t_ (g_cond_f rfl (g_exit (g_then_exit (g_then_exit (g_in_exit ?_))))))
   exact g_fall (hj ⟨b, fun hb => by first | exact ⟨(gx hb).1, fun m h1 h2 => (gx hb).2 m h1 (by omega)⟩ | (rw [show b = false by assumption] at hb; cases hb)⟩) [0, 1, 7, 8, 9] rfl (fun w h => h.pick [0,0] rfl)
  refine xg 5 [] rfl rfl ?_
  refine n_ (t_ (s_ (s_ (o_ ?_))))
  refine xg 1 [] rfl rfl ?_
  refine n_ (t_ ?_)
  refine g_cutc (α := {x : Bool // x = true → (1 ≤ p.length ∧ p.length ≤ 20 ∧ l.length ≤ 60) ∧ (∀ m, 0 ≤ m → m < p.length → plP p m)}) (fun x => [(0, st8 p), (1, st8 l), (7, .pointer (some ⟨b1, 0, none⟩)), (8, .int .i64 ern), (9, .bool x.1)]) (fun x => [.cells b1 28 (nC (.mk nk ns nm nx nu (.slice pv nq.length cv) nq)), .forest [(.mk nk ns nm nx nu (.slice pv nq.length cv) nq)]]) ?_ ?_
  ·rintro ⟨b, gx⟩
   try dsimp only
   refine t_ (s_ (s_ (o_ ?_)))
   refine xg 2 [] rfl rfl ?_
   refine n_ (t_ ?_)
   first | refine g_casep 66 rfl (fun h77 => ?_) fun h77 => ?_ | refine g_caseb 66 rfl (fun h77 => ?_) fun h77 => ?_
   ·refine g_cond_t rfl (s_ (o_ ?_))
    refine g_call1 rfl rfl rfl Try.call13 (fun w hS => alive_any w (hS.maxHere hz (by simp))) ?_
    refine xg 1 [] rfl rfl ?_
    refine n_ (t_ (g_ret (g_then_ret ?_)))
    refine g_end1 Try.results5 rfl ?_
    exact fun w hS => ⟨rfl, hS.below⟩
   refine g_cond_f rfl (g_skip (t_ (s_ ?_)))
   obtain ⟨hcn, hall⟩ := gx (by simpa using ‹(!b) = false›)
   obtain ⟨h0, hng, htm⟩ := plain_mM hpar (plP_all hall) hcn.1 hcn.2.1
   dsimp only at h0 hng htm
   subst h0
   refine o_ ?_
   refine xg 1 [] rfl rfl ?_
   refine n_ (t_ (s_ (s_ (o_ ?_))))
   refine xg 1 [] rfl rfl ?_
   refine n_ (t_ ?_)
   refine g_cutc (α := {x : Int // (x = -1 ∧ (∀ m, ¬ occ l p m)) ∨ (∃ a : Nat, x = a ∧ a + p.length ≤ l.length ∧ occ l p a ∧ (∀ m, m < a → ¬ occ l p m))}) (fun x => [(0, st8 p), (1, st8 l), (7, .pointer (some ⟨b1, 0, none⟩)), (8, .int .i64 0), (11, .int .i64 x.1)]) (fun x => [.cells b1 28 (nC (.mk nk ns nm nx nu (.slice pv nq.length cv) nq)), .forest [(.mk nk ns nm nx nu (.slice pv nq.length cv) nq)]]) ?_ ?_
   ·rintro ⟨at_, gx⟩
    try dsimp only
    refine t_ (s_ ?_)
    rcases gx with ⟨rfl, hno⟩ | ⟨a, rfl, ha1, ha2, ha3⟩
    ·refine o_ ?_
     refine xg 2 [0] rfl (by omega) ?_
     refine g_c1 (m_find ⟨l, false⟩ (.mk nk ns nm nx nu (.slice pv nq.length cv) nq) 0 (by show l.length ≤ _; omega) (by have := parX_size hpar; dsimp only at this; omega)) (fun w hS => forest_rd hS (i := 1) rfl) rfl rfl rfl ?_
     rw [plain_none htm hno, sp_none]
     refine xg 3 [] rfl rfl ?_
     refine g_alloc rfl rfl Try.zeroValue36 rfl (fun b15 => ?_)
     refine xg 2 [0] rfl (by omega) ?_
     refine n_ (t_ (s_ (s_ (o_ ?_))))
     refine xg 2 [1] rfl (by omega) ?_
     refine n_ (t_ (g_cond_t rfl (s_ (o_ ?_))))
     refine g_call1 rfl rfl rfl Try.call13 (fun w hS => alive_any w (hS.maxHere hz (by simp))) ?_
     refine xg 9 [1] rfl (by omega) ?_
     refine n_ (t_ (g_ret (g_then_ret ?_)))
     refine g_end1 Try.results5 rfl ?_
     exact fun w hS => ⟨rfl, hS.below⟩
    refine o_ ?_
    refine xg 2 [0] rfl (by omega) ?_
    refine g_c1 (m_find ⟨l, false⟩ (.mk nk ns nm nx nu (.slice pv nq.length cv) nq) 0 (by show l.length ≤ _; omega) (by have := parX_size hpar; dsimp only at this; omega)) (fun w hS => forest_rd hS (i := 1) rfl) rfl rfl rfl ?_
    rw [plain_some hng htm hcn.2.2 ha1 ha2 ha3, sp_found]
    refine xg 3 [] rfl rfl ?_
    refine g_alloc rfl rfl Try.zeroValue36 rfl (fun b16 => ?_)
    refine xg 2 [0] rfl (by omega) ?_
    refine n_ (t_ (s_ (s_ (o_ ?_))))
    refine xg 2 [2] rfl (by omega) ?_
    refine n_ (t_ (g_cond_f rfl (g_skip (t_ (s_ (o_ ?_))))))
    refine g_call1 rfl rfl rfl Try.call13 (fun w hS => alive_any w (hS.maxHere hz (by simp))) ?_
    refine xg 20 [1,0,1,0] rfl (by omega) ?_
    refine g_val (v := .int .i64 (p.length : Int)) rfl rfl rfl (y_val (y_slen rfl Try.underlying9) (by rw [size_mk])) ?_
    refine xg 10 [1,0,1] rfl (by omega) ?_
    refine n_ (t_ (g_ret ?_))
    refine g_end1 Try.results5 rfl ?_
    exact fun w hS => ⟨rfl, hS.below⟩
   intro hj
   refine g_block ?_
   refine g_loop (α := {x : Nat × Int // x.1 ≤ l.length + 1 ∧ ((x.2 = -1 ∧ (∀ m, m < x.1 → ¬ occ l p m)) ∨ (∃ a : Nat, x.2 = a ∧ a + p.length ≤ l.length ∧ occ l p a ∧ (∀ m, m < a → ¬ occ l p m)))}) (fun x => [(0, st8 p), (1, st8 l), (7, .pointer (some ⟨b1, 0, none⟩)), (8, .int .i64 0), (11, .int .i64 x.1.2), (12, .int .i64 (x.1.1 : Int))]) (fun x => St w [] [.cells b1 28 (nC (.mk nk ns nm nx nu (.slice pv nq.length cv) nq)), .forest [(.mk nk ns nm nx nu (.slice pv nq.length cv) nq)]]) (fun x => l.length + 1 - x.1.1) ⟨(0, -1), Nat.zero_le _, .inl ⟨rfl, fun m h => by omega⟩⟩ [0, 1, 7, 8, 11, 12] rfl (fun w h => h.pick [0,0] rfl) ?_
   rintro ⟨⟨i, at_⟩, gi, gx⟩
   dsimp only
   dsimp only at gi gx
   refine s_ (s_ (o_ ?_))
   refine xg 3 [0] rfl rfl ?_
   refine g_casep 70 rfl (fun h78 => ?_) fun h78 => ?_
   ·refine xg 2 [] rfl rfl ?_
    refine g_val (v := .int .i64 (p.length : Int)) rfl rfl rfl (y_val (y_slen rfl Try.underlying9) (by rw [size_mk])) ?_
    refine xg 2 [] rfl (by omega) ?_
    refine g_val (v := .int .i64 (l.length : Int)) rfl rfl rfl (y_val (y_slen rfl Try.underlying9) (by rw [size_mk])) ?_
    refine xg 2 [0] rfl rfl ?_
    refine n_ (t_ ?_)
    refine g_casep 78 rfl (fun h79 => ?_) fun h79 => ?_
    ·refine g_cond_t rfl (g_skip (t_ (s_ (g_block (s_ ?_)))))
     obtain ⟨rfl, gx0⟩ := occ_at gx (by omega)
     refine o_ ?_
     refine xg 4 [] rfl rfl ?_
     refine g_val (v := .int .i64 (p.length : Int)) rfl rfl rfl (y_val (y_slen rfl Try.underlying9) (by rw [size_mk])) ?_
     refine xg 4 [] rfl (by omega) ?_
     refine n_ (t_ ?_)
     refine g_casep 89 rfl (fun h80 => ?_) fun h80 => ?_
     ·refine g_cond_t rfl (o_ ?_)
      refine xg 2 [] rfl rfl ?_
      refine n_ (g_in_normal (t_ (o_ ?_)))
      refine xg 3 [] rfl (by omega) ?_
      refine n_ ?_
      exact g_again ⟨(i + 1, (i : Int)), by dsimp only; omega, .inr ⟨i, rfl, by omega, occ_iff.1 (by assumption), gx0⟩⟩ [0, 1, 7, 8, 11, 12] (by dsimp only; omega) rfl (fun w h => h.pick [0,0] rfl)
     refine g_cond_f rfl (g_skip (g_in_normal (t_ (o_ ?_))))
     refine xg 3 [] rfl (by omega) ?_
     refine n_ ?_
     exact g_again ⟨(i + 1, -1), by dsimp only; omega, .inl ⟨rfl, occ_next gx0 (by assumption)⟩⟩ [0, 1, 7, 8, 11, 12] (by dsimp only; omega) rfl (fun w h => h.pick [0,0] rfl)
    refine g_cond_f rfl (g_exit (g_then_exit (g_then_exit (g_in_exit ?_))))
    exact g_fall (hj ⟨at_, occ_stop gx hcn.1 (fun _ => by omega)⟩) [0, 1, 7, 8, 11] rfl (fun w h => h.pick [0,0] rfl)
   refine xg 8 [] rfl rfl ?_
   refine n_ (t_ (g_cond_f rfl (g_exit (g_then_exit (g_then_exit (g_in_exit ?_))))))
   exact g_fall (hj ⟨at_, occ_stop gx hcn.1 (fun _ => by omega)⟩) [0, 1, 7, 8, 11] rfl (fun w h => h.pick [0,0] rfl)
  intro hj
  refine g_block ?_
  refine g_loop (α := {x : Nat × Bool // x.1 ≤ p.length ∧ (x.2 = true → (1 ≤ p.length ∧ p.length ≤ 20 ∧ l.length ≤ 60) ∧ (∀ m, 0 ≤ m → m < x.1 → plP p m))}) (fun x => [(0, st8 p), (1, st8 l), (7, .pointer (some ⟨b1, 0, none⟩)), (8, .int .i64 ern), (9, .bool x.1.2), (10, .int .i64 (x.1.1 : Int))]) (fun x => St w [] [.cells b1 28 (nC (.mk nk ns nm nx nu (.slice pv nq.length cv) nq)), .forest [(.mk nk ns nm nx nu (.slice pv nq.length cv) nq)]]) (fun x => p.length - x.1.1) ⟨(0, false), Nat.zero_le _, fun h => by cases h⟩ [0, 1, 7, 8, 9, 10] rfl (fun w h => h.pick [0,0] rfl) ?_
  rintro ⟨⟨i, b⟩, gi, gx⟩
  dsimp only
  dsimp only at gi gx
  refine s_ (s_ (o_ ?_))
  refine xg 2 [] rfl rfl ?_
  refine g_val (v := .int .i64 (p.length : Int)) rfl rfl rfl (y_val (y_slen rfl Try.underlying9) (by rw [size_mk])) ?_
  refine xg 2 [0] rfl rfl ?_
  refine g_casep 38 rfl (fun h81 => ?_) fun h81 => ?_
  ·refine xg 2 [] rfl rfl ?_
   refine n_ (t_ ?_)
   refine g_caseb 40 rfl (fun h82 => ?_) fun h82 => ?_
   ·refine g_cond_t rfl (g_skip (t_ (s_ (g_block (o_ ?_)))))
    refine xg 2 [] rfl rfl ?_
    obtain ⟨ch, hch, hch8⟩ := st8_get (l := p) (i := i) (by omega)
    refine g_val rfl rfl rfl (y_sidx (i := i) rfl rfl Try.underlying9 hch8) ?_
    refine xg 2 [0] rfl rfl ?_
    refine g_casep 47 rfl (fun h83 => ?_) fun h83 => ?_
    ·refine xg 2 [] rfl rfl ?_
     refine g_val rfl rfl rfl (y_sidx (i := i) rfl rfl Try.underlying9 hch8) ?_
     refine xg 3 [0] rfl rfl ?_
     refine g_casep 53 rfl (fun h84 => ?_) fun h84 => ?_
     ·refine xg 12 [] rfl rfl ?_
      refine n_ (g_in_normal (t_ (o_ ?_)))
      refine xg 3 [] rfl (by omega) ?_
      refine n_ ?_
      exact g_again ⟨(i + 1, true), by dsimp only; omega, fun _ => ⟨(gx (by assumption)).1, run_more (l := p) (P := plP p) (gx (by assumption)).2 ⟨ch, hch, by omega⟩⟩⟩ [0, 1, 7, 8, 9, 10] (by dsimp only; omega) rfl (fun w h => h.pick [0,0] rfl)
     refine xg 2 [] rfl rfl ?_
     refine g_val rfl rfl rfl (y_sidx (i := i) rfl rfl Try.underlying9 hch8) ?_
     refine xg 2 [0] rfl rfl ?_
     refine g_casep 58 rfl (fun h85 => ?_) fun h85 => ?_
     ·refine xg 2 [] rfl rfl ?_
      refine g_val rfl rfl rfl (y_sidx (i := i) rfl rfl Try.underlying9 hch8) ?_
      refine xg 4 [0] rfl rfl ?_
      refine n_ (g_in_normal (t_ (o_ ?_)))
      refine xg 3 [] rfl (by omega) ?_
      refine n_ ?_
      first | refine g_casep 9 rfl (fun h86 => ?_) (fun h86 => ?_) | refine g_caseb 9 rfl (fun h86 => ?_) (fun h86 => ?_)
      · exact g_again ⟨(i + 1, true), by dsimp only; omega, fun _ => ⟨(gx (by assumption)).1, run_more (l := p) (P := plP p) (gx (by assumption)).2 ⟨ch, hch, by omega⟩⟩⟩ [0, 1, 7, 8, 9, 10] (by dsimp only; omega) rfl (fun w h => h.pick [0,0] rfl)
      · exact g_again ⟨(i + 1, false), by dsimp only; omega, fun h => by cases h⟩ [0, 1, 7, 8, 9, 10] (by dsimp only; omega) rfl (fun w h => h.pick [0,0] rfl)
     refine xg 7 [] rfl rfl ?_
     refine n_ (g_in_normal (t_ (o_ ?_)))
     refine xg 3 [] rfl (by omega) ?_
     refine n_ ?_
     exact g_again ⟨(i + 1, false), by dsimp only; omega, fun h => by cases h⟩ [0, 1, 7, 8, 9, 10] (by dsimp only; omega) rfl (fun w h => h.pick [0,0] rfl)
    refine xg 8 [] rfl rfl ?_
    refine g_val rfl rfl rfl (y_sidx (i := i) rfl rfl Try.underlying9 hch8) ?_
    refine xg 2 [0] rfl rfl ?_
    refine g_casep 58 rfl (fun h87 => ?_) fun h87 => ?_
    ·refine xg 2 [] rfl rfl ?_
     refine g_val rfl rfl rfl (y_sidx (i := i) rfl rfl Try.underlying9 hch8) ?_
     refine xg 4 [0] rfl rfl ?_
     refine n_ (g_in_normal (t_ (o_ ?_)))
     refine xg 3 [] rfl (by omega) ?_
     refine n_ ?_
     first | refine g_casep 9 rfl (fun h88 => ?_) (fun h88 => ?_) | refine g_caseb 9 rfl (fun h88 => ?_) (fun h88 => ?_)
     · exact g_again ⟨(i + 1, true), by dsimp only; omega, fun _ => ⟨(gx (by assumption)).1, run_more (l := p) (P := plP p) (gx (by assumption)).2 ⟨ch, hch, by omega⟩⟩⟩ [0, 1, 7, 8, 9, 10] (by dsimp only; omega) rfl (fun w h => h.pick [0,0] rfl)
     · exact g_again ⟨(i + 1, false), by dsimp only; omega, fun h => by cases h⟩ [0, 1, 7, 8, 9, 10] (by dsimp only; omega) rfl (fun w h => h.pick [0,0] rfl)
    refine xg 7 [] rfl rfl ?_
    refine n_ (g_in_normal (t_ (o_ ?_)))
    refine xg 3 [] rfl (by omega) ?_
    refine n_ ?_
    exact g_again ⟨(i + 1, false), by dsimp only; omega, fun h => by cases h⟩ [0, 1, 7, 8, 9, 10] (by dsimp only; omega) rfl (fun w h => h.pick [0,0] rfl)
   refine g_cond_f rfl (g_exit (g_then_exit (g_then_exit (g_in_exit ?_))))
   exact g_fall (hj ⟨b, fun hb => by first | exact ⟨(gx hb).1, fun m h1 h2 => (gx hb).2 m h1 (by omega)⟩ | (rw [show b = false by assumption] at hb; cases hb)⟩) [0, 1, 7, 8, 9] rfl (fun w h => h.pick [0,0] rfl)
  refine xg 2 [] rfl rfl ?_
  refine n_ (t_ (g_cond_f rfl (g_exit (g_then_exit (g_then_exit (g_in_exit ?_))))))
  exact g_fall (hj ⟨b, fun hb => by first | exact ⟨(gx hb).1, fun m h1 h2 => (gx hb).2 m h1 (by omega)⟩ | (rw [show b = false by assumption] at hb; cases hb)⟩) [0, 1, 7, 8, 9] rfl (fun w h => h.pick [0,0] rfl)
 refine xg 10 [] rfl rfl ?_
 refine n_ (t_ (s_ (s_ (o_ ?_))))
 refine xg 1 [] rfl rfl ?_
 refine n_ (t_ ?_)
 refine g_cutc (α := {x : Bool // x = true → (1 ≤ p.length ∧ p.length ≤ 20 ∧ l.length ≤ 60) ∧ (∀ m, 0 ≤ m → m < p.length → plP p m)}) (fun x => [(0, st8 p), (1, st8 l), (7, .pointer (some ⟨b1, 0, none⟩)), (8, .int .i64 ern), (9, .bool x.1)]) (fun x => [.cells b1 28 (nC (.mk nk ns nm nx nu (.slice pv nq.length cv) nq)), .forest [(.mk nk ns nm nx nu (.slice pv nq.length cv) nq)]]) ?_ ?_
 ·rintro ⟨b, gx⟩
  try dsimp only
  refine t_ (s_ (s_ (o_ ?_)))
  refine xg 2 [] rfl rfl ?_
  refine n_ (t_ ?_)
  first | refine g_casep 66 rfl (fun h89 => ?_) fun h89 => ?_ | refine g_caseb 66 rfl (fun h89 => ?_) fun h89 => ?_
  ·refine g_cond_t rfl (s_ (o_ ?_))
   refine g_call1 rfl rfl rfl Try.call13 (fun w hS => alive_any w (hS.maxHere hz (by simp))) ?_
   refine xg 1 [] rfl rfl ?_
   refine n_ (t_ (g_ret (g_then_ret ?_)))
   refine g_end1 Try.results5 rfl ?_
   exact fun w hS => ⟨rfl, hS.below⟩
  refine g_cond_f rfl (g_skip (t_ (s_ ?_)))
  obtain ⟨hcn, hall⟩ := gx (by simpa using ‹(!b) = false›)
  obtain ⟨h0, hng, htm⟩ := plain_mM hpar (plP_all hall) hcn.1 hcn.2.1
  dsimp only at h0 hng htm
  subst h0
  refine o_ ?_
  refine xg 1 [] rfl rfl ?_
  refine n_ (t_ (s_ (s_ (o_ ?_))))
  refine xg 1 [] rfl rfl ?_
  refine n_ (t_ ?_)
  refine g_cutc (α := {x : Int // (x = -1 ∧ (∀ m, ¬ occ l p m)) ∨ (∃ a : Nat, x = a ∧ a + p.length ≤ l.length ∧ occ l p a ∧ (∀ m, m < a → ¬ occ l p m))}) (fun x => [(0, st8 p), (1, st8 l), (7, .pointer (some ⟨b1, 0, none⟩)), (8, .int .i64 0), (11, .int .i64 x.1)]) (fun x => [.cells b1 28 (nC (.mk nk ns nm nx nu (.slice pv nq.length cv) nq)), .forest [(.mk nk ns nm nx nu (.slice pv nq.length cv) nq)]]) ?_ ?_
  ·rintro ⟨at_, gx⟩
   try dsimp only
   refine t_ (s_ ?_)
   rcases gx with ⟨rfl, hno⟩ | ⟨a, rfl, ha1, ha2, ha3⟩
   ·refine o_ ?_
    refine xg 2 [0] rfl (by omega) ?_
    refine g_c1 (m_find ⟨l, false⟩ (.mk nk ns nm nx nu (.slice pv nq.length cv) nq) 0 (by show l.length ≤ _; omega) (by have := parX_size hpar; dsimp only at this; omega)) (fun w hS => forest_rd hS (i := 1) rfl) rfl rfl rfl ?_
    rw [plain_none htm hno, sp_none]
    refine xg 3 [] rfl rfl ?_
    refine g_alloc rfl rfl Try.zeroValue36 rfl (fun b17 => ?_)
    refine xg 2 [0] rfl (by omega) ?_
    refine n_ (t_ (s_ (s_ (o_ ?_))))
    refine xg 2 [1] rfl (by omega) ?_
    refine n_ (t_ (g_cond_t rfl (s_ (o_ ?_))))
    refine g_call1 rfl rfl rfl Try.call13 (fun w hS => alive_any w (hS.maxHere hz (by simp))) ?_
    refine xg 9 [1] rfl (by omega) ?_
    refine n_ (t_ (g_ret (g_then_ret ?_)))
    refine g_end1 Try.results5 rfl ?_
    exact fun w hS => ⟨rfl, hS.below⟩
   refine o_ ?_
   refine xg 2 [0] rfl (by omega) ?_
   refine g_c1 (m_find ⟨l, false⟩ (.mk nk ns nm nx nu (.slice pv nq.length cv) nq) 0 (by show l.length ≤ _; omega) (by have := parX_size hpar; dsimp only at this; omega)) (fun w hS => forest_rd hS (i := 1) rfl) rfl rfl rfl ?_
   rw [plain_some hng htm hcn.2.2 ha1 ha2 ha3, sp_found]
   refine xg 3 [] rfl rfl ?_
   refine g_alloc rfl rfl Try.zeroValue36 rfl (fun b18 => ?_)
   refine xg 2 [0] rfl (by omega) ?_
   refine n_ (t_ (s_ (s_ (o_ ?_))))
   refine xg 2 [2] rfl (by omega) ?_
   refine n_ (t_ (g_cond_f rfl (g_skip (t_ (s_ (o_ ?_))))))
   refine g_call1 rfl rfl rfl Try.call13 (fun w hS => alive_any w (hS.maxHere hz (by simp))) ?_
   refine xg 20 [1,0,1,0] rfl (by omega) ?_
   refine g_val (v := .int .i64 (p.length : Int)) rfl rfl rfl (y_val (y_slen rfl Try.underlying9) (by rw [size_mk])) ?_
   refine xg 10 [1,0,1] rfl (by omega) ?_
   refine n_ (t_ (g_ret ?_))
   refine g_end1 Try.results5 rfl ?_
   exact fun w hS => ⟨rfl, hS.below⟩
  intro hj
  refine g_block ?_
  refine g_loop (α := {x : Nat × Int // x.1 ≤ l.length + 1 ∧ ((x.2 = -1 ∧ (∀ m, m < x.1 → ¬ occ l p m)) ∨ (∃ a : Nat, x.2 = a ∧ a + p.length ≤ l.length ∧ occ l p a ∧ (∀ m, m < a → ¬ occ l p m)))}) (fun x => [(0, st8 p), (1, st8 l), (7, .pointer (some ⟨b1, 0, none⟩)), (8, .int .i64 0), (11, .int .i64 x.1.2), (12, .int .i64 (x.1.1 : Int))]) (fun x => St w [] [.cells b1 28 (nC (.mk nk ns nm nx nu (.slice pv nq.length cv) nq)), .forest [(.mk nk ns nm nx nu (.slice pv nq.length cv) nq)]]) (fun x => l.length + 1 - x.1.1) ⟨(0, -1), Nat.zero_le _, .inl ⟨rfl, fun m h => by omega⟩⟩ [0, 1, 7, 8, 11, 12] rfl (fun w h => h.pick [0,0] rfl) ?_
  rintro ⟨⟨i, at_⟩, gi, gx⟩
  dsimp only
  dsimp only at gi gx
  refine s_ (s_ (o_ ?_))
  refine xg 3 [0] rfl rfl ?_
  refine g_casep 70 rfl (fun h90 => ?_) fun h90 => ?_
  ·refine xg 2 [] rfl rfl ?_
   refine g_val (v := .int .i64 (p.length : Int)) rfl rfl rfl (y_val (y_slen rfl Try.underlying9) (by rw [size_mk])) ?_
   refine xg 2 [] rfl (by omega) ?_
   refine g_val (v := .int .i64 (l.length : Int)) rfl rfl rfl (y_val (y_slen rfl Try.underlying9) (by rw [size_mk])) ?_
   refine xg 2 [0] rfl rfl ?_
   refine n_ (t_ ?_)
   refine g_casep 78 rfl (fun h91 => ?_) fun h91 => ?_
   ·refine g_cond_t rfl (g_skip (t_ (s_ (g_block (s_ ?_)))))
    obtain ⟨rfl, gx0⟩ := occ_at gx (by omega)
    refine o_ ?_
    refine xg 4 [] rfl rfl ?_
    refine g_val (v := .int .i64 (p.length : Int)) rfl rfl rfl (y_val (y_slen rfl Try.underlying9) (by rw [size_mk])) ?_
    refine xg 4 [] rfl (by omega) ?_
    refine n_ (t_ ?_)
    refine g_casep 89 rfl (fun h92 => ?_) fun h92 => ?_
    ·refine g_cond_t rfl (o_ ?_)
     refine xg 2 [] rfl rfl ?_
     refine n_ (g_in_normal (t_ (o_ ?_)))
     refine xg 3 [] rfl (by omega) ?_
     refine n_ ?_
     exact g_again ⟨(i + 1, (i : Int)), by dsimp only; omega, .inr ⟨i, rfl, by omega, occ_iff.1 (by assumption), gx0⟩⟩ [0, 1, 7, 8, 11, 12] (by dsimp only; omega) rfl (fun w h => h.pick [0,0] rfl)
    refine g_cond_f rfl (g_skip (g_in_normal (t_ (o_ ?_))))
    refine xg 3 [] rfl (by omega) ?_
    refine n_ ?_
    exact g_again ⟨(i + 1, -1), by dsimp only; omega, .inl ⟨rfl, occ_next gx0 (by assumption)⟩⟩ [0, 1, 7, 8, 11, 12] (by dsimp only; omega) rfl (fun w h => h.pick [0,0] rfl)
   refine g_cond_f rfl (g_exit (g_then_exit (g_then_exit (g_in_exit ?_))))
   exact g_fall (hj ⟨at_, occ_stop gx hcn.1 (fun _ => by omega)⟩) [0, 1, 7, 8, 11] rfl (fun w h => h.pick [0,0] rfl)
  refine xg 8 [] rfl rfl ?_
  refine n_ (t_ (g_cond_f rfl (g_exit (g_then_exit (g_then_exit (g_in_exit ?_))))))
  exact g_fall (hj ⟨at_, occ_stop gx hcn.1 (fun _ => by omega)⟩) [0, 1, 7, 8, 11] rfl (fun w h => h.pick [0,0] rfl)
 intro hj
 refine g_block ?_
 refine g_loop (α := {x : Nat × Bool // x.1 ≤ p.length ∧ (x.2 = true → (1 ≤ p.length ∧ p.length ≤ 20 ∧ l.length ≤ 60) ∧ (∀ m, 0 ≤ m → m < x.1 → plP p m))}) (fun x => [(0, st8 p), (1, st8 l), (7, .pointer (some ⟨b1, 0, none⟩)), (8, .int .i64 ern), (9, .bool x.1.2), (10, .int .i64 (x.1.1 : Int))]) (fun x => St w [] [.cells b1 28 (nC (.mk nk ns nm nx nu (.slice pv nq.length cv) nq)), .forest [(.mk nk ns nm nx nu (.slice pv nq.length cv) nq)]]) (fun x => p.length - x.1.1) ⟨(0, false), Nat.zero_le _, fun h => by cases h⟩ [0, 1, 7, 8, 9, 10] rfl (fun w h => h.pick [0,0] rfl) ?_
 rintro ⟨⟨i, b⟩, gi, gx⟩
 dsimp only
 dsimp only at gi gx
 refine s_ (s_ (o_ ?_))
 refine xg 2 [] rfl rfl ?_
 refine g_val (v := .int .i64 (p.length : Int)) rfl rfl rfl (y_val (y_slen rfl Try.underlying9) (by rw [size_mk])) ?_
 refine xg 2 [0] rfl rfl ?_
 refine g_casep 38 rfl (fun h93 => ?_) fun h93 => ?_
 ·refine xg 2 [] rfl rfl ?_
  refine n_ (t_ ?_)
  refine g_caseb 40 rfl (fun h94 => ?_) fun h94 => ?_
  ·refine g_cond_t rfl (g_skip (t_ (s_ (g_block (o_ ?_)))))
   refine xg 2 [] rfl rfl ?_
   obtain ⟨ch, hch, hch8⟩ := st8_get (l := p) (i := i) (by omega)
   refine g_val rfl rfl rfl (y_sidx (i := i) rfl rfl Try.underlying9 hch8) ?_
   refine xg 2 [0] rfl rfl ?_
   refine g_casep 47 rfl (fun h95 => ?_) fun h95 => ?_
   ·refine xg 2 [] rfl rfl ?_
    refine g_val rfl rfl rfl (y_sidx (i := i) rfl rfl Try.underlying9 hch8) ?_
    refine xg 3 [0] rfl rfl ?_
    refine g_casep 53 rfl (fun h96 => ?_) fun h96 => ?_
    ·refine xg 12 [] rfl rfl ?_
     refine n_ (g_in_normal (t_ (o_ ?_)))
     refine xg 3 [] rfl (by omega) ?_
     refine n_ ?_
     exact g_again ⟨(i + 1, true), by dsimp only; omega, fun _ => ⟨(gx (by assumption)).1, run_more (l := p) (P := plP p) (gx (by assumption)).2 ⟨ch, hch, by omega⟩⟩⟩ [0, 1, 7, 8, 9, 10] (by dsimp only; omega) rfl (fun w h => h.pick [0,0] rfl)
    refine xg 2 [] rfl rfl ?_
    refine g_val rfl rfl rfl (y_sidx (i := i) rfl rfl Try.underlying9 hch8) ?_
    refine xg 2 [0] rfl rfl ?_
    refine g_casep 58 rfl (fun h97 => ?_) fun h97 => ?_
    ·refine xg 2 [] rfl rfl ?_
     refine g_val rfl rfl rfl (y_sidx (i := i) rfl rfl Try.underlying9 hch8) ?_
     refine xg 4 [0] rfl rfl ?_
     refine n_ (g_in_normal (t_ (o_ ?_)))
     refine xg 3 [] rfl (by omega) ?_
     refine n_ ?_
     first | refine g_casep 9 rfl (fun h98 => ?_) (fun h98 => ?_) | refine g_caseb 9 rfl (fun h98 => ?_) (fun h98 => ?_)
     · exact g_again ⟨(i + 1, true), by dsimp only; omega, fun _ => ⟨(gx (by assumption)).1, run_more (l := p) (P := plP p) (gx (by assumption)).2 ⟨ch, hch, by omega⟩⟩⟩ [0, 1, 7, 8, 9, 10] (by dsimp only; omega) rfl (fun w h => h.pick [0,0] rfl)
     · exact g_again ⟨(i + 1, false), by dsimp only; omega, fun h => by cases h⟩ [0, 1, 7, 8, 9, 10] (by dsimp only; omega) rfl (fun w h => h.pick [0,0] rfl)
    refine xg 7 [] rfl rfl ?_
    refine n_ (g_in_normal (t_ (o_ ?_)))
    refine xg 3 [] rfl (by omega) ?_
    refine n_ ?_
    exact g_again ⟨(i + 1, false), by dsimp only; omega, fun h => by cases h⟩ [0, 1, 7, 8, 9, 10] (by dsimp only; omega) rfl (fun w h => h.pick [0,0] rfl)
   refine xg 8 [] rfl rfl ?_
   refine g_val rfl rfl rfl (y_sidx (i := i) rfl rfl Try.underlying9 hch8) ?_
   refine xg 2 [0] rfl rfl ?_
   refine g_casep 58 rfl (fun h99 => ?_) fun h99 => ?_
   ·refine xg 2 [] rfl rfl ?_
    refine g_val rfl rfl rfl (y_sidx (i := i) rfl rfl Try.underlying9 hch8) ?_
    refine xg 4 [0] rfl rfl ?_
    refine n_ (g_in_normal (t_ (o_ ?_)))
    refine xg 3 [] rfl (by omega) ?_
    refine n_ ?_
    first | refine g_casep 9 rfl (fun h100 => ?_) (fun h100 => ?_) | refine g_caseb 9 rfl (fun h100 => ?_) (fun h100 => ?_)
    · exact g_again ⟨(i + 1, true), by dsimp only; omega, fun _ => ⟨(gx (by assumption)).1, run_more (l := p) (P := plP p) (gx (by assumption)).2 ⟨ch, hch, by omega⟩⟩⟩ [0, 1, 7, 8, 9, 10] (by dsimp only; omega) rfl (fun w h => h.pick [0,0] rfl)
    · exact g_again ⟨(i + 1, false), by dsimp only; omega, fun h => by cases h⟩ [0, 1, 7, 8, 9, 10] (by dsimp only; omega) rfl (fun w h => h.pick [0,0] rfl)
   refine xg 7 [] rfl rfl ?_
   refine n_ (g_in_normal (t_ (o_ ?_)))
   refine xg 3 [] rfl (by omega) ?_
   refine n_ ?_
   exact g_again ⟨(i + 1, false), by dsimp only; omega, fun h => by cases h⟩ [0, 1, 7, 8, 9, 10] (by dsimp only; omega) rfl (fun w h => h.pick [0,0] rfl)
  refine g_cond_f rfl (g_exit (g_then_exit (g_then_exit (g_in_exit ?_))))
  exact g_fall (hj ⟨b, fun hb => by first | exact ⟨(gx hb).1, fun m h1 h2 => (gx hb).2 m h1 (by omega)⟩ | (rw [show b = false by assumption] at hb; cases hb)⟩) [0, 1, 7, 8, 9] rfl (fun w h => h.pick [0,0] rfl)
 refine xg 2 [] rfl rfl ?_
 refine n_ (t_ (g_cond_f rfl (g_exit (g_then_exit (g_then_exit (g_in_exit ?_))))))
 exact g_fall (hj ⟨b, fun hb => by first | exact ⟨(gx hb).1, fun m h1 h2 => (gx hb).2 m h1 (by omega)⟩ | (rw [show b = false by assumption] at hb; cases hb)⟩) [0, 1, 7, 8, 9] rfl (fun w h => h.pick [0,0] rfl)

theorem mplain_law (s t : ByteArray) (b : Bool) (hs : s.size ≤ maxLen) (ht : t.size ≤ maxLen) (w : World) (hsh : w.ShapedOpen Try.prog) : Calls Try.prog 5 #[.string s, .string t, .bool b] w fun e w' => e = .returned (.bool true) ∧ Below w.heap.size w w' := by
  have h := mplain_any s.data.toList t.data.toList b (by rw [Array.length_toList]; exact hs) (by rw [Array.length_toList]; exact ht) w (maxHere_of hsh)
  unfold st8 at h
  rw [Array.toArray_toList, Array.toArray_toList] at h
  exact h
end Go.Proofs.Ytfcamlkbkehlnaa

/- MatchRounds. -/
namespace Go.Proofs.Ytfcamlkbkehlnaa
open Go Go.RowKit

theorem orB0 : ∀ n : Fin 64, orB 0 n.val = (2 ^ n.val : Int) := by decide +kernel
theorem withS_one (c : UInt8) : withS s0 c.toNat 1 = upd s0 (c.toNat / 64) ((2 ^ (c.toNat % 64) : Nat) : Int) := by
  rw [Int.natCast_pow]
  show upd s0 ((c.toNat + 0) / 64) (orB (s0 ((c.toNat + 0) / 64)) ((c.toNat + 0) % 64)) = _
  rw [Nat.add_zero]
  congr 1
  exact orB0 ⟨c.toNat % 64, Nat.mod_lt _ (by decide)⟩
theorem findR_congr {x : Tx} {t u : MT} {fr : Int} (h : ∀ i j, i ≤ x.n → mM x t i j = mM x u i j) (ht : ngT t) (hu : ngT u) : findR x t fr = findR x u fr := by
  have e : ∀ c f, c + f ≤ x.n + 1 → findF x t c f = findF x u c f := by
    intro c
    induction c with
    | zero => intro f _; rfl
    | succ c ih =>
      intro f hf
      rw [findF, findF, ih _ (by omega)]
      have e1 : (fun j => mM x t f j) = fun j => mM x u f j := by funext j; exact h f j (by omega)
      rw [e1]
  unfold findR
  split
  · rename_i hh
    rw [e _ _ (by omega)]
    split
    · rw [gM_ng t _ _ _ ht, gM_ng u _ _ _ hu]
    · rfl
  · rfl
/-- K, just c times. -/
def Pw (K : Nat → Nat → Bool) : Nat → Nat → Nat → Prop
  | 0, i, j => j = i
  | c + 1, i, j => ∃ k, K i k = true ∧ Pw K c k j
theorem Pw_add {K : Nat → Nat → Bool} : ∀ (a b i j : Nat), Pw K (a + b) i j ↔ ∃ k, Pw K a i k ∧ Pw K b k j
  | 0, b, i, j => by
    rw [Nat.zero_add]
    exact ⟨fun h => ⟨i, rfl, h⟩, fun ⟨k, h1, h2⟩ => by have : k = i := h1; subst this; exact h2⟩
  | a + 1, b, i, j => by
    rw [show a + 1 + b = (a + b) + 1 by omega]
    constructor
    · rintro ⟨k, h1, h2⟩
      obtain ⟨m, h3, h4⟩ := (Pw_add a b k j).1 h2
      exact ⟨m, ⟨k, h1, h3⟩, h4⟩
    · rintro ⟨m, ⟨k, h1, h3⟩, h4⟩
      exact ⟨k, h1, (Pw_add a b k j).2 ⟨m, h3, h4⟩⟩
theorem Pw_in {n : Nat} {K : Nat → Nat → Bool} (hK : ∀ i k, i ≤ n → K i k = true → i < k ∧ k ≤ n) : ∀ (c i j : Nat), i ≤ n → Pw K c i j → i + c ≤ j ∧ j ≤ n
  | 0, i, j, hi, h => by have : j = i := h; omega
  | c + 1, i, j, hi, ⟨k, h1, h2⟩ => by
    have h3 := hK i k hi h1
    have h4 := Pw_in hK c k j h3.2 h2
    omega
theorem rep_pow {n : Nat} {K : Nat → Nat → Bool} (hK : ∀ i k, i ≤ n → K i k = true → i < k ∧ k ≤ n) : ∀ (c i j : Nat), i ≤ n → (rep n K (n + 1) c c i j = true ↔ Pw K c i j)
  | 0, i, j, hi => by
    rw [rep_step hi]
    simp only [Bool.or_eq_true, Bool.and_eq_true, decide_eq_true_eq, any_range]
    constructor
    · rintro (⟨h, _⟩ | ⟨h, _⟩)
      · exact h
      · exact absurd rfl h
    · intro h
      exact .inl ⟨h, .inl rfl⟩
  | c + 1, i, j, hi => by
    rw [rep_step hi]
    simp only [Bool.or_eq_true, Bool.and_eq_true, decide_eq_true_eq, any_range]
    rw [show max (((c + 1 : Nat) : Int) - 1) 0 = (c : Int) by omega, if_pos (show (0 : Int) < ((c + 1 : Nat) : Int) by omega), show (((c + 1 : Nat) : Int) - 1) = (c : Int) by omega]
    constructor
    · rintro (⟨_, h | h⟩ | ⟨_, m, h1, ⟨h2, h3⟩, h4⟩)
      · omega
      · have := hK i i hi h; omega
      · exact ⟨m, h3, (rep_pow hK c m j (by omega)).1 h4⟩
    · rintro ⟨k, h1, h2⟩
      have h3 := hK i k hi h1
      exact .inr ⟨by omega, k, by omega, ⟨h3.1, h1⟩, (rep_pow hK c k j h3.2).2 h2⟩
def reV (c : Nat) (v : Value) (t : MT) : MT := .mk 4 s0 c c 0 v [t]
theorem mM_times {x : Tx} {t : MT} {v : Value} (hK : ∀ i k, i ≤ x.n → mM x t i k = true → i < k ∧ k ≤ x.n) (c i j : Nat) (hi : i ≤ x.n) : mM x (reV c v t) i j = true ↔ Pw (mM x t) c i j := by
  unfold reV
  rw [mM_mk, if_neg (by decide), if_neg (by decide), if_neg (by decide), if_neg (by decide), if_neg (by decide), if_neg (by decide), if_pos rfl]
  have e : (fun a b => mKid x [t] a b) = mM x t := by funext a b; rw [mKid_cons]
  rw [e]
  by_cases h : c ≤ x.n + 1
  · rw [show cLo x.n c = (c : Int) by unfold cLo; omega, show cHi x.n c = (c : Int) by unfold cHi; omega]
    exact rep_pow hK c i j hi
  · rw [show cLo x.n c = ((x.n + 1 : Nat) : Int) by unfold cLo; omega, show cHi x.n c = ((x.n + 1 : Nat) : Int) by unfold cHi; omega, rep_pow hK _ i j hi]
    constructor
    · intro h1; have := Pw_in hK _ i j hi h1; omega
    · intro h1; have := Pw_in hK _ i j hi h1; omega
/-- Rounds add up. -/
theorem rounds_eq {x : Tx} {p : List UInt8} {a b : Nat} {v v1 v2 v3 v4 : Value} {fr : Int} (hp : 1 ≤ p.length) : findR x (.mk 2 s0 0 0 0 v1 [reV a v2 (.mk 2 s0 0 0 0 v (p.map oneM)), reV b v3 (.mk 2 s0 0 0 0 v (p.map oneM))]) fr = findR x (reV (a + b) v4 (.mk 2 s0 0 0 0 v (p.map oneM))) fr := by
  have hR : ∀ i k, i ≤ x.n → (mM x (.mk 2 s0 0 0 0 v (p.map oneM)) i k = true ↔ k = i + p.length ∧ occ x.l p i) := fun i k hi => by
    rw [mM_mk, if_neg (by decide), if_neg (by decide), if_neg (by decide), if_pos rfl]; exact mRow_plain p hi
  have hK : ∀ i k, i ≤ x.n → mM x (.mk 2 s0 0 0 0 v (p.map oneM)) i k = true → i < k ∧ k ≤ x.n := fun i k hi h => by
    have h1 := (hR i k hi).1 h
    have h2 := mM_in _ hi h
    omega
  have hng : ngT (.mk 2 s0 0 0 0 v (p.map oneM)) := ngT_mk.2 ⟨by decide, ngL_one p⟩
  have hnv : ∀ c w, ngT (reV c w (.mk 2 s0 0 0 0 v (p.map oneM))) := fun c w => ngT_mk.2 ⟨by decide, ngL_cons.2 ⟨hng, ngL_nil⟩⟩
  refine findR_congr (fun i j hi => ?_) (ngT_mk.2 ⟨by decide, ngL_cons.2 ⟨hnv _ _, ngL_cons.2 ⟨hnv _ _, ngL_nil⟩⟩⟩) (hnv _ _)
  rw [Bool.eq_iff_iff, mM_times hK _ _ _ hi, Pw_add, mM_mk, if_neg (by decide), if_neg (by decide), if_neg (by decide), if_pos rfl, mRow_two]
  constructor
  · rintro ⟨k, h1, h2, h3, h4⟩
    rw [mRow_one h1] at h4
    exact ⟨k, (mM_times hK _ _ _ hi).1 h3, (mM_times hK _ _ _ h1).1 h4⟩
  · rintro ⟨k, h1, h2⟩
    have h3 := Pw_in hK _ _ _ hi h1
    exact ⟨k, h3.2, by omega, (mM_times hK _ _ _ hi).2 h1, by rw [mRow_one h3.2]; exact (mM_times hK _ _ _ h3.2).2 h2⟩
theorem wL_ones : ∀ (p : List UInt8), wL (p.map oneM) = p.length
  | [] => by rw [List.map_nil, wL]; rfl
  | c :: p => by rw [List.map_cons, wL, wL_ones p]; unfold oneM; rw [wT_mk, wL, List.length_cons]; omega
theorem rdL_ones {w : World} : ∀ (p : List UInt8), rdL w (p.map oneM)
  | [] => rdL_nil
  | c :: p => rdL_cons.2 ⟨rd_leaf, rdL_ones p⟩
theorem rd_row {w : World} {v : Value} {q : List MT} {k : Int} {s : Nat → Int} {mi ma nu : Int} (h : w.ownsRow 0 28 9 v q.length (q.flatMap nC)) (hq : rdL w q) : (MT.mk k s mi ma nu v q).rd w := by
  obtain ⟨p, c, rfl⟩ : ∃ p c, v = .slice p q.length c := by
    obtain ⟨_, ⟨h4, h5⟩ | ⟨g, c, cur, h4, _⟩⟩ := h
    · exact ⟨none, 0, by rw [h4, h5]⟩
    · exact ⟨_, _, h4⟩
  exact rd_mk.2 ⟨⟨_, _, rfl, rd_of_row nC nC_len rfl h⟩, hq⟩

theorem u8_small {a : Nat} (h : a < 256) : IntKind.u8.wrap (a : Int) = (a : Int) := by
  simp [IntKind.wrap, IntKind.bits, IntKind.signed]; omega
theorem ones_more {p : List UInt8} {i : Nat} {c : UInt8} (h : p[i]? = some c) : (p.take i).map oneM ++ [oneM c] = (p.take (i + 1)).map oneM := by
  rw [List.take_add_one, h, List.map_append]; rfl

set_option maxRecDepth 100000 in
theorem mround_any (p l : List UInt8) (a0 b0 : Int) (hp : p.length ≤ maxLen) (hl : l.length ≤ maxLen) (w : World) (hz : MaxHere w) :
    Calls Try.prog 6 #[st8 p, st8 l, .agg #[.int .i64 a0, .int .i64 b0]] w fun e w' => e = .returned (.bool true) ∧ Below w.heap.size w w' := by
 have hmax : maxLen = 9223372036854775807 := rfl
 refine fn_intro Try.func6 rfl Try.ntmps6 rfl rfl ?_
 refine s_ (o_ ?_)
 refine g_box rfl rfl rfl rfl (fun b1 => ?_)
 refine xg 1 [] rfl rfl ?_
 refine ntso_ ?_
 refine xg 3 [0] rfl (by omega) ?_
 refine ntso_ ?_
 refine xg 3 [0] rfl (by omega) ?_
 refine n_ (t_ (s_ (s_ (o_ ?_))))
 refine xg 3 [0] rfl rfl ?_
 refine g_casep 25 rfl (fun h1 => ?_) fun h1 => ?_
 ·refine xg 26 [] rfl rfl ?_
  refine n_ (t_ (g_cond_t rfl (s_ (o_ ?_))))
  refine g_call1 rfl rfl rfl Try.call13 (fun w hS => alive_any w (hS.maxHere hz (by simp))) ?_
  refine xg 1 [] rfl rfl ?_
  refine n_ (t_ (g_ret (g_then_ret ?_)))
  refine g_end1 Try.results6 rfl ?_
  exact fun w hS => ⟨rfl, hS.below⟩
 refine xg 4 [0] rfl rfl ?_
 refine g_casep 29 rfl (fun h2 => ?_) fun h2 => ?_
 ·refine xg 22 [] rfl rfl ?_
  refine n_ (t_ (g_cond_t rfl (s_ (o_ ?_))))
  refine g_call1 rfl rfl rfl Try.call13 (fun w hS => alive_any w (hS.maxHere hz (by simp))) ?_
  refine xg 1 [] rfl rfl ?_
  refine n_ (t_ (g_ret (g_then_ret ?_)))
  refine g_end1 Try.results6 rfl ?_
  exact fun w hS => ⟨rfl, hS.below⟩
 refine xg 4 [0] rfl rfl ?_
 refine g_casep 33 rfl (fun h3 => ?_) fun h3 => ?_
 ·refine xg 18 [] rfl rfl ?_
  refine n_ (t_ (g_cond_t rfl (s_ (o_ ?_))))
  refine g_call1 rfl rfl rfl Try.call13 (fun w hS => alive_any w (hS.maxHere hz (by simp))) ?_
  refine xg 1 [] rfl rfl ?_
  refine n_ (t_ (g_ret (g_then_ret ?_)))
  refine g_end1 Try.results6 rfl ?_
  exact fun w hS => ⟨rfl, hS.below⟩
 refine xg 4 [0] rfl rfl ?_
 refine g_casep 37 rfl (fun h4 => ?_) fun h4 => ?_
 ·refine xg 14 [] rfl rfl ?_
  refine n_ (t_ (g_cond_t rfl (s_ (o_ ?_))))
  refine g_call1 rfl rfl rfl Try.call13 (fun w hS => alive_any w (hS.maxHere hz (by simp))) ?_
  refine xg 1 [] rfl rfl ?_
  refine n_ (t_ (g_ret (g_then_ret ?_)))
  refine g_end1 Try.results6 rfl ?_
  exact fun w hS => ⟨rfl, hS.below⟩
 refine xg 1 [] rfl rfl ?_
 refine g_val (v := .int .i64 (l.length : Int)) rfl rfl rfl (y_val (y_slen rfl Try.underlying9) (by rw [size_mk])) ?_
 refine xg 3 [0] rfl rfl ?_
 refine g_casep 42 rfl (fun h5 => ?_) fun h5 => ?_
 ·refine xg 9 [] rfl rfl ?_
  refine n_ (t_ (g_cond_t rfl (s_ (o_ ?_))))
  refine g_call1 rfl rfl rfl Try.call13 (fun w hS => alive_any w (hS.maxHere hz (by simp))) ?_
  refine xg 1 [] rfl rfl ?_
  refine n_ (t_ (g_ret (g_then_ret ?_)))
  refine g_end1 Try.results6 rfl ?_
  exact fun w hS => ⟨rfl, hS.below⟩
 refine xg 1 [] rfl rfl ?_
 refine g_val (v := .int .i64 (p.length : Int)) rfl rfl rfl (y_val (y_slen rfl Try.underlying9) (by rw [size_mk])) ?_
 refine xg 3 [0] rfl rfl ?_
 refine g_casep 47 rfl (fun h6 => ?_) fun h6 => ?_
 ·refine xg 4 [] rfl rfl ?_
  refine n_ (t_ (g_cond_t rfl (s_ (o_ ?_))))
  refine g_call1 rfl rfl rfl Try.call13 (fun w hS => alive_any w (hS.maxHere hz (by simp))) ?_
  refine xg 1 [] rfl rfl ?_
  refine n_ (t_ (g_ret (g_then_ret ?_)))
  refine g_end1 Try.results6 rfl ?_
  exact fun w hS => ⟨rfl, hS.below⟩
 refine xg 1 [] rfl rfl ?_
 refine g_val (v := .int .i64 (p.length : Int)) rfl rfl rfl (y_val (y_slen rfl Try.underlying9) (by rw [size_mk])) ?_
 refine xg 2 [0] rfl rfl ?_
 refine n_ (t_ ?_)
 refine g_casep 51 rfl (fun h7 => ?_) fun h7 => ?_
 ·refine g_cond_t rfl (s_ (o_ ?_))
  refine g_call1 rfl rfl rfl Try.call13 (fun w hS => alive_any w (hS.maxHere hz (by simp))) ?_
  refine xg 1 [] rfl rfl ?_
  refine n_ (t_ (g_ret (g_then_ret ?_)))
  refine g_end1 Try.results6 rfl ?_
  exact fun w hS => ⟨rfl, hS.below⟩
 refine g_cond_f rfl (g_skip (t_ (s_ ?_)))
 obtain ⟨a, rfl⟩ := Int.eq_ofNat_of_zero_le (show 0 ≤ a0 by omega)
 obtain ⟨b, rfl⟩ := Int.eq_ofNat_of_zero_le (show 0 ≤ b0 by omega)
 refine o_ ?_
 refine g_nilRow 28 9 ?_
 refine g_val rfl rfl rfl (y_assign rfl) ?_
 refine n_ (t_ (s_ (s_ (o_ ?_))))
 refine xg 1 [] rfl rfl ?_
 refine n_ (t_ (g_block ?_))
 refine g_loop (α := {x : Nat × Value // x.1 ≤ p.length}) (fun x => [(1, st8 l), (0, st8 p), (7, .int .i64 (a : Int)), (8, .int .i64 (b : Int)), (9, x.1.2), (10, .int .i64 (x.1.1 : Int))]) (fun x => St w [] [.row 28 9 x.1.2 ((p.take x.1.1).map oneM).length (((p.take x.1.1).map oneM).flatMap nC)]) (fun x => p.length - x.1.1) ⟨(0, .slice none 0 0), Nat.zero_le _⟩ [1, 0, 7, 8, 9, 10] rfl (fun w h => h.pick [0] rfl) ?_
 rintro ⟨⟨i, v9⟩, gi⟩
 dsimp only
 dsimp only at gi
 refine s_ (s_ (o_ ?_))
 refine xg 2 [] rfl rfl ?_
 refine g_val (v := .int .i64 (p.length : Int)) rfl rfl rfl (y_val (y_slen rfl Try.underlying9) (by rw [size_mk])) ?_
 refine xg 1 [0] rfl rfl ?_
 refine n_ (t_ ?_)
 refine g_casep 56 rfl (fun h8 => ?_) fun h8 => ?_
 ·refine g_cond_t rfl (g_skip (t_ (s_ (g_block (s_ (o_ ?_))))))
  refine g_alloc rfl rfl Try.zeroValue25 rfl (fun b11 => ?_)
  refine g_nrm (L' := .cells b11 25 (s4C s0) :: _) rfl ?_
  refine n_ (t_ (s_ ?_))
  obtain ⟨ch, hch, hch8⟩ := st8_get (l := p) (i := i) (by omega)
  have hc256 := ch.toNat_lt
  refine k_go [] rfl (by kernel_rfl) (fun _ _ _ _ _ h => h) fun hQ => ?_
  refine k_x 0 [] [] hQ (by kernel_rfl) rfl rfl rfl rfl rfl rfl ?_
  refine k_x 1 [] [] hQ (by kernel_rfl) rfl rfl rfl rfl rfl rfl ?_
  refine k_take 2 rfl (by kernel_rfl) hQ rfl rfl rfl (fun _ h => h.pick [] rfl) (y_sidx (i := i) rfl rfl Try.underlying9 hch8) ?_
  refine k_take (v := .int .u8 ((ch.toNat / 64 : Nat) : Int)) 3 rfl (by kernel_rfl) hQ rfl rfl rfl (fun _ h => h.pick [] rfl) (y_val (y_iquo rfl rfl (by decide)) (by rw [quo64, u8_small (by omega)])) ?_
  refine k_x 4 [] [] hQ (by kernel_rfl) rfl rfl rfl rfl rfl rfl ?_
  refine k_x 5 [] [] hQ (by kernel_rfl) rfl rfl rfl rfl rfl rfl ?_
  refine k_take 6 rfl (by kernel_rfl) hQ rfl rfl rfl (fun _ h => h.pick [] rfl) (y_sidx (i := i) rfl rfl Try.underlying9 hch8) ?_
  refine k_take (v := .int .u8 ((ch.toNat % 64 : Nat) : Int)) 7 rfl (by kernel_rfl) hQ rfl rfl rfl (fun _ h => h.pick [] rfl) (y_val (y_irem rfl rfl (by decide)) (by rw [rem64])) ?_
  refine k_take (v := .int .u64 ((2 ^ (ch.toNat % 64) : Nat) : Int)) 8 rfl (by kernel_rfl) hQ rfl rfl rfl (fun _ h => h.pick [] rfl) (y_val (y_shl rfl rfl (by omega)) (by rw [Int.toNat_natCast, show IntKind.u64.bits = 64 from rfl, Nat.min_eq_left (by omega), Int.one_mul, show (2 : Int) ^ (ch.toNat % 64) = ((2 ^ (ch.toNat % 64) : Nat) : Int) from (Int.natCast_pow 2 _).symm, u64_wrap (Nat.lt_of_lt_of_le (Nat.pow_lt_pow_right (by decide) (show ch.toNat % 64 < 64 by omega)) (by decide))])) ?_
  refine k_take 9 rfl (by kernel_rfl) hQ rfl rfl rfl (fun _ h => h.pick [] rfl) (y_idxArr (m := ch.toNat / 64) rfl rfl Try.underlying25 Try.sizeOf23 (by omega) (by omega) (by omega)) ?_
  refine k_one 10 (by kernel_rfl) ?_
  refine k_op 10 rfl ?_
  refine g_stV 0 rfl rfl rfl Try.sizeOf23 rfl rfl (show ch.toNat / 64 < 4 by omega) ?_
  simp only [List.set_cons_zero, List.set_cons_succ]
  rw [s4_set _ _ _ (show ch.toNat / 64 < 4 by omega), ← withS_one]
  refine n_ ?_
  refine k_end (fun _ h => h.pick [] rfl) ?_
  refine k_done (by kernel_rfl) ?_
  refine t_ (o_ ?_)
  refine xg 1 [] rfl rfl ?_
  refine g_val (v := .agg (s4C (withS s0 ch.toNat 1)).toArray) rfl rfl rfl (y_ldN 0 rfl Try.isAgg25 Try.sizeOf25 rfl rfl rfl) ?_
  refine xg 1 [] rfl rfl ?_
  refine g_buildSlice (offs := [0]) rfl rfl Try.underlying26 rfl Try.zeroValue28 (by kernel_rfl) (fun b2 => ?_)
  refine g_appS (bytes := 88) nC (oneM ch) 2 (j := 0) rfl rfl rfl rfl Try.underlying26 (by kernel_rfl) rfl rfl nC_len rfl (by rw [List.length_map, List.length_take]; omega) (by rw [List.length_map, List.length_take]; omega) (fun v3 => ?_)
  simp only [List.set_cons_zero, List.set_cons_succ]
  refine xg 1 [] rfl rfl ?_
  refine n_ (g_in_normal (t_ ?_))
  rw [ones_more hch]
  refine o_ ?_
  refine xg 3 [] rfl (by omega) ?_
  refine n_ ?_
  exact g_again ⟨(i + 1, v3), by omega⟩ [1, 0, 7, 8, 9, 10] (by dsimp only; omega) rfl (fun w h => h.pick [2] rfl)
 refine g_cond_f rfl (g_exit (g_then_exit (g_then_exit (g_in_exit (t_ (s_ ?_))))))
 obtain rfl : i = p.length := by omega
 rw [List.take_length]
 refine g_rowCase 0 rfl (by rw [List.length_map]; omega) (fun gr9 cr9 hv9 => ?_)
 cases hv9
 refine o_ ?_
 refine xg 2 [] rfl rfl ?_
 refine g_buildSlice (offs := [0]) rfl rfl Try.underlying26 rfl Try.zeroValue28 (by kernel_rfl) (fun b4 => ?_)
 refine xg 1 [] rfl rfl ?_
 refine ntso_ ?_
 refine xg 8 [] rfl rfl ?_
 refine g_buildSlice (offs := [0, 9]) rfl rfl Try.underlying26 rfl Try.zeroValue28 (by kernel_rfl) (fun b5 => ?_)
 refine xg 1 [] rfl rfl ?_
 refine g_alloc rfl rfl Try.zeroValue28 rfl (fun b6 => ?_)
 refine xg 1 [0] rfl (by omega) ?_
 refine ntso_ ?_
 refine xg 8 [] rfl (by omega) ?_
 refine g_alloc rfl rfl Try.zeroValue28 rfl (fun b7 => ?_)
 refine xg 1 [0] rfl (by omega) ?_
 refine n_ (t_ (s_ ?_))
 obtain ⟨r, hr⟩ : ∃ r, findR ⟨l, true⟩ (reV (a + b) (.slice (some ⟨b4, 0, none⟩) 1 1) (.mk 2 s0 0 0 0 (.slice (some ⟨gr9, 0, none⟩) ((p.map oneM).length) cr9) (p.map oneM))) 0 = r := ⟨_, rfl⟩
 have hr2 : findR ⟨l, true⟩ (.mk 2 s0 0 0 0 (.slice (some ⟨b5, 0, none⟩) 2 2) [reV a (.slice (some ⟨b4, 0, none⟩) 1 1) (.mk 2 s0 0 0 0 (.slice (some ⟨gr9, 0, none⟩) ((p.map oneM).length) cr9) (p.map oneM)), reV b (.slice (some ⟨b4, 0, none⟩) 1 1) (.mk 2 s0 0 0 0 (.slice (some ⟨gr9, 0, none⟩) ((p.map oneM).length) cr9) (p.map oneM))]) 0 = r := (rounds_eq (by omega)).trans hr
 refine o_ ?_
 refine xg 2 [1] rfl (by omega) ?_
 refine g_c1 (m_find ⟨l, true⟩ (.mk 2 s0 0 0 0 (.slice (some ⟨b5, 0, none⟩) 2 2) [reV a (.slice (some ⟨b4, 0, none⟩) 1 1) (.mk 2 s0 0 0 0 (.slice (some ⟨gr9, 0, none⟩) ((p.map oneM).length) cr9) (p.map oneM)), reV b (.slice (some ⟨b4, 0, none⟩) 1 1) (.mk 2 s0 0 0 0 (.slice (some ⟨gr9, 0, none⟩) ((p.map oneM).length) cr9) (p.map oneM))]) 0 (by show l.length ≤ _; omega) (by unfold reV; simp only [wT_mk, wL, wL_ones]; omega)) (fun w hS => rd_node rfl (hS.cells (i := 2) rfl) (rdL_cons.2 ⟨rd_node rfl (hS.cells (i := 3) rfl) (rdL_cons.2 ⟨rd_row (hS.get (i := 4) rfl) (rdL_ones p), rdL_nil⟩), rdL_cons.2 ⟨rd_node rfl (hS.cells (i := 3) rfl) (rdL_cons.2 ⟨rd_row (hS.get (i := 4) rfl) (rdL_ones p), rdL_nil⟩), rdL_nil⟩⟩)) rfl rfl rfl ?_
 rw [hr2]
 refine xg 3 [] rfl rfl ?_
 refine g_alloc rfl rfl Try.zeroValue36 rfl (fun b8 => ?_)
 refine xg 2 [0] rfl (by omega) ?_
 refine ntso_ ?_
 refine xg 2 [1] rfl (by omega) ?_
 refine g_c1 (m_find ⟨l, true⟩ (reV (a + b) (.slice (some ⟨b4, 0, none⟩) 1 1) (.mk 2 s0 0 0 0 (.slice (some ⟨gr9, 0, none⟩) ((p.map oneM).length) cr9) (p.map oneM))) 0 (by show l.length ≤ _; omega) (by unfold reV; simp only [wT_mk, wL, wL_ones]; omega)) (fun w hS => rd_node rfl (hS.cells (i := 4) rfl) (rdL_cons.2 ⟨rd_row (hS.get (i := 5) rfl) (rdL_ones p), rdL_nil⟩)) rfl rfl rfl ?_
 rw [hr]
 refine xg 3 [] rfl rfl ?_
 refine g_alloc rfl rfl Try.zeroValue36 rfl (fun b9 => ?_)
 refine xg 2 [0] rfl (by omega) ?_
 refine ntso_ ?_
 refine g_call1 rfl rfl rfl Try.call13 (fun w hS => alive_any w (hS.maxHere hz (by simp))) ?_
 refine xg 3 [1,0] rfl (by omega) ?_
 refine g_val (v := .bool true) rfl rfl rfl (y_mtEq r.1 rfl rfl) ?_
 refine xg 4 [] rfl rfl ?_
 refine g_val rfl rfl rfl (y_lit true (y_beq rfl rfl (by kernel_rfl)) (beq_self_eq_true _)) ?_
 refine xg 2 [] rfl rfl ?_
 refine n_ (t_ (g_ret ?_))
 refine g_end1 Try.results6 rfl ?_
 exact fun w hS => ⟨rfl, hS.below⟩

theorem mround_law (s t : ByteArray) (a b : Int) (hs : s.size ≤ maxLen) (ht : t.size ≤ maxLen) (w : World) (hsh : w.ShapedOpen Try.prog) : Calls Try.prog 6 #[.string s, .string t, .agg #[.int .i64 a, .int .i64 b]] w fun e w' => e = .returned (.bool true) ∧ Below w.heap.size w w' := by
  have h := mround_any s.data.toList t.data.toList a b (by rw [Array.length_toList]; exact hs) (by rw [Array.length_toList]; exact ht) w (maxHere_of hsh)
  unfold st8 at h
  rw [Array.toArray_toList, Array.toArray_toList] at h
  exact h
end Go.Proofs.Ytfcamlkbkehlnaa

