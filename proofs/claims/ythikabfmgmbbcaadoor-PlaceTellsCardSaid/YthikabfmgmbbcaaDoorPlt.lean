/- Places at any bits: moved, as text. -/
import Derived.Test.YthikabfmgmbbcaaDoorPlr
import Derived.Test.YthikabfmgmbbcaaDoorN
namespace Go.Proofs.YthikabfmgmbbcaaDoor
open Go Go.RowKit


/-- What a sum of two words may be: the word, or where there is none, some NaN. -/
def addR (u v r : Nat) : Prop := match Ieee.double.add u v with
  | some z => r = z
  | none => feq r r = false
theorem nan_cut (u v t : Nat) : feq ((Question.nanBits .f64 u v).cut t) ((Question.nanBits .f64 u v).cut t) = false := by
  refine feq_nan _ ?_
  show ∃ s f, Ieee.double.read ((t % 2) * 2 ^ 63 + 0x7ff0000000000000 + 1 + (t / 2) % (2 ^ 52 - 1)) = .nan s f
  have e3 : Ieee.double.binade = 2 ^ 52 := rfl
  have e4 : Ieee.double.infRung = 2047 * 2 ^ 52 := by decide
  have e7 : Ieee.double.signWeight = 2 ^ 63 := by decide
  unfold Ieee.Format.read
  rw [e3, e4, e7]
  generalize hx : (t / 2) % (2 ^ 52 - 1) = x
  have hlt : x < 2 ^ 52 - 1 := by rw [← hx]; exact Nat.mod_lt _ (by decide)
  generalize hy : t % 2 = y
  have hy2 : y < 2 := by omega
  have hr : (y * 2 ^ 63 + 0x7ff0000000000000 + 1 + x) % 2 ^ 63 = 0x7ff0000000000000 + 1 + x := by omega
  simp only [hr]
  rw [if_neg (by omega), if_neg (by omega), if_neg (by omega)]
  exact ⟨_, _, rfl⟩
theorem add_ord (u v r r' : Nat) (h : addR u v r) (h' : addR u v r') : ordI r r' = 0 := by
  unfold addR at h h'
  cases hq : Ieee.double.add u v with
  | some z => rw [hq] at h h'; simp only at h h'; rw [h, h']; exact ord_self z
  | none => rw [hq] at h h'; simp only at h h'; unfold ordI; rw [h, h']; simp
section
variable {P : Program} {N : Nat} {R : Regs} {S : World → Prop} {Q : Exit → Act → World → Prop} {ops : Array Oper} {rest : List Oper} {W0 : World} {F : List Nat} {L : List Ent}
variable {ty t t' : TypeId} {pos : String} {af : Array Edge} {gd : Option (Nat × Bool)} {x y : Operand}
theorem g_fadd {d : Nat} {u v : Nat} (hw : want ops R ⟨some d, .binOp .add t x y t', ty, pos, af, gd⟩ = some true) (hN : Nat.blt d N = true) (hx : ev R x = some (.float .f64 u)) (hy : ev R y = some (.float .f64 v))
    (h : ∀ r, addR u v r → G N ((d, .float .f64 r) :: R) (St W0 F L) (wpList P ops Q rest)) : G N R (St W0 F L) (wpList P ops Q (⟨some d, .binOp .add t x y t', ty, pos, af, gd⟩ :: rest)) :=
  g_one hw fun K a w hR hS hK => by
    cases hq : Ieee.double.add u v with
    | some z =>
      refine Oper.wp_ok (w' := w) (v := .float .f64 z) ?_ (hK _ _ (h z (by unfold addR; rw [hq]) _ _ (hR.put hN) hS))
      simp [execOp, hR.eval hx, hR.eval hy, Sem.run_bind, eqGuard, binOp, Op.floatArith, FloatKind.format, hq]
    | none =>
      refine Oper.wp_ok (w' := w.drew) (v := .float .f64 ((Question.nanBits .f64 u v).cut (w.tape w.drawn (.nanBits .f64 u v)))) ?_ (hK _ _ (h _ (by unfold addR; rw [hq]; exact nan_cut u v _) _ _ (hR.put hN) hS.drew))
      simp [execOp, hR.eval hx, hR.eval hy, Sem.run_bind, eqGuard, binOp, Op.floatArith, FloatKind.format, hq, Question.forced]
end


theorem cut_zero_le (m k b : Nat) (h : m ≤ b * 2 ^ k) : Ieee.Toward.zero.cut false m k ≤ b ∧ Ieee.Toward.zero.cut true m k ≤ b := by
  have hc : m / (1 <<< min k (m.log2 + 2)) ≤ b := by
    rw [Nat.shiftLeft_eq, Nat.one_mul]
    rcases Nat.le_total k (m.log2 + 2) with q | q
    · rw [Nat.min_eq_left q]
      exact Nat.div_le_of_le_mul (by rw [Nat.mul_comm]; exact h)
    · rw [Nat.min_eq_right q]
      have hm : m < 2 ^ (m.log2 + 2) := by
        have := Nat.lt_log2_self (n := m)
        rw [Nat.pow_succ]; omega
      rw [Nat.div_eq_of_lt hm]; omega
  unfold Ieee.Toward.cut
  constructor <;> simpa using hc
theorem read_0 : Ieee.double.read 0 = .number false 0 (-1074) := by decide +kernel
theorem read_m : Ieee.double.read 4845873199050653696 = .number false 4503599627370496 1 := by decide +kernel
theorem cmp_gt' {a b : Int} (h : compare a b = .gt) : b < a := by
  rcases Int.lt_trichotomy a b with q | q | q
  · rw [cmp_lt q] at h; cases h
  · rw [q, cmp_eq] at h; cases h
  · exact q
theorem cmp_eq' {a b : Int} (h : compare a b = .eq) : a = b := by
  rcases Int.lt_trichotomy a b with q | q | q
  · rw [cmp_lt q] at h; cases h
  · exact q
  · rw [cmp_gt q] at h; cases h
theorem cmp_lt' {a b : Int} (h : compare a b = .lt) : a < b := by
  rcases Int.lt_trichotomy a b with q | q | q
  · exact q
  · rw [q, cmp_eq] at h; cases h
  · rw [cmp_gt q] at h; cases h
/-- A word between 0 and 2^53 has a whole part between them. -/
theorem fig_cond (u : Nat) (h1 : (fgt u 0 || feq u 0) = true) (h2 : (flt u 4845873199050653696 || feq u 4845873199050653696) = true) : ∃ n : Int, (FloatKind.f64.decode u).toInt .zero = some n ∧ 0 ≤ n ∧ n ≤ 9007199254740992 := by
  show ∃ n : Int, (Ieee.double.read u).toInt .zero = some n ∧ 0 ≤ n ∧ n ≤ 9007199254740992
  unfold fgt feq Ieee.Format.order at h1
  unfold flt feq Ieee.Format.order at h2
  rw [read_0] at h1
  rw [read_m] at h2
  rcases read_num u with hu | ⟨s, f, hu⟩
  · generalize Ieee.double.read u = d at hu h1 h2
    match d, hu with
    | .infinity s, _ =>
      exfalso
      cases s
      · exact absurd h2 (by decide)
      · exact absurd h1 (by decide)
    | .number s m i, hu =>
      have hi : -1074 ≤ i := hu
      obtain ⟨E, hE⟩ : ∃ E : Nat, E = 1074 := ⟨_, rfl⟩
      rw [order_num s false m 0 i (-1074) hi (by omega)] at h1
      rw [order_num s false m 4503599627370496 i 1 hi (by omega)] at h2
      have e0 : Ieee.signed false 0 ((-1074 : Int) + 1074).toNat = 0 := by decide
      rw [e0] at h1
      have e1 : ((1 : Int) + 1074).toNat = 1 + E := by omega
      rw [e1, signed_lift] at h2
      have e2 : Ieee.signed false 4503599627370496 1 = 9007199254740992 := by decide
      rw [e2] at h2
      have hlo : 0 ≤ Ieee.signed s m (i + 1074).toNat := by
        simp only [Bool.or_eq_true, beq_iff_eq, Option.some.injEq] at h1
        rcases h1 with q | q
        · have := cmp_gt' q; omega
        · have := cmp_eq' q; omega
      have hhi : Ieee.signed s m (i + 1074).toNat ≤ 9007199254740992 * ((2 ^ E : Nat) : Int) := by
        simp only [Bool.or_eq_true, beq_iff_eq, Option.some.injEq] at h2
        rcases h2 with q | q
        · have := cmp_lt' q; omega
        · have := cmp_eq' q; omega
      clear h1 h2 e0 e1 e2
      obtain ⟨k, b, hk⟩ : ∃ k b : Nat, (i.toNat = k ∧ (-i).toNat = 0 ∧ (i + 1074).toNat = k + E ∧ b = 0) ∨ (i.toNat = 0 ∧ (-i).toNat = k ∧ (i + 1074).toNat = b ∧ b + k = E) := by
        by_cases h : 0 ≤ i
        · exact ⟨i.toNat, 0, .inl ⟨rfl, by omega, by omega, rfl⟩⟩
        · exact ⟨(-i).toNat, (i + 1074).toNat, .inr ⟨by omega, rfl, rfl, by omega⟩⟩
      have hp : 0 < 2 ^ E := Nat.two_pow_pos _
      -- the magnitude, in whole units or in parts
      have hmag : (s = true → m = 0) ∧ m * 2 ^ i.toNat ≤ 9007199254740992 * 2 ^ (-i).toNat := by
        have hab : (s = true → m * 2 ^ (i + 1074).toNat = 0) ∧ m * 2 ^ (i + 1074).toNat ≤ 9007199254740992 * 2 ^ E := by
          unfold Ieee.signed at hlo hhi
          rw [Nat.shiftLeft_eq] at hlo hhi
          generalize m * 2 ^ (i + 1074).toNat = M at hlo hhi ⊢
          generalize 2 ^ E = P at hhi ⊢
          cases s
          · simp only [Bool.false_eq_true, if_false] at hhi
            exact ⟨fun q => (by cases q), by omega⟩
          · simp only [if_true] at hlo hhi
            exact ⟨fun _ => (by omega), by omega⟩
        refine ⟨fun q => ?_, ?_⟩
        · have := hab.1 q
          rcases Nat.mul_eq_zero.1 this with z | z
          · exact z
          · exact absurd z (by have := Nat.two_pow_pos (i + 1074).toNat; omega)
        · have h3 := hab.2
          rcases hk with ⟨q1, q2, q3, _⟩ | ⟨q1, q2, q3, q4⟩
          · rw [q3, Nat.pow_add, ← Nat.mul_assoc] at h3
            rw [q1, q2, Nat.pow_zero, Nat.mul_one]
            exact Nat.le_of_mul_le_mul_right h3 hp
          · rw [q3, ← q4, Nat.pow_add, Nat.mul_comm (2 ^ b), ← Nat.mul_assoc] at h3
            rw [q1, q2, Nat.pow_zero, Nat.mul_one]
            exact Nat.le_of_mul_le_mul_right h3 (Nat.two_pow_pos b)
      have hcut := cut_zero_le (m * 2 ^ i.toNat) (-i).toNat 9007199254740992 hmag.2
      unfold Ieee.Datum.toInt Ieee.Datum.integral
      simp only [Nat.shiftLeft_eq]
      cases s
      · refine ⟨_, rfl, ?_, ?_⟩
        · rw [signed_pos]; omega
        · rw [signed_pos, Nat.pow_zero, Nat.mul_one]; omega
      · have hm0 := hmag.1 rfl
        subst hm0
        refine ⟨0, ?_, by omega, by omega⟩
        rw [Nat.zero_mul]
        have : Ieee.Toward.zero.cut true 0 (-i).toNat = 0 := by unfold Ieee.Toward.cut; simp
        rw [this]; rfl
  · rw [hu] at h1
    exact absurd h1 (by simp [Ieee.Datum.order])

end Go.Proofs.YthikabfmgmbbcaaDoor
