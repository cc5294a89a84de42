/-
  Floats: whole numbers are exact; the laws of their operations.
-/
import Derived.Test.YtpacnggomjepdaaB
import GoSem.Core.Float
namespace Go.Proofs.Ytpacnggomjepdaa
open Go Go.RowKit

theorem cmp_gt {a b : Int} (h : b < a) : compare a b = .gt := by
  rw [compare, instOrdInt]; simp only [compareOfLessAndEq]; rw [if_neg (by omega), if_neg (by omega)]
theorem cmp_lt {a b : Int} (h : a < b) : compare a b = .lt := by
  rw [compare, instOrdInt]; simp only [compareOfLessAndEq]; rw [if_pos h]
theorem cmp_eq (a : Int) : compare a a = .eq := by
  rw [compare, instOrdInt]; simp [compareOfLessAndEq]
def flN (n : Nat) : Nat := FloatKind.f64.nearest n
theorem log2_shift (n k : Nat) (h : 0 < n) : (n * 2 ^ k).log2 = n.log2 + k := by
  have hp : 0 < 2 ^ k := Nat.two_pow_pos k
  have hne : n * 2 ^ k ≠ 0 := Nat.mul_ne_zero (by omega) (by omega)
  rw [Nat.log2_eq_iff hne]
  have h1 : n.log2 = n.log2 := rfl
  rw [Nat.log2_eq_iff (by omega)] at h1
  constructor
  · rw [Nat.pow_add]; exact Nat.mul_le_mul_right _ h1.1
  · rw [show n.log2 + k + 1 = n.log2 + 1 + k by omega, Nat.pow_add]; exact Nat.mul_lt_mul_of_pos_right h1.2 hp
theorem cut_exact (m d : Nat) (hm : 0 < m) : Ieee.Toward.even.cut false (m * 2 ^ d) d = m := by
  unfold Ieee.Toward.cut
  have hl := log2_shift m d hm
  rw [Nat.min_eq_left (by omega), Nat.shiftLeft_eq, Nat.one_mul]
  have hp : 0 < 2 ^ d := Nat.two_pow_pos d
  have h1 : m * 2 ^ d % 2 ^ d = 0 := Nat.mul_mod_left m (2 ^ d)
  have h2 : m * 2 ^ d / 2 ^ d = m := Nat.mul_div_cancel m hp
  simp only [h1, h2]
  have h3 : (2 ^ d == 2 * 0) = false := by simp
  simp [h3]
theorem cut_zero (m d : Nat) (hm : 0 < m) : Ieee.Toward.zero.cut false (m * 2 ^ d) d = m := by
  unfold Ieee.Toward.cut
  have hl := log2_shift m d hm
  rw [Nat.min_eq_left (by omega), Nat.shiftLeft_eq, Nat.one_mul]
  have hp : 0 < 2 ^ d := Nat.two_pow_pos d
  have h2 : m * 2 ^ d / 2 ^ d = m := Nat.mul_div_cancel m hp
  simp [h2]
def wordOf (n : Nat) : Nat := if n = 0 then 0 else (n.log2 + 1022) * 2 ^ 52 + n * 2 ^ (52 - n.log2)
theorem log2_lt (n : Nat) (h : n < 2 ^ 53) : n.log2 ≤ 52 := by
  by_cases h0 : n = 0
  · subst h0; decide
  · have := (Nat.log2_lt h0).2 h
    omega
theorem kept_bd (n : Nat) (h0 : 0 < n) (h : n < 2 ^ 53) : 2 ^ 52 ≤ n * 2 ^ (52 - n.log2) ∧ n * 2 ^ (52 - n.log2) < 2 ^ 53 := by
  have hl := log2_lt n h
  have h1 : n.log2 = n.log2 := rfl
  rw [Nat.log2_eq_iff (by omega)] at h1
  have hp : 0 < 2 ^ (52 - n.log2) := Nat.two_pow_pos _
  constructor
  · calc 2 ^ 52 = 2 ^ n.log2 * 2 ^ (52 - n.log2) := by rw [← Nat.pow_add]; congr 1; omega
      _ ≤ _ := Nat.mul_le_mul_right _ h1.1
  · calc n * 2 ^ (52 - n.log2) < 2 ^ (n.log2 + 1) * 2 ^ (52 - n.log2) := Nat.mul_lt_mul_of_pos_right h1.2 hp
      _ = 2 ^ 53 := by rw [← Nat.pow_add]; congr 1; omega
theorem near (n k : Nat) (h0 : 0 < n) (h : n < 2 ^ 53) : Ieee.double.nearest false (n * 2 ^ k) (-(k : Int)) = wordOf n := by
  have hl := log2_lt n h
  have hb := kept_bd n h0 h
  have hne : n * 2 ^ k ≠ 0 := Nat.mul_ne_zero (by omega) (by have := Nat.two_pow_pos k; omega)
  unfold Ieee.Format.nearest wordOf
  rw [if_neg hne, if_neg (by omega), log2_shift n k h0]
  have e1 : Ieee.double.leastPlace = -1074 := by decide
  have e2 : (Ieee.double.fractionBits : Int) = 52 := rfl
  have e3 : Ieee.double.binade = 2 ^ 52 := rfl
  have e4 : Ieee.double.infRung = 2047 * 2 ^ 52 := by decide
  rw [e1, e2, e3, e4]
  have e5 : max (-(k : Int) + ((n.log2 + k : Nat) : Int) - 52) (-1074) = (n.log2 : Int) - 52 := by omega
  rw [e5]
  have e6 : Ieee.Toward.even.cut false ((n * 2 ^ k) <<< (-(k : Int) - ((n.log2 : Int) - 52)).toNat) ((n.log2 : Int) - 52 - -(k : Int)).toNat = n * 2 ^ (52 - n.log2) := by
    rw [Nat.shiftLeft_eq]
    by_cases hk : k ≤ 52 - n.log2
    · rw [show ((n.log2 : Int) - 52 - -(k : Int)).toNat = 0 by omega, show (-(k : Int) - ((n.log2 : Int) - 52)).toNat = 52 - n.log2 - k by omega, Nat.mul_assoc, ← Nat.pow_add, show k + (52 - n.log2 - k) = 52 - n.log2 by omega]
      have := cut_exact (n * 2 ^ (52 - n.log2)) 0 (by omega)
      rwa [Nat.pow_zero, Nat.mul_one] at this
    · rw [show (-(k : Int) - ((n.log2 : Int) - 52)).toNat = 0 by omega, Nat.pow_zero, Nat.mul_one]
      have := cut_exact (n * 2 ^ (52 - n.log2)) ((n.log2 : Int) - 52 - -(k : Int)).toNat (by omega)
      rw [Nat.mul_assoc, ← Nat.pow_add, show 52 - n.log2 + ((n.log2 : Int) - 52 - -(k : Int)).toNat = k by omega] at this
      exact this
  dsimp only
  rw [e6]
  unfold Ieee.Format.word
  rw [if_neg (by simp), show ((n.log2 : Int) - 52 - -1074).toNat = n.log2 + 1022 by omega]
  have : (n.log2 + 1022) * 2 ^ 52 ≤ 1074 * 2 ^ 52 := Nat.mul_le_mul_right _ (by omega)
  omega
theorem flN_word (n : Nat) (h : n < 2 ^ 53) : flN n = wordOf n := by
  unfold flN FloatKind.nearest FloatKind.encode Ieee.Format.write
  have e : (decide ((n : Int) < 0)) = false := by simp
  by_cases h0 : n = 0
  · subst h0; rfl
  · have := near n 0 (by omega) h
    simp only [Nat.pow_zero, Nat.mul_one] at this
    rw [← this, e, Int.natAbs_natCast]; rfl
theorem read0 (k : Nat) (h : Ieee.double.read 0 = .number false 0 (-(k : Int))) : Ieee.double.read (wordOf 0) = .number false (0 * 2 ^ k) (-(k : Int)) := by
  rw [Nat.zero_mul]; exact h
/-- What the word of a whole number stands for. -/
theorem readN (n : Nat) (h : n < 2 ^ 53) : ∃ k : Nat, Ieee.double.read (flN n) = .number false (n * 2 ^ k) (-(k : Int)) := by
  rw [flN_word n h]
  by_cases h0 : n = 0
  · subst h0; exact ⟨1074, read0 1074 (by decide +kernel)⟩
  · have hl := log2_lt n h
    have hb := kept_bd n (by omega) h
    refine ⟨52 - n.log2, ?_⟩
    unfold wordOf
    rw [if_neg h0]
    generalize n * 2 ^ (52 - n.log2) = m at hb
    have e3 : Ieee.double.binade = 2 ^ 52 := rfl
    have e4 : Ieee.double.infRung = 2047 * 2 ^ 52 := by decide
    have e1 : Ieee.double.leastPlace = -1074 := by decide
    have e7 : Ieee.double.signWeight = 2 ^ 63 := by decide
    unfold Ieee.Format.read
    rw [e3, e4, e1, e7]
    generalize hL : n.log2 = L at hl
    have hr : ((L + 1022) * 2 ^ 52 + m) % 2 ^ 63 = (L + 1022) * 2 ^ 52 + m := Nat.mod_eq_of_lt (by omega)
    have hs : ((L + 1022) * 2 ^ 52 + m) / 2 ^ 63 = 0 := by omega
    simp only [hr, hs]
    rw [if_neg (by omega), if_pos (by omega)]
    have q1 : ((L + 1022) * 2 ^ 52 + m) % 2 ^ 52 = m - 2 ^ 52 := by omega
    have q2 : ((L + 1022) * 2 ^ 52 + m) / 2 ^ 52 = L + 1023 := by omega
    rw [q1, q2]
    have q3 : 2 ^ 52 + (m - 2 ^ 52) = m := by omega
    rw [q3, show (-1074 : Int) + ((L + 1023 - 1 : Nat) : Int) = -((52 - L : Nat) : Int) by omega]
    simp
theorem signed_pos (m u : Nat) : Ieee.signed false m u = ((m * 2 ^ u : Nat) : Int) := by
  unfold Ieee.signed
  rw [if_neg (by simp), Nat.shiftLeft_eq]
theorem lift_mag (n k b : Nat) (hb : k ≤ b) : Ieee.signed false (n * 2 ^ k) ((-(k : Int)) - (-(b : Int))).toNat = ((n * 2 ^ b : Nat) : Int) := by
  rw [signed_pos, Nat.mul_assoc, ← Nat.pow_add, show k + (-(k : Int) - -(b : Int)).toNat = b by omega]
theorem flN_add (a b : Nat) (h : a + b < 2 ^ 53) : Ieee.double.add (flN a) (flN b) = some (flN (a + b)) := by
  obtain ⟨k, hk⟩ := readN a (by omega)
  obtain ⟨j, hj⟩ := readN b (by omega)
  unfold Ieee.Format.add
  rw [hk, hj]
  unfold Ieee.Datum.sum
  obtain ⟨m, hm, h1, h2⟩ : ∃ m : Nat, min (-(k : Int)) (-(j : Int)) = -(m : Int) ∧ k ≤ m ∧ j ≤ m := ⟨max k j, by omega, by omega, by omega⟩
  simp only [hm]
  rw [lift_mag a k m h1, lift_mag b j m h2]
  have e : ((a * 2 ^ m : Nat) : Int) + ((b * 2 ^ m : Nat) : Int) = (((a + b) * 2 ^ m : Nat) : Int) := by rw [Nat.add_mul, Int.natCast_add]
  rw [e, Int.natAbs_natCast]
  have e2 : (if (((a + b) * 2 ^ m : Nat) : Int) = 0 then false && false else decide ((((a + b) * 2 ^ m : Nat) : Int) < 0)) = false := by
    split
    · rfl
    · simp only [decide_eq_false_iff_not]; omega
  rw [e2]
  simp only [Option.map_some, Option.some.injEq]
  show Ieee.double.nearest false ((a + b) * 2 ^ m) (-(m : Int)) = flN (a + b)
  by_cases h0 : a + b = 0
  · rw [h0, Nat.zero_mul, flN_word 0 (by decide)]
    unfold Ieee.Format.nearest wordOf Ieee.Format.word
    simp
  · rw [near (a + b) m (by omega) h, flN_word (a + b) h]
theorem flN_order (a b : Nat) (ha : a < 2 ^ 53) (hb : b < 2 ^ 53) : Ieee.double.order (flN a) (flN b) = some (compare a b) := by
  obtain ⟨k, hk⟩ := readN a ha
  obtain ⟨j, hj⟩ := readN b hb
  unfold Ieee.Format.order
  rw [hk, hj]
  unfold Ieee.Datum.order
  obtain ⟨m, hm, h1, h2⟩ : ∃ m : Nat, min (-(k : Int)) (-(j : Int)) = -(m : Int) ∧ k ≤ m ∧ j ≤ m := ⟨max k j, by omega, by omega, by omega⟩
  simp only [hm]
  rw [lift_mag a k m h1, lift_mag b j m h2]
  have hp : 0 < 2 ^ m := Nat.two_pow_pos m
  congr 1
  rcases Nat.lt_trichotomy a b with q | q | q
  · have : a * 2 ^ m < b * 2 ^ m := Nat.mul_lt_mul_of_pos_right q hp
    rw [Nat.compare_eq_lt.2 q]; exact cmp_lt (by exact_mod_cast this)
  · subst q; rw [Nat.compare_eq_eq.2 rfl]; exact cmp_eq _
  · have : b * 2 ^ m < a * 2 ^ m := Nat.mul_lt_mul_of_pos_right q hp
    rw [Nat.compare_eq_gt.2 q]; exact cmp_gt (by exact_mod_cast this)
/-- The word of a whole number. -/
def fl (z : Int) : Nat := FloatKind.f64.nearest z
theorem fl_nat (n : Nat) : fl (n : Int) = flN n := rfl
theorem fl_add {a b : Int} (ha : 0 ≤ a) (hb : 0 ≤ b) (h : a + b < 9007199254740992) : Ieee.double.add (fl a) (fl b) = some (fl (a + b)) := by
  obtain ⟨m, rfl⟩ := Int.eq_ofNat_of_zero_le ha
  obtain ⟨n, rfl⟩ := Int.eq_ofNat_of_zero_le hb
  have := flN_add m n (by omega)
  rw [fl_nat, fl_nat, this, ← fl_nat, Int.natCast_add]
theorem fl_order {a b : Int} (ha : 0 ≤ a) (hb : 0 ≤ b) (ha2 : a < 9007199254740992) (hb2 : b < 9007199254740992) : Ieee.double.order (fl a) (fl b) = some (compare a b) := by
  obtain ⟨m, rfl⟩ := Int.eq_ofNat_of_zero_le ha
  obtain ⟨n, rfl⟩ := Int.eq_ofNat_of_zero_le hb
  rw [fl_nat, fl_nat, flN_order m n (by omega) (by omega)]
  congr 1
  rcases Nat.lt_trichotomy m n with q | q | q
  · rw [Nat.compare_eq_lt.2 q]; exact (cmp_lt (a := (m : Int)) (b := n) (by omega)).symm
  · subst q; rw [Nat.compare_eq_eq.2 rfl]; exact (cmp_eq _).symm
  · rw [Nat.compare_eq_gt.2 q]; exact (cmp_gt (a := (m : Int)) (b := n) (by omega)).symm
theorem fl_0 : (0 : Nat) = fl 0 := by decide +kernel
theorem fl_1 : (4607182418800017408 : Nat) = fl 1 := by decide +kernel
theorem fl_2 : (4611686018427387904 : Nat) = fl 2 := by decide +kernel
theorem fl_m : (4845873199050653696 : Nat) = fl 9007199254740992 := by decide +kernel
theorem cx_0 : some (Value.complex .f64 0 0) = some (Value.complex .f64 (fl 0) (fl 0)) := by rw [← fl_0]
theorem fl_c {b : Nat} {z : Int} (h : b = fl z) : some (Value.float .f64 b) = some (Value.float .f64 (fl z)) := by rw [h]
theorem flN_toInt (n : Nat) (h : n < 2 ^ 53) : (FloatKind.f64.decode (flN n)).toInt .zero = some (n : Int) := by
  obtain ⟨k, hk⟩ := readN n h
  show (Ieee.double.read (flN n)).toInt .zero = _
  rw [hk]
  unfold Ieee.Datum.toInt Ieee.Datum.integral
  have e1 : (-(k : Int)).toNat = 0 := by omega
  have e2 : (- -(k : Int)).toNat = k := by omega
  have e3 : Ieee.Toward.zero.cut false ((n * 2 ^ k) <<< (-(k : Int)).toNat) (- -(k : Int)).toNat = n := by
    rw [e1, e2, Nat.shiftLeft_eq, Nat.pow_zero, Nat.mul_one]
    by_cases h0 : n = 0
    · subst h0; rw [Nat.zero_mul]; unfold Ieee.Toward.cut; simp
    · exact cut_zero n k (by omega)
  simp only [e3]
  unfold Ieee.signed
  simp
theorem fl_toInt {a : Int} (ha : 0 ≤ a) (h : a < 9007199254740992) : (FloatKind.f64.decode (fl a)).toInt .zero = some a := by
  obtain ⟨m, rfl⟩ := Int.eq_ofNat_of_zero_le ha
  exact flN_toInt m (by omega)
/-- Is it the same number? -/
def feq (x y : Nat) : Bool := Ieee.double.order x y == some .eq
theorem feq_fl {a b : Int} (ha : 0 ≤ a ∧ a < 9007199254740992) (hb : 0 ≤ b ∧ b < 9007199254740992) : feq (fl a) (fl b) = decide (a = b) := by
  unfold feq
  rw [fl_order ha.1 hb.1 ha.2 hb.2]
  by_cases h : a = b
  · subst h; rw [compare, instOrdInt]; simp [compareOfLessAndEq]
  · rw [compare, instOrdInt]; simp only [compareOfLessAndEq, if_neg h]; split <;> simp [h]
def flt (x y : Nat) : Bool := Ieee.double.order x y == some .lt
def fgt (x y : Nat) : Bool := Ieee.double.order x y == some .gt
theorem flt_fl {a b : Int} (ha : 0 ≤ a ∧ a < 9007199254740992) (hb : 0 ≤ b ∧ b < 9007199254740992) : flt (fl a) (fl b) = decide (a < b) := by
  unfold flt
  rw [fl_order ha.1 hb.1 ha.2 hb.2, compare, instOrdInt]
  simp only [compareOfLessAndEq]
  by_cases h : a < b
  · simp [h]
  · rw [if_neg h]; split <;> simp [h]
theorem fgt_fl {a b : Int} (ha : 0 ≤ a ∧ a < 9007199254740992) (hb : 0 ≤ b ∧ b < 9007199254740992) : fgt (fl a) (fl b) = decide (b < a) := by
  unfold fgt
  rw [fl_order ha.1 hb.1 ha.2 hb.2, compare, instOrdInt]
  simp only [compareOfLessAndEq]
  by_cases h : a < b
  · have : ¬ b < a := by omega
    simp [h, this]
  · by_cases h2 : a = b
    · simp [h2]
    · have : b < a := by omega
      simp [h, h2, this]
section
variable {P : Program} {N : Nat} {R : Regs} {S : World → Prop}
variable {dst : Option Tmp} {ty t t' : TypeId} {pos : String} {af : Array Edge} {gd : Option (Nat × Bool)} {x y : Operand} {k : IntKind} {a b : Int} {u v r re im re' im' : Nat}
theorem g_set {X : Act → World → Prop} (i : Nat) {v : Value} (hi : R.lookup i = some v) (h : G N ((i, v) :: R) S X) : G N R S X := fun a w hR hS => h a w (hR.sub (lookup_over R hi)) hS
theorem y_toF {d : TypeDesc} (hx : ev R x = some (.int k a)) (hs : P.underlying t = some d) (hd : P.underlying t' = some (.float .f64)) : Yv P N R S ⟨dst, .convert t t' x, ty, pos, af, gd⟩ (.float .f64 (fl a)) := y_conv hx fun w => by
  simp [convert, Sem.run_bind, run_underlying hs w, run_underlying hd w, Conv.intToFloat, fl]
theorem y_fadd (hx : ev R x = some (.float .f64 u)) (hy : ev R y = some (.float .f64 v)) (h : Ieee.double.add u v = some r) : Yv P N R S ⟨dst, .binOp .add t x y t', ty, pos, af, gd⟩ (.float .f64 r) := y_bin hx hy fun w => by
  simp [eqGuard, binOp, Op.floatArith, FloatKind.format, h, Sem.run_bind]
theorem y_feq (hx : ev R x = some (.float .f64 u)) (hy : ev R y = some (.float .f64 v)) : Yv P N R S ⟨dst, .binOp .eql t x y t', ty, pos, af, gd⟩ (.bool (feq u v)) := y_bin hx hy fun w => by
  simp [eqGuard, binOp, Op.floatCmp, FloatKind.format, feq]
theorem y_fne (hx : ev R x = some (.float .f64 u)) (hy : ev R y = some (.float .f64 v)) : Yv P N R S ⟨dst, .binOp .neq t x y t', ty, pos, af, gd⟩ (.bool (!feq u v)) := y_bin hx hy fun w => by
  simp [eqGuard, binOp, Op.floatCmp, FloatKind.format, feq]; rfl
theorem y_flt (hx : ev R x = some (.float .f64 u)) (hy : ev R y = some (.float .f64 v)) : Yv P N R S ⟨dst, .binOp .lss t x y t', ty, pos, af, gd⟩ (.bool (flt u v)) := y_bin hx hy fun w => by
  simp [eqGuard, binOp, Op.floatCmp, FloatKind.format, flt]
theorem y_fgt (hx : ev R x = some (.float .f64 u)) (hy : ev R y = some (.float .f64 v)) : Yv P N R S ⟨dst, .binOp .gtr t x y t', ty, pos, af, gd⟩ (.bool (fgt u v)) := y_bin hx hy fun w => by
  simp [eqGuard, binOp, Op.floatCmp, FloatKind.format, fgt]
theorem y_fle (hx : ev R x = some (.float .f64 u)) (hy : ev R y = some (.float .f64 v)) : Yv P N R S ⟨dst, .binOp .leq t x y t', ty, pos, af, gd⟩ (.bool (flt u v || feq u v)) := y_bin hx hy fun w => by
  simp [eqGuard, binOp, Op.floatCmp, FloatKind.format, flt, feq]
theorem y_fge (hx : ev R x = some (.float .f64 u)) (hy : ev R y = some (.float .f64 v)) : Yv P N R S ⟨dst, .binOp .geq t x y t', ty, pos, af, gd⟩ (.bool (fgt u v || feq u v)) := y_bin hx hy fun w => by
  simp [eqGuard, binOp, Op.floatCmp, FloatKind.format, fgt, feq]
theorem y_ceq (hx : ev R x = some (.complex .f64 re im)) (hy : ev R y = some (.complex .f64 re' im')) : Yv P N R S ⟨dst, .binOp .eql t x y t', ty, pos, af, gd⟩ (.bool (feq re re' && feq im im')) := y_bin hx hy fun w => by
  simp [eqGuard, binOp, Op.complexOp, Op.Complex.cmp, Op.floatCmp, FloatKind.format, feq, Sem.run_bind, asBool]
theorem y_feqI (hx : ev R x = some (.float .f64 (fl a))) (hy : ev R y = some (.float .f64 (fl b))) (ha : 0 ≤ a ∧ a < 9007199254740992) (hb : 0 ≤ b ∧ b < 9007199254740992) : Yv P N R S ⟨dst, .binOp .eql t x y t', ty, pos, af, gd⟩ (.bool (decide (a = b))) := feq_fl ha hb ▸ y_feq hx hy
theorem y_fneI (hx : ev R x = some (.float .f64 (fl a))) (hy : ev R y = some (.float .f64 (fl b))) (ha : 0 ≤ a ∧ a < 9007199254740992) (hb : 0 ≤ b ∧ b < 9007199254740992) : Yv P N R S ⟨dst, .binOp .neq t x y t', ty, pos, af, gd⟩ (.bool (decide (a ≠ b))) := by
  have := y_fne (P := P) (N := N) (S := S) (dst := dst) (ty := ty) (t := t) (t' := t') (pos := pos) (af := af) (gd := gd) hx hy
  rw [feq_fl ha hb] at this
  simpa using this
theorem y_fgeI (hx : ev R x = some (.float .f64 (fl a))) (hy : ev R y = some (.float .f64 (fl b))) (ha : 0 ≤ a ∧ a < 9007199254740992) (hb : 0 ≤ b ∧ b < 9007199254740992) : Yv P N R S ⟨dst, .binOp .geq t x y t', ty, pos, af, gd⟩ (.bool (decide (b ≤ a))) := by
  have := y_fge (P := P) (N := N) (S := S) (dst := dst) (ty := ty) (t := t) (t' := t') (pos := pos) (af := af) (gd := gd) hx hy
  rw [feq_fl ha hb, fgt_fl ha hb] at this
  have e : (decide (b < a) || decide (a = b)) = decide (b ≤ a) := by rw [Bool.eq_iff_iff]; simp; omega
  rwa [e] at this
theorem y_fleI (hx : ev R x = some (.float .f64 (fl a))) (hy : ev R y = some (.float .f64 (fl b))) (ha : 0 ≤ a ∧ a < 9007199254740992) (hb : 0 ≤ b ∧ b < 9007199254740992) : Yv P N R S ⟨dst, .binOp .leq t x y t', ty, pos, af, gd⟩ (.bool (decide (a ≤ b))) := by
  have := y_fle (P := P) (N := N) (S := S) (dst := dst) (ty := ty) (t := t) (t' := t') (pos := pos) (af := af) (gd := gd) hx hy
  rw [feq_fl ha hb, flt_fl ha hb] at this
  have e : (decide (a < b) || decide (a = b)) = decide (a ≤ b) := by rw [Bool.eq_iff_iff]; simp; omega
  rwa [e] at this
theorem y_ceqI {c d : Int} (hx : ev R x = some (.complex .f64 (fl a) (fl b))) (hy : ev R y = some (.complex .f64 (fl c) (fl d))) (ha : 0 ≤ a ∧ a < 9007199254740992) (hb : 0 ≤ b ∧ b < 9007199254740992) (hc : 0 ≤ c ∧ c < 9007199254740992) (hd : 0 ≤ d ∧ d < 9007199254740992) : Yv P N R S ⟨dst, .binOp .eql t x y t', ty, pos, af, gd⟩ (.bool (decide (a = c ∧ b = d))) := by
  have := y_ceq (P := P) (N := N) (S := S) (dst := dst) (ty := ty) (t := t) (t' := t') (pos := pos) (af := af) (gd := gd) hx hy
  rw [feq_fl ha hc, feq_fl hb hd] at this
  have e : (decide (a = c) && decide (b = d)) = decide (a = c ∧ b = d) := by rw [Bool.eq_iff_iff]; simp
  rwa [e] at this
theorem y_fromF (hx : ev R x = some (.float .f64 (fl a))) (hs : P.underlying t = some (.float .f64)) (hd : P.underlying t' = some (.int .i64)) (ha : 0 ≤ a) (h : a < 9007199254740992) : Yv P N R S ⟨dst, .convert t t' x, ty, pos, af, gd⟩ (.int .i64 a) := y_conv hx fun w => by
  have h1 : IntKind.i64.min ≤ a ∧ a ≤ IntKind.i64.max := by
    have e1 : IntKind.i64.max = 9223372036854775807 := by decide
    have e2 : IntKind.i64.min = -9223372036854775808 := by decide
    omega
  simp [convert, Sem.run_bind, run_underlying hs w, run_underlying hd w, Conv.floatToInt, fl_toInt ha h, h1]
  intro hh; omega
theorem y_real {tt : TypeId} (hx : ev R x = some (.complex .f64 re im)) : Yv P N R S ⟨dst, .call { callee := .builtin .real, args := #[x], argTypes := #[tt] }, ty, pos, af, gd⟩ (.float .f64 re) :=
  y_builtin (xs := [x]) (vs := [.complex .f64 re im]) (by simp [hx]) fun _ w _ => rfl
theorem y_imag {tt : TypeId} (hx : ev R x = some (.complex .f64 re im)) : Yv P N R S ⟨dst, .call { callee := .builtin .imag, args := #[x], argTypes := #[tt] }, ty, pos, af, gd⟩ (.float .f64 im) :=
  y_builtin (xs := [x]) (vs := [.complex .f64 re im]) (by simp [hx]) fun _ w _ => rfl
theorem y_cplx {tt tu : TypeId} (hx : ev R x = some (.float .f64 u)) (hy : ev R y = some (.float .f64 v)) : Yv P N R S ⟨dst, .call { callee := .builtin .complex, args := #[x, y], argTypes := #[tt, tu] }, ty, pos, af, gd⟩ (.complex .f64 u v) :=
  y_builtin (xs := [x, y]) (vs := [.float .f64 u, .float .f64 v]) (by simp [hx, hy]) fun _ w _ => rfl
end
end Go.Proofs.Ytpacnggomjepdaa
