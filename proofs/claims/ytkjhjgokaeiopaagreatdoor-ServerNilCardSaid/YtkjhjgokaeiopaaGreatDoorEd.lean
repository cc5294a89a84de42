/-
  The engine (29): the library's own functions.
-/
import Derived.Test.YtkjhjgokaeiopaaGreatDoorEc
import Derived.Lib.Bytealg
import Derived.Laws.Externs
namespace Go.Proofs.YtkjhjgokaeiopaaGreatDoor.E
open Go Go.RowKit
def XQ (P : Program) (f : Nat) (x : Xt) : Prop := ∀ args v, x.run args = some v → ∀ σ ρ w, (callFunc f (denL σ ρ args).toArray).run P w = .ok (.value (v.den σ ρ)) w
section
variable {P : Program} {f : FuncId} {fn : Func}
theorem u8_beq (b c : Nat) : (UInt8.ofNat b == c.toUInt8) = Nat.beq (b % 256) (c % 256) := by
  rw [Bool.eq_iff_iff, beq_iff_eq, Nat.beq_eq]
  constructor
  · intro h
    have := congrArg UInt8.toNat h
    simpa using this
  · intro h
    apply UInt8.toNat_inj.1
    simpa using h
theorem indexB_ok (c : Nat) : ∀ (l : List Nat) (i : Nat), indexB (c % 256) l i = if Lib.indexByte (l.map UInt8.ofNat) c.toUInt8 = -1 then none else some (i + (Lib.indexByte (l.map UInt8.ofNat) c.toUInt8).toNat)
  | [], i => by simp [indexB, Lib.indexByte]
  | b :: l, i => by
    unfold indexB
    simp only [List.map_cons, Lib.indexByte, u8_beq]
    cases hb : Nat.beq (b % 256) (c % 256) with
    | true => simp
    | false =>
      simp only [cond_false, Bool.false_eq_true, if_false]
      rw [indexB_ok c l (i + 1)]
      have hge := Lib.indexByte_ge (l.map UInt8.ofNat) c.toUInt8
      by_cases h : Lib.indexByte (l.map UInt8.ofNat) c.toUInt8 = -1
      · simp [h]
      · have hb : (Lib.indexByte (l.map UInt8.ofNat) c.toUInt8 == -1) = false := by simpa using h
        have h2 : Lib.indexByte (l.map UInt8.ofNat) c.toUInt8 + 1 ≠ -1 := by omega
        rw [hb]
        simp only [Bool.false_eq_true, if_false, if_neg h, if_neg h2]
        congr 1
        omega
theorem countB_ok (c : Nat) : ∀ (l : List Nat) (n : Nat), countB (c % 256) l n = n + Lib.countByte (l.map UInt8.ofNat) c.toUInt8
  | [], n => by simp [countB, Lib.countByte]
  | b :: l, n => by
    unfold countB
    have h1 := countB_ok c l (n + 1)
    have h2 := countB_ok c l n
    unfold Lib.countByte at *
    rw [List.map_cons, List.count_cons, u8_beq]
    cases hb : Nat.beq (b % 256) (c % 256) with
    | true => simp only [cond_true, if_true]; rw [h1]; omega
    | false => simp only [cond_false, Bool.false_eq_true, if_false]; rw [h2]; omega
theorem XQ.same (hf : P.funcs[f]? = some fn) (h1 : (fn.name == "runtime.NumGoroutine") = false) (h2 : fn.body.isNone = true) (h3 : Extern.findNext fn = none) (h4 : Extern.find fn = some Extern.AbiNoEscape.same) : XQ P f .same := by
  intro args v hx σ ρ w
  unfold Xt.run at hx
  split at hx
  · cases hx
    rw [run_callFunc_extern hf h1 h2 h3 h4]; rfl
  · contradiction
  · contradiction
  · cases hx
theorem XQ.index (hf : P.funcs[f]? = some fn) (h1 : (fn.name == "runtime.NumGoroutine") = false) (h2 : fn.body.isNone = true) (h3 : Extern.findNext fn = none) (h4 : Extern.find fn = some Extern.BytealgIndexByte.indexByte) : XQ P f .index := by
  intro args v hx σ ρ w
  unfold Xt.run at hx
  split at hx
  · contradiction
  · rename_i l c _
    rw [run_callFunc_extern hf h1 h2 h3 h4]
    simp only [denL, V.den]
    rw [Lib.run_indexByteString]
    have e : (mkS l).data.toList = l.map UInt8.ofNat := by simp [mkS]
    have hge := Lib.indexByte_ge (l.map UInt8.ofNat) c.toUInt8
    rw [indexB_ok] at hx
    rw [e]
    by_cases h : Lib.indexByte (l.map UInt8.ofNat) c.toUInt8 = -1
    · rw [if_pos h] at hx
      cases hx
      simp [Result.andThen, V.den, h]
    · rw [if_neg h] at hx
      cases hx
      have : ((Lib.indexByte (l.map UInt8.ofNat) c.toUInt8).toNat : Int) = Lib.indexByte (l.map UInt8.ofNat) c.toUInt8 := Int.toNat_of_nonneg (by omega)
      simp [Result.andThen, V.den, this]
  · contradiction
  · cases hx
theorem XQ.count (hf : P.funcs[f]? = some fn) (h1 : (fn.name == "runtime.NumGoroutine") = false) (h2 : fn.body.isNone = true) (h3 : Extern.findNext fn = none) (h4 : Extern.find fn = some Extern.BytealgCount.count) : XQ P f .count := by
  intro args v hx σ ρ w
  unfold Xt.run at hx
  split at hx
  · contradiction
  · contradiction
  · rename_i l c _
    cases hx
    rw [run_callFunc_extern hf h1 h2 h3 h4]
    simp only [denL, V.den]
    rw [Lib.run_countString]
    have e : (mkS l).data.toList = l.map UInt8.ofNat := by simp [mkS]
    rw [countB_ok, e]
    simp [Result.andThen]
  · cases hx
end
end Go.Proofs.YtkjhjgokaeiopaaGreatDoor.E
