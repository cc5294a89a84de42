/-
  Arrays as arguments; an array's elements by their address.
-/
import Derived.Test.YtkjhjgokaeiopaaGreatDoorL
import Derived.Test.YtkjhjgokaeiopaaGreatDoorB
namespace Go.Proofs.YtkjhjgokaeiopaaGreatDoor
open Go.ChangeShapes Go.WideShapes Go.ChangeAt Go.RowKit
section
variable {H : Type} {enc : TypeId × Value → H} {P : Program}

theorem trod_float {k : FloatKind} {w : World} {base : Nat} {spare : Nat → Bool} {held : Bool} {fuel : Nat} {t : TypeId} {cs : List Value} {x : DataW H × List MemPlace} (ht : P.underlying t = some (.float k)) (h : DataW.trod enc P w base spare held fuel t cs = some x) : ∃ n, cs = [.float k n] := by
  cases fuel with
  | zero => simp [DataW.trod] at h
  | succ n =>
    unfold DataW.trod at h
    rw [ht] at h
    split at h <;> simp_all
theorem okWide_array {r : Reach} {b0 : Nat} {W : World} {t e : TypeId} {n : Nat} {v : Value} (ht : P.underlying t = some (.array n e)) (h : Value.okWide P W r b0 t v) : ∃ cs, v = .agg cs ∧ cs.size = P.cellsOf t := by
  simp only [Value.okWide, ht] at h
  obtain ⟨cs, h1, h2, _⟩ := h
  exact ⟨cs, h1, h2⟩
theorem rd_array {r : Reach} {b0 base : Nat} {spare : Nat → Bool} {held : Bool} {W : World} {t e : TypeId} {n : Nat} {v : Value} {d : DataW H} {p : List MemPlace} (ht : P.underlying t = some (.array n e)) (hv : Value.okWide P W r b0 t v) (h : DataW.Trod enc P W base spare held t v d p) :
    ∃ l : List Value, v = .agg l.toArray ∧ l.length = P.cellsOf t ∧ ∃ m, ∀ (j : Nat), j < n → ∀ o s ty, j * P.cellsOf e = o → P.cellsOf e = s → e = ty → ∃ y, DataW.trod enc P W base spare held m ty ((l.drop o).take s) = some y := by
  obtain ⟨cs, rfl, hsz⟩ := okWide_array ht hv
  obtain ⟨fuel, hf⟩ := h
  obtain ⟨xs, m, _, hx, hl, hlen, hg⟩ := DataW.trod_array ht hf
  refine ⟨cs.toList, by simp, by simpa using hsz, m, fun j hj o s ty ho hs hty => ?_⟩
  subst ho hs hty
  exact ⟨xs[j]'(by omega), by rw [← List.getElem?_eq_getElem]; exact hg j hj⟩
theorem rd_array2 {base : Nat} {spare : Nat → Bool} {held : Bool} {W : World} {t e : TypeId} {n m : Nat} {l : List Value} {y : DataW H × List MemPlace} (ht : P.underlying t = some (.array n e)) (h : DataW.trod enc P W base spare held m t l = some y) :
    ∃ m', ∀ (j : Nat), j < n → ∀ o s ty, j * P.cellsOf e = o → P.cellsOf e = s → e = ty → ∃ y, DataW.trod enc P W base spare held m' ty ((l.drop o).take s) = some y := by
  obtain ⟨xs, m, _, hx, hl, hlen, hg⟩ := DataW.trod_array ht h
  refine ⟨m, fun j hj o s ty ho hs hty => ?_⟩
  subst ho hs hty
  exact ⟨xs[j]'(by omega), by rw [← List.getElem?_eq_getElem]; exact hg j hj⟩
theorem list6 {α : Type} {l : List α} (h : l.length = 6) : ∃ a b c d e f, l = [a, b, c, d, e, f] := by
  match l, h with | [a, b, c, d, e, f], _ => exact ⟨a, b, c, d, e, f, rfl⟩
end
section
variable {P : Program} {N : Nat} {R : Regs} {S : World → Prop}
variable {dst : Option Tmp} {ty t t' : TypeId} {pos : String} {af : Array Edge} {gd : Option (Nat × Bool)} {x y : Operand} {k : IntKind}
theorem y_negi {a : Int} (hx : ev R x = some (.int .i64 a)) (h : -9223372036854775808 ≤ 0 - a ∧ 0 - a ≤ 9223372036854775807) : Yv P N R S ⟨dst, .unOp .neg t x, ty, pos, af, gd⟩ (.int .i64 (0 - a)) := by
  have := y_neg (P := P) (N := N) (S := S) (dst := dst) (ty := ty) (t := t) (pos := pos) (af := af) (gd := gd) hx
  rwa [wrap_in h] at this
theorem y_idxArr {t e : TypeId} {b o n sz m : Nat} {i : Int} (hx : ev R x = some (.pointer (some ⟨b, o, none⟩))) (hy : ev R y = some (.int k i)) (ht : P.underlying t = some (.array n e)) (hz : ∀ w, (sizeOf e).run P w = .ok sz w) (h0 : 0 ≤ i) (h1 : i < n) (hm : o + i.toNat * sz = m) :
    Yv P N R S ⟨dst, .indexAddr t x y, ty, pos, af, gd⟩ (.pointer (some ⟨b, m, none⟩)) := fun a w hR _ => by
  subst hm
  simp [execOp, hR.eval hx, hR.eval hy, Instr.indexAt, asIntOf, Sem.run_bind, run_underlying ht w, hz, h0, h1, Addr.add_mid, Instr.sureAddr]
end
end Go.Proofs.YtkjhjgokaeiopaaGreatDoor
