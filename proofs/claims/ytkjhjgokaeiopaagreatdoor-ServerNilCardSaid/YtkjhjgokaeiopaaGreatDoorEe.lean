/-
  The engine (30): arguments that nobody looks into.
-/
import Derived.Test.YtkjhjgokaeiopaaGreatDoorEd
import Derived.Test.YtkjhjgokaeiopaaGreatDoorL
namespace Go.Proofs.YtkjhjgokaeiopaaGreatDoor.E
open Go Go.RowKit
section
variable {P : Program} {w : World} {r : Reach} {base : Nat} {t : TypeId} {v : Value} {fs : Array Field}
theorem okCell_one (h : Cell.okWide P w r base t v) : v.oneCell' = true := by
  cases v <;> first | rfl | skip
  all_goals
    exfalso
    revert h
    unfold Cell.okWide Cell.ok
    cases P.underlying t <;> simp
theorem okStruct_one (ht : P.underlying t = some (.struct fs)) (h : Value.okWide P w r base t v) : ∃ l : List Value, v = .agg l.toArray ∧ l.length = P.cellsOf t ∧ l.all (·.oneCell') = true := by
  simp only [Value.okWide, ht] at h
  obtain ⟨cs, rfl, h2, ts, _, _, h3⟩ := h
  refine ⟨cs.toList, by simp, by simpa using h2, List.all_eq_true.2 fun c hc => ?_⟩
  obtain ⟨i, hi, rfl⟩ := List.getElem_of_mem hc
  obtain ⟨u, _, hu⟩ := h3 i cs.toList[i] (by simp)
  exact okCell_one hu
end
end Go.Proofs.YtkjhjgokaeiopaaGreatDoor.E
