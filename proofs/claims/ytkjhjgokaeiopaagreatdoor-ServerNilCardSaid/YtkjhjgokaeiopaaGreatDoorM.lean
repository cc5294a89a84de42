/-
  A world in which the listed variables lie as they are listed: the witness of a row that lists variables.
-/
import Derived.Test.YtkjhjgokaeiopaaGreatDoorL
import Derived.Test.YtkjhjgokaeiopaaGreatDoorRows
import Derived.LaidLaws
import Derived.LaidHandle
import Derived.Handed
namespace Go.Proofs.YtkjhjgokaeiopaaGreatDoor
open Go Go.RowKit

def flat0 : DataW Unit → List Value
  | .lit (.int k z) => [.int k z]
  | .lit (.bool b) => [.bool b]
  | _ => []
def flat1 : DataW Unit → List Value
  | .agg l => l.flatMap flat0
  | d => flat0 d
def flat2 : DataW Unit → List Value
  | .agg l => l.flatMap flat1
  | d => flat0 d
noncomputable def laidHeap (P : Program) : List (String × DataW Unit) → Array Obj → Array Obj
  | [], h => h
  | x :: r, h => laidHeap P r (match P.globalNamed x.1 with
    | some g => h.modify g fun
      | .cells _ t frozen => .cells (flat2 x.2).toArray t frozen
      | o => o
    | none => h)
noncomputable def laidWorld (P : Program) (l : List (String × DataW Unit)) (os : Os) : World :=
  let w0 := World.holding P os ⟨#[], #[], []⟩
  { w0 with heap := laidHeap P l w0.heap }
end Go.Proofs.YtkjhjgokaeiopaaGreatDoor
