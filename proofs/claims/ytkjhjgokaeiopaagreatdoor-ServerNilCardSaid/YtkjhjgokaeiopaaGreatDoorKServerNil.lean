/- ServerNil: run by the engine. -/
import Derived.Test.YtkjhjgokaeiopaaGreatDoorET
import Derived.Test.YtkjhjgokaeiopaaGreatDoorEe
namespace Go.Proofs.YtkjhjgokaeiopaaGreatDoor.E
open Go Go.RowKit
set_option maxRecDepth 100000 in
theorem run_ServerNil : runK Tryz.prog itab ftab xtab 100000 3 (opsV 2) .leaf 1 (fun v _ _ => isTrue v) = true := by kernel_rfl
theorem ServerNil_any (vs : List Value) (hn : vs.length = 2) (h1 : vs.all (·.oneCell') = true) (w : World) : Calls Tryz.prog 3 vs.toArray w (fun e w' => e = .returned (.bool true) ∧ Below w.heap.size w w') := run_trueN all_ok rfl run_ServerNil vs hn h1 w
end Go.Proofs.YtkjhjgokaeiopaaGreatDoor.E
