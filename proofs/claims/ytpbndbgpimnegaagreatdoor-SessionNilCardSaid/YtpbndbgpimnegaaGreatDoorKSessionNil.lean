/- SessionNil: run by the engine. -/
import Derived.Test.YtpbndbgpimnegaaGreatDoorET
import Derived.Test.YtpbndbgpimnegaaGreatDoorEe
namespace Go.Proofs.YtpbndbgpimnegaaGreatDoor.E
open Go Go.RowKit
set_option maxRecDepth 100000 in
theorem run_SessionNil : runK Tryz.prog itab ftab xtab 100000 6 [.agg (opsV 6)] .leaf 1 (fun v _ _ => isTrue v) = true := by kernel_rfl
theorem SessionNil_any (vs : List Value) (hn : vs.length = 6) (h1 : vs.all (·.oneCell') = true) (w : World) : Calls Tryz.prog 6 #[.agg vs.toArray] w (fun e w' => e = .returned (.bool true) ∧ Below w.heap.size w w') := run_true1 all_ok rfl run_SessionNil vs hn h1 w
end Go.Proofs.YtpbndbgpimnegaaGreatDoor.E
