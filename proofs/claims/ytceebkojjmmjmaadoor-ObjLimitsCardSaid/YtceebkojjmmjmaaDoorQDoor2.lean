/- Contracts that the proofs use. -/
import Derived.Test.YtceebkojjmmjmaaDoorQDoor
import Derived.LaidMore
import Derived.LaidHandle
import Derived.OpenShut
import Derived.Stop.Joined
set_option linter.unusedVariables false
set_option linter.unusedSimpArgs false
set_option maxRecDepth 100000
namespace Go.Proofs.YtceebkojjmmjmaaDoor
open Go.RowKit Go.Sy
theorem met7 (os : Os) (args : Array Value) : laidMetH Tryd.prog (L7.map (Snt.datum nmE)) ((World.doorLaid Tryd.prog 328 os).forCall (fun _ _ => 0) ⟨#[], args, []⟩).memory :=
  laidMetH_of_parts3 (fuel := 8) (laidMet_of_run' 8 (by kernel_rfl) (by kernel_rfl)) (by kernel_rfl) (by kernel_rfl)
end Go.Proofs.YtceebkojjmmjmaaDoor

