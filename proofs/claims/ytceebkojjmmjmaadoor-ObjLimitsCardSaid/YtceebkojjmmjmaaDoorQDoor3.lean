/- Contracts that the proofs use. -/
import Derived.Test.YtceebkojjmmjmaaDoorQDoor2
import Derived.Test.YtceebkojjmmjmaaDoorQFnSee
set_option linter.unusedVariables false
set_option linter.unusedSimpArgs false
set_option maxRecDepth 100000
namespace Go.Proofs.YtceebkojjmmjmaaDoor
open Go.RowKit Go.Sy
theorem base16 {W : World} (h : laidMetH Tryd.prog (L16.map (Snt.datum nmE)) W) : Base (ctx (earOf L16 W) (hasOf L16)) (G7 ++ (G9 ++ [])) W (fun b => b < W.heap.size) := by
  rw [MakeChecks.laidMetH_plain _ _ _ (by kernel_rfl)] at h
  exact base_of (tA := 125) err_types (by decide) (named_of (by kernel_rfl)) (by decide) h (fun p hp => by
    simp only [G7, G9, List.append_nil, List.mem_append, List.mem_cons, List.not_mem_nil, or_false] at hp
    rcases hp with (rfl | rfl | rfl | rfl | rfl | rfl | rfl) | (rfl | rfl | rfl | rfl | rfl | rfl | rfl | rfl | rfl)
    all_goals (simp [L16])) (fun _ _ h => by cases h)
theorem met16 (os : Os) (args : Array Value) : laidMetH Tryd.prog (L16.map (Snt.datum nmE)) ((World.doorLaid Tryd.prog 328 os).forCall (fun _ _ => 0) ⟨#[], args, []⟩).memory :=
  laidMetH_of_parts3 (fuel := 8) (laidMet_of_run' 8 (by kernel_rfl) (by kernel_rfl)) (by kernel_rfl) (by kernel_rfl)
end Go.Proofs.YtceebkojjmmjmaaDoor

