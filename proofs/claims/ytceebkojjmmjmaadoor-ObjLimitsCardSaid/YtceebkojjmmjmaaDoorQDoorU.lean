/- Contracts that the proofs use. -/
import Derived.Test.YtceebkojjmmjmaaDoorQDoor3
import Derived.Test.YtceebkojjmmjmaaDoorQDoor2
import Derived.Test.YtceebkojjmmjmaaDoorQDoorTab
set_option linter.unusedVariables false
set_option linter.unusedSimpArgs false
set_option maxRecDepth 100000
namespace Go.Proofs.YtceebkojjmmjmaaDoor
open Go.ChangeShapes Go.RowKit Go.Sy
abbrev earU (L : List Snt) (W : World) : Ear := ⟨eaOf L W, fixOf W⟩
theorem plainU {L : List (String × DataW Unit)} {W : World} (h : laidMet Tryd.prog (T3 ++ L) W) : laidMet Tryd.prog L W := laidMet.tail (laidMet.tail (laidMet.tail h))
theorem plainT7 {W : World} (h : laidMetH Tryd.prog (T3 ++ L7.map (Snt.datum nmE)) W) : laidMet Tryd.prog (T3 ++ L7.map (Snt.datum nmE)) W := by
  rw [MakeChecks.laidMetH_plain _ _ _ (by kernel_rfl)] at h
  exact h
theorem plainT16 {W : World} (h : laidMetH Tryd.prog (T3 ++ L16.map (Snt.datum nmE)) W) : laidMet Tryd.prog (T3 ++ L16.map (Snt.datum nmE)) W := by
  rw [MakeChecks.laidMetH_plain _ _ _ (by kernel_rfl)] at h
  exact h
theorem tabsT7 {W : World} (h : laidMetH Tryd.prog (T3 ++ L7.map (Snt.datum nmE)) W) : Nonempty (Tabs (earU L7 W)) := tabs_of (plainT7 h) _
theorem tabsT16 {W : World} (h : laidMetH Tryd.prog (T3 ++ L16.map (Snt.datum nmE)) W) : Nonempty (Tabs (earU L16 W)) := tabs_of (plainT16 h) _
theorem baseT7 {W : World} (h : laidMetH Tryd.prog (T3 ++ L7.map (Snt.datum nmE)) W) : Base (ctx (earU L7 W) (hasOf L7)) (G7 ++ []) W (fun b => b < W.heap.size) :=
  base_of (tA := 125) err_types (by decide) (named_of (by kernel_rfl)) (by decide) (plainU (plainT7 h)) (fun p hp => by
    simp only [G7, List.append_nil, List.mem_cons, List.not_mem_nil, or_false] at hp
    rcases hp with rfl | rfl | rfl | rfl | rfl | rfl | rfl
    all_goals (simp [L7])) fixOf_ok
theorem baseT16 {W : World} (h : laidMetH Tryd.prog (T3 ++ L16.map (Snt.datum nmE)) W) : Base (ctx (earU L16 W) (hasOf L16)) (G7 ++ (G9 ++ [])) W (fun b => b < W.heap.size) :=
  base_of (tA := 125) err_types (by decide) (named_of (by kernel_rfl)) (by decide) (plainU (plainT16 h)) (fun p hp => by
    simp only [G7, G9, List.append_nil, List.mem_append, List.mem_cons, List.not_mem_nil, or_false] at hp
    rcases hp with (rfl | rfl | rfl | rfl | rfl | rfl | rfl) | (rfl | rfl | rfl | rfl | rfl | rfl | rfl | rfl | rfl)
    all_goals (simp [L16])) fixOf_ok
theorem metT7 (os : Os) (args : Array Value) : laidMetH Tryd.prog (T3 ++ L7.map (Snt.datum nmE)) ((World.doorLaid Tryd.prog 328 os).forCall (fun _ _ => 0) ⟨#[], args, []⟩).memory :=
  laidMetH_of_parts3 (fuel := 8) (laidMet_of_run' 8 (by kernel_rfl) (by kernel_rfl)) (by kernel_rfl) (by kernel_rfl)
theorem metT16 (os : Os) (args : Array Value) : laidMetH Tryd.prog (T3 ++ L16.map (Snt.datum nmE)) ((World.doorLaid Tryd.prog 328 os).forCall (fun _ _ => 0) ⟨#[], args, []⟩).memory :=
  laidMetH_of_parts3 (fuel := 8) (laidMet_of_run' 8 (by kernel_rfl) (by kernel_rfl)) (by kernel_rfl) (by kernel_rfl)
end Go.Proofs.YtceebkojjmmjmaaDoor

