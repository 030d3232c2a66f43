/- Contracts. -/
import Derived.Test.YtpjccdncokamlaaGreatDoorQDoorS
import Derived.Test.YtpjccdncokamlaaGreatDoorQFnSeeB
import Derived.Carry
set_option linter.unusedVariables false
set_option linter.unusedSimpArgs false
set_option maxRecDepth 100000
namespace Go.Proofs.YtpjccdncokamlaaGreatDoor
open Go.ChangeShapes Go.RowKit Go.Sy
def L16 : List Snt := [⟨"facade/api.ErrEnd", 1, 101, txt Rows.laid_facade_api_ErrEnd⟩, ⟨"facade/api.ErrShape", 2, 102, txt Rows.laid_facade_api_ErrShape⟩, ⟨"facade/api.ErrRange", 0, 103, txt Rows.laid_facade_api_ErrRange⟩, ⟨"facade/api.ErrMany", 3, 104, txt Rows.laid_facade_api_ErrMany⟩,
  ⟨"facade/api.ErrOp", 4, 105, txt Rows.laid_facade_api_ErrOp⟩, ⟨"facade/api.ErrTwice", 5, 106, txt Rows.laid_facade_api_ErrTwice⟩, ⟨"facade/api.ErrNone", 6, 107, txt Rows.laid_facade_api_ErrNone⟩, ⟨"facade/api.ErrFar", 7, 108, txt Rows.laid_facade_api_ErrFar⟩,
  ⟨"facade/api.ErrMap", 8, 109, txt Rows.laid_facade_api_ErrMap⟩, ⟨"facade/api.ErrOwner", 9, 110, txt Rows.laid_facade_api_ErrOwner⟩, ⟨"facade/api.ErrType", 10, 111, txt Rows.laid_facade_api_ErrType⟩, ⟨"facade/api.ErrBusy", 11, 112, txt Rows.laid_facade_api_ErrBusy⟩,
  ⟨"facade/api.ErrFull", 12, 113, txt Rows.laid_facade_api_ErrFull⟩, ⟨"facade/api.ErrState", 13, 114, txt Rows.laid_facade_api_ErrState⟩, ⟨"facade/api.ErrWord", 14, 115, txt Rows.laid_facade_api_ErrWord⟩, ⟨"facade/api.ErrNumber", 15, 116, txt Rows.laid_facade_api_ErrNumber⟩]
theorem base16 {W : World} (h : laidMetH Tryz.prog (L16.map (Snt.datum nmE)) W) : Base (ctx (earOf L16 W) (hasOf L16)) (G7 ++ (G9 ++ [])) W (fun b => b < W.heap.size) := by
  rw [MakeChecks.laidMetH_plain _ _ _ (by kernel_rfl)] at h
  exact base_of (tA := tAtN) err_types (by decide) (named_of (by kernel_rfl)) (by decide) h (fun p hp => by
    simp only [G7, G9, List.append_nil, List.mem_append, List.mem_cons, List.not_mem_nil, or_false] at hp
    rcases hp with (rfl | rfl | rfl | rfl | rfl | rfl | rfl) | (rfl | rfl | rfl | rfl | rfl | rfl | rfl | rfl | rfl)
    all_goals (simp [L16])) (fun _ _ h => by cases h)
theorem met16 (os : Os) (args : Array Value) : laidMetH Tryz.prog (L16.map (Snt.datum nmE)) ((World.doorLaid Tryz.prog 328 os).forCall (fun _ _ => 0) ⟨#[], args, []⟩).memory :=
  laidMetH_of_parts3 (fuel := 8) (laidMet_of_run' 8 (by kernel_rfl) (by kernel_rfl)) (by kernel_rfl) (by kernel_rfl)
theorem trodAll_six {H : Type} {enc : TypeId × Value → H} {P : Program} {w : World} {base : Nat} {spare : Nat → Bool} {held : Bool} {t0 t1 t2 t3 t4 t5 : TypeId} {args : Array Value} {ds : List (DataW H)} {ps : List MemPlace} (h : DataW.TrodAll enc P w base spare held [t0, t1, t2, t3, t4, t5] args.toList ds ps) :
    ∃ v0 v1 v2 v3 v4 v5 d0 d1 d2 d3 d4 d5 p0 p1 p2 p3 p4 p5, args = #[v0, v1, v2, v3, v4, v5] ∧ ds = [d0, d1, d2, d3, d4, d5] ∧ ps = p0 ++ (p1 ++ (p2 ++ (p3 ++ (p4 ++ p5)))) ∧ DataW.Trod enc P w base spare held t0 v0 d0 p0 ∧ DataW.Trod enc P w base spare held t1 v1 d1 p1 ∧ DataW.Trod enc P w base spare held t2 v2 d2 p2 ∧
      DataW.Trod enc P w base spare held t3 v3 d3 p3 ∧ DataW.Trod enc P w base spare held t4 v4 d4 p4 ∧ DataW.Trod enc P w base spare held t5 v5 d5 p5 := by
  obtain ⟨args⟩ := args
  have h : DataW.TrodAll enc P w base spare held [t0, t1, t2, t3, t4, t5] args ds ps := h
  obtain ⟨v0, _, d0, _, p0, _, rfl, rfl, rfl, h0, h⟩ := trodAll_cons h
  obtain ⟨v1, _, d1, _, p1, _, rfl, rfl, rfl, h1, h⟩ := trodAll_cons h
  obtain ⟨v2, _, d2, _, p2, _, rfl, rfl, rfl, h2, h⟩ := trodAll_cons h
  obtain ⟨v3, _, d3, _, p3, _, rfl, rfl, rfl, h3, h⟩ := trodAll_cons h
  obtain ⟨v4, _, d4, _, p4, _, rfl, rfl, rfl, h4, h⟩ := trodAll_cons h
  obtain ⟨v5, _, d5, _, p5, _, rfl, rfl, rfl, h5, h⟩ := trodAll_cons h
  obtain ⟨rfl, rfl, rfl⟩ := trodAll_nil h
  exact ⟨v0, v1, v2, v3, v4, v5, d0, d1, d2, d3, d4, d5, p0, p1, p2, p3, p4, p5, rfl, rfl, by simp, h0, h1, h2, h3, h4, h5⟩
end Go.Proofs.YtpjccdncokamlaaGreatDoor

