/-
  THE STATEMENT BareTrapsCardSaid, PROVED: for every input, with the listed variables as the program's text lays them, facadelaw8.BareTraps returns true, and each argument reads afterwards as it read before; the card ties the listed variables to the program's text.
  Conditions: none beyond the card's own. The call's work is the contract cBareTraps.
-/
import Derived.Test.YtpjccdncokamlaaDoorQFnB8t
import Derived.Test.YtpjccdncokamlaaDoorQDoorS
import Derived.Test.YtpjccdncokamlaaDoorCards
import Derived.Test.YtpjccdncokamlaaDoorTie
import Derived.SevenTiedAt
set_option linter.unusedVariables false
set_option linter.unusedSimpArgs false
set_option maxRecDepth 100000
namespace Go.Proofs.YtpjccdncokamlaaDoor
open Go.ChangeShapes Go.WideShapes Go.RowKit Go.Sy
namespace bareTraps
theorem lifted (os : Os) (started : os.Started) (H : Type) (enc : TypeId × Value → H) :
    ReturnsInHanded {} Tryd.checked os 6 .any (fun w args => (Rows.bareTrapsSpec.pre enc Tryd.prog Tryd.f6 [] false w args ∧ laidMetH Tryd.prog (L1.map (Snt.datum nmE)) w) ∧ sizedMet enc Tryd.prog Tryd.f6 (OpenSpec.ofChange Rows.bareTrapsSpec) false w args)
      (Rows.bareTrapsSpec.post enc Tryd.prog Tryd.f6 false true false false) := by
  refine returnsInHanded_of_change_and (C := Tryd.checked) (X := fun w _ => laidMetH Tryd.prog (L1.map (Snt.datum nmE)) w) (fun _ _ _ hh h => h.of_heap hh) own started (by kernel_rfl) Tryd.func6
    (ChangeSpec.witness_shaped (enc := enc) (C := Tryd.checked) (os := os) (X := fun w _ => laidMetH Tryd.prog (L1.map (Snt.datum nmE)) w) false (World.doorLaid Tryd.prog 328 os) #[.int .i64 0, .bool false] 8 rfl (World.shaped_of_RefB (by kernel_rfl) (by kernel_rfl)) (by kernel_rfl) (by kernel_rfl) (by kernel_rfl) (met1 os _)) ?_
  intro W base args ds gs before hval0 hW _ _ hL _
  have hval : ∀ (j : Nat) t v, Tryd.f6.params[j]? = some t → args[j]? = some v → Value.okWide Tryd.prog W .any base t v := hval0
  have hW' := hW
  obtain ⟨p, q, hA0, hV, hp, hfz, hnd⟩ := hW
  have hA : DataW.TrodAll enc Tryd.prog W 0 (fun _ => true) true Tryd.f6.params.toList args.toList ds p := hA0
  rw [Tryd.params6] at hA hval
  obtain ⟨v0, v1, d0, d1, p0, p1, rfl, rfl, hpp, h0, h1⟩ := trodAll_two hA
  have B := base1 hL
  have hR : ∀ b, b < W.heap.size → (fun b => b < W.heap.size) b := fun _ h => h
  obtain ⟨n0, rfl, hn0⟩ := open_num (hval 0 3 v0 rfl rfl) h0
  have hd0 : Den (ctx (earOf L1 W) (hasOf L1)) W (fun b => b < W.heap.size) (fun _ => none) (.int .i64 (.full n0)) (.int .i64 n0) := .int _ _ hn0
  obtain ⟨n1, rfl⟩ := open_truth (hval 1 4 v1 rfl rfl) h1
  have hd1 : Den (ctx (earOf L1 W) (hasOf L1)) W (fun b => b < W.heap.size) (fun _ => none) (.bool (.sym n1)) (.bool n1) := .bool _
  refine (does_at (cBareTraps (gl := G1 ++ [])) B (.cons _ _ _ _ hd0 (.cons _ _ _ _ hd1 (.nil))) rfl (fun _ h => by cases h)).mono fun e W' ⟨v, R', ρ', he, hb, hv⟩ => ?_
  cases hv
  subst he
  exact ⟨_, rfl, post_true laidOut (fun t ht => by
    have ht : t ∈ [3, 4] := by have := ht; rw [Tryd.params6] at this; exact this
    have hall : ([3, 4].all fun u => Tryd.prog.readableRec u && decide (u < Tryd.prog.types.size)) = true := by kernel_rfl
    have r := List.all_eq_true.1 hall t ht
    rw [Bool.and_eq_true, decide_eq_true_eq] at r
    exact r) rfl (by kernel_rfl) Tryd.underlying4 rfl hW' hb⟩
theorem holds : Rows.BareTrapsSaid :=
  OpenClaim.holds_of_wide 6 Tryd.f6 rfl rfl rfl rfl rfl rfl rfl ⟨rfl, rfl, rfl, rfl, rfl⟩ rfl rfl rfl rfl rfl (by kernel_rfl) Tryd.func6 (by kernel_rfl)
    (of_decide_eq_true (by kernel_rfl)) (by unfold Func.isWrapper; first | (rw [if_pos (by decide +kernel)]; kernel_rfl) | (rw [if_neg (by decide +kernel)]; exact ⟨rfl, rfl⟩))
    (fun os started H enc _ => lifted os started H enc)
theorem proved : Rows.BareTrapsCardSaid :=
  Claim7.holds_tied_plain_at .later [] [.sentinel] true (true, "2240b76f5c717f06660e6d9749359334b457a378d2241611cf83f321bf552739") false
    holds (fun _ h => by cases h) (by kernel_rfl) (fun _ h => by cases h) bareTraps_row_tie rfl ⟨rfl, rfl⟩ (by kernel_rfl) rfl
    (fun f fn hf hfn => by
      obtain rfl : f = 6 := Option.some.inj ((show Tryd.prog.funcNamed "facade/facadelaw8.BareTraps" = some 6 by kernel_rfl).symm.trans hf) |>.symm
      obtain rfl : fn = Tryd.f6 := (Option.some.inj (Tryd.func6.symm.trans hfn)).symm
      exact ⟨by kernel_rfl, fun j t ht => by
        rw [Tryd.params6] at ht
        have hm : t ∈ [3, 4] := by simpa using Array.mem_of_getElem? ht
        have hall : ([3, 4].all fun u => !Tryd.prog.wantsStandIn u) = true := by kernel_rfl
        exact (show Tryd.prog.wantsStandIn t = false by simpa using List.all_eq_true.1 hall t hm)⟩)
    (by kernel_rfl)
#print axioms proved
end bareTraps
end Go.Proofs.YtpjccdncokamlaaDoor

