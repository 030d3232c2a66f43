/-
  THE STATEMENT BareCopiesCardSaid, PROVED: for every input, with the listed variables as the program's text lays them, facadelaw8.BareCopies returns true, and each argument reads afterwards as it read before; the card ties the listed variables to the program's text.
  Conditions: none beyond the card's own. The call's work is the contract cBareCopies.
-/
import Derived.Test.YtpjccdncokamlaaDoorQFnB8c
import Derived.Test.YtpjccdncokamlaaDoorQDoorS
import Derived.Test.YtpjccdncokamlaaDoorCards
import Derived.Test.YtpjccdncokamlaaDoorTie
import Derived.SevenTiedAt
set_option linter.unusedVariables false
set_option linter.unusedSimpArgs false
set_option maxRecDepth 100000
namespace Go.Proofs.YtpjccdncokamlaaDoor
open Go.ChangeShapes Go.WideShapes Go.RowKit Go.Sy
namespace bareCopies
theorem lifted (os : Os) (started : os.Started) (H : Type) (enc : TypeId × Value → H) :
    ReturnsInHanded {} Tryd.checked os 8 .any (fun w args => (Rows.bareCopiesSpec.pre enc Tryd.prog Tryd.f8 [] false w args ∧ laidMetH Tryd.prog (L1.map (Snt.datum nmE)) w) ∧ sizedMet enc Tryd.prog Tryd.f8 (OpenSpec.ofChange Rows.bareCopiesSpec) false w args)
      (Rows.bareCopiesSpec.post enc Tryd.prog Tryd.f8 false true false false) := by
  refine returnsInHanded_of_change_and (C := Tryd.checked) (X := fun w _ => laidMetH Tryd.prog (L1.map (Snt.datum nmE)) w) (fun _ _ _ hh h => h.of_heap hh) own started (by kernel_rfl) Tryd.func8
    (ChangeSpec.witness_shaped (enc := enc) (C := Tryd.checked) (os := os) (X := fun w _ => laidMetH Tryd.prog (L1.map (Snt.datum nmE)) w) false (World.doorLaid Tryd.prog 328 os) #[.slice none 0 0, .int .i64 0, .int .i64 0] 8 rfl (World.shaped_of_RefB (by kernel_rfl) (by kernel_rfl)) (by kernel_rfl) (by kernel_rfl) (by kernel_rfl) (met1 os _)) ?_
  intro W base args ds gs before hval0 hW _ _ hL _
  have hval : ∀ (j : Nat) t v, Tryd.f8.params[j]? = some t → args[j]? = some v → Value.okWide Tryd.prog W .any base t v := hval0
  have hW' := hW
  obtain ⟨p, q, hA0, hV, hp, hfz, hnd⟩ := hW
  have hA : DataW.TrodAll enc Tryd.prog W 0 (fun _ => true) true Tryd.f8.params.toList args.toList ds p := hA0
  rw [Tryd.params8] at hA hval
  obtain ⟨v0, v1, v2, d0, d1, d2, p0, p1, p2, rfl, rfl, hpp, h0, h1, h2⟩ := trodAll_three hA
  have B := base1 hL
  have hR : ∀ b, b < W.heap.size → (fun b => b < W.heap.size) b := fun _ h => h
  obtain ⟨l0, hd0⟩ := open_words (C := ctx (earOf L1 W) (hasOf L1)) (ρ := fun _ => none) (hval 0 24 v0 rfl rfl) h0 hR
  obtain ⟨n1, rfl, hn1⟩ := open_num (hval 1 3 v1 rfl rfl) h1
  have hd1 : Den (ctx (earOf L1 W) (hasOf L1)) W (fun b => b < W.heap.size) (fun _ => none) (.int .i64 (.full n1)) (.int .i64 n1) := .int _ _ hn1
  obtain ⟨n2, rfl, hn2⟩ := open_num (hval 2 3 v2 rfl rfl) h2
  have hd2 : Den (ctx (earOf L1 W) (hasOf L1)) W (fun b => b < W.heap.size) (fun _ => none) (.int .i64 (.full n2)) (.int .i64 n2) := .int _ _ hn2
  refine (does_at (cBareCopies (gl := G1 ++ [])) B (.cons _ _ _ _ hd0 (.cons _ _ _ _ hd1 (.cons _ _ _ _ hd2 (.nil)))) rfl (fun _ h => by cases h)).mono fun e W' ⟨v, R', ρ', he, hb, hv⟩ => ?_
  cases hv
  subst he
  exact ⟨_, rfl, post_true laidOut (fun t ht => by
    have ht : t ∈ [24, 3, 3] := by have := ht; rw [Tryd.params8] at this; exact this
    have hall : ([24, 3, 3].all fun u => Tryd.prog.readableRec u && decide (u < Tryd.prog.types.size)) = true := by kernel_rfl
    have r := List.all_eq_true.1 hall t ht
    rw [Bool.and_eq_true, decide_eq_true_eq] at r
    exact r) rfl (by kernel_rfl) Tryd.underlying4 rfl hW' hb⟩
theorem holds : Rows.BareCopiesSaid :=
  OpenClaim.holds_of_wide 8 Tryd.f8 rfl rfl rfl rfl rfl rfl rfl ⟨rfl, rfl, rfl, rfl, rfl⟩ rfl rfl rfl rfl rfl (by kernel_rfl) Tryd.func8 (by kernel_rfl)
    (of_decide_eq_true (by kernel_rfl)) (by unfold Func.isWrapper; first | (rw [if_pos (by decide +kernel)]; kernel_rfl) | (rw [if_neg (by decide +kernel)]; exact ⟨rfl, rfl⟩))
    (fun os started H enc _ => lifted os started H enc)
theorem proved : Rows.BareCopiesCardSaid :=
  Claim7.holds_tied_plain_at .later [] [.sentinel] true (true, "2240b76f5c717f06660e6d9749359334b457a378d2241611cf83f321bf552739") false
    holds (fun _ h => by cases h) (by kernel_rfl) (fun _ h => by cases h) bareCopies_row_tie rfl ⟨rfl, rfl⟩ (by kernel_rfl) rfl
    (fun f fn hf hfn => by
      obtain rfl : f = 8 := Option.some.inj ((show Tryd.prog.funcNamed "facade/facadelaw8.BareCopies" = some 8 by kernel_rfl).symm.trans hf) |>.symm
      obtain rfl : fn = Tryd.f8 := (Option.some.inj (Tryd.func8.symm.trans hfn)).symm
      exact ⟨by kernel_rfl, fun j t ht => by
        rw [Tryd.params8] at ht
        have hm : t ∈ [24, 3, 3] := by simpa using Array.mem_of_getElem? ht
        have hall : ([24, 3, 3].all fun u => !Tryd.prog.wantsStandIn u) = true := by kernel_rfl
        exact (show Tryd.prog.wantsStandIn t = false by simpa using List.all_eq_true.1 hall t hm)⟩)
    (by kernel_rfl)
#print axioms proved
end bareCopies
end Go.Proofs.YtpjccdncokamlaaDoor

