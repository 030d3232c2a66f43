/-
  THE STATEMENT LinkNamesCardSaid, PROVED: for every input, with the listed variables as the program's text lays them, facadelaw13.LinkNames returns true, and each argument reads afterwards as it read before; the card ties the listed variables to the program's text.
  Conditions: none beyond the card's own. The call's work is the contract cLinkNames.
-/
import Derived.Test.YtacmmedhjebfjaaGreatDoorQLinkNames10
import Derived.Test.YtacmmedhjebfjaaGreatDoorCards
import Derived.Test.YtacmmedhjebfjaaGreatDoorTie
import Derived.SevenTiedAt
set_option linter.unusedVariables false
set_option linter.unusedSimpArgs false
set_option maxRecDepth 100000
namespace Go.Proofs.YtacmmedhjebfjaaGreatDoor
open Go.ChangeShapes Go.WideShapes Go.RowKit Go.Sy
namespace linkNames
theorem lifted (os : Os) (started : os.Started) (H : Type) (enc : TypeId × Value → H) :
  ReturnsInHanded {} Tryz.checked os 4 .any (fun w args => (Rows.linkNamesSpec.pre enc Tryz.prog Tryz.f4 [] false w args ∧ laidMetH Tryz.prog (T3 ++ HT :: L16.map (Snt.datum nmE)) w) ∧ sizedMet enc Tryz.prog Tryz.f4 (OpenSpec.ofChange Rows.linkNamesSpec) false w args)
   (Rows.linkNamesSpec.post enc Tryz.prog Tryz.f4 false true false false) := by
 refine returnsInHanded_of_change_and (C := Tryz.checked) (X := fun w _ => laidMetH Tryz.prog (T3 ++ HT :: L16.map (Snt.datum nmE)) w) (fun _ _ _ hh h => h.of_heap hh) own started (by kernel_rfl) Tryz.func4
  (ChangeSpec.witness_shaped (enc := enc) (C := Tryz.checked) (os := os) (X := fun w _ => laidMetH Tryz.prog (T3 ++ HT :: L16.map (Snt.datum nmE)) w) false (World.doorLaid Tryz.prog 328 os) #[.int .i64 0, .int .i64 0] 8 rfl (World.shaped_of_RefB (by kernel_rfl) (by kernel_rfl)) (by kernel_rfl) (by kernel_rfl) (by kernel_rfl) (metHT16 os _)) ?_
 intro W base args ds gs before hval0 hW _ _ hL _
 have hval : ∀ (j : Nat) t v, Tryz.f4.params[j]? = some t → args[j]? = some v → Value.okWide Tryz.prog W .any base t v := hval0
 have hW' := hW
 obtain ⟨p, q, hA0, hV, hp, hfz, hnd⟩ := hW
 have hA : DataW.TrodAll enc Tryz.prog W 0 (fun _ => true) true Tryz.f4.params.toList args.toList ds p := hA0
 rw [Tryz.params4] at hA hval
 obtain ⟨v0, v1, d0, d1, p0, p1, rfl, rfl, hpp, h0, h1⟩ := trodAll_two hA
 have B := baseHT16 hL
 haveI := etypeHT16 hL
 haveI := tabsHT16 hL
 have hR : ∀ b, b < W.heap.size → (fun b => b < W.heap.size) b := fun _ h => h
 obtain ⟨n0, rfl, hn0⟩ := open_num (hval 0 3 v0 rfl rfl) h0
 have hd0 : Den (ctx (earG L16 W) (hasOf L16)) W (fun b => b < W.heap.size) (fun _ => none) (.int .i64 (.full n0)) (.int .i64 n0) := .int _ _ hn0
 obtain ⟨n1, rfl, hn1⟩ := open_num (hval 1 3 v1 rfl rfl) h1
 have hd1 : Den (ctx (earG L16 W) (hasOf L16)) W (fun b => b < W.heap.size) (fun _ => none) (.int .i64 (.full n1)) (.int .i64 n1) := .int _ _ hn1
 refine (does_at (cLinkNames (rest := [])) B (.cons _ _ _ _ hd0 (.cons _ _ _ _ hd1 (.nil))) rfl (fun _ h => by cases h)).mono fun e W' ⟨v, R', ρ', he, hb, hv⟩ => ?_
 cases hv
 subst he
 exact ⟨_, rfl, post_true laidOut (fun t ht => by
  have ht : t ∈ [3, 3] := by have := ht; rw [Tryz.params4] at this; exact this
  have hall : ([3, 3].all fun u => Tryz.prog.readableRec u && decide (u < Tryz.prog.types.size)) = true := by kernel_rfl
  have r := List.all_eq_true.1 hall t ht
  rw [Bool.and_eq_true, decide_eq_true_eq] at r
  exact r) rfl (by kernel_rfl) Tryz.underlying4 rfl hW' hb⟩
theorem holds : Rows.LinkNamesSaid :=
 OpenClaim.holds_of_wide 4 Tryz.f4 rfl rfl rfl rfl rfl rfl rfl ⟨rfl, rfl, rfl, rfl, rfl⟩ rfl rfl rfl rfl rfl (by kernel_rfl) Tryz.func4 (by kernel_rfl)
  (of_decide_eq_true (by kernel_rfl)) (by unfold Func.isWrapper; first | (rw [if_pos (by decide +kernel)]; kernel_rfl) | (rw [if_neg (by decide +kernel)]; exact ⟨rfl, rfl⟩))
  (fun os started H enc _ => lifted os started H enc)
theorem proved : Rows.LinkNamesCardSaid :=
 Claim7.holds_tied_plain_at .later [] [.data, .data, .data, .handle, .sentinel, .sentinel, .sentinel, .sentinel, .sentinel, .sentinel, .sentinel, .sentinel, .sentinel, .sentinel, .sentinel, .sentinel, .sentinel, .sentinel, .sentinel, .sentinel] true (true, "4e430bb43c6f3a2dba40b0b6d9f939e23cbb02ac38c2e3a151569411d2404fef") true
  holds (fun _ h => by cases h) (by kernel_rfl) (fun _ h => by cases h) linkNames_row_tie rfl ⟨rfl, rfl⟩ (by kernel_rfl) rfl
  (fun f fn hf hfn => by
   obtain rfl : f = 4 := Option.some.inj ((show Tryz.prog.funcNamed "facade/facadelaw13.LinkNames" = some 4 by kernel_rfl).symm.trans hf) |>.symm
   obtain rfl : fn = Tryz.f4 := (Option.some.inj (Tryz.func4.symm.trans hfn)).symm
   exact ⟨by kernel_rfl, fun j t ht => by
    rw [Tryz.params4] at ht
    have hm : t ∈ [3, 3] := by simpa using Array.mem_of_getElem? ht
    have hall : ([3, 3].all fun u => !Tryz.prog.wantsStandIn u) = true := by kernel_rfl
    exact (show Tryz.prog.wantsStandIn t = false by simpa using List.all_eq_true.1 hall t hm)⟩)
  (by kernel_rfl)
#print axioms proved
end linkNames
end Go.Proofs.YtacmmedhjebfjaaGreatDoor
