/-
  THE STATEMENT RewriteMarksCardSaid, PROVED: for every input, with the listed variables as the program's text lays them, facadelaw11.RewriteMarks returns true, and each argument reads afterwards as it read before; the card ties the listed variables to the program's text.
  Conditions: none beyond the card's own. The call's work is the contract cRewriteMarks.
-/
import Derived.Test.YtbdfibaljoedpaaDoorQFnLaw11
import Derived.Carry
import Derived.Test.YtbdfibaljoedpaaDoorQDoor2
import Derived.Test.YtbdfibaljoedpaaDoorCards
import Derived.Test.YtbdfibaljoedpaaDoorTie
import Derived.SevenTiedAt
set_option linter.unusedVariables false
set_option linter.unusedSimpArgs false
set_option maxRecDepth 100000
namespace Go.Proofs.YtbdfibaljoedpaaDoor
open Go.ChangeShapes Go.WideShapes Go.RowKit Go.Sy
namespace rewriteMarks
theorem open_word32 {W : World} {H : Type} {enc : TypeId × Value → H} {base b0 : Nat} {sp : Nat → Bool} {held : Bool} {r : Reach} {v : Value} {d : DataW H} {ps : List MemPlace} (hv : Value.okWide Tryd.prog W r b0 36 v) (h : DataW.Trod enc Tryd.prog W base sp held 36 v d ps) :
    ∃ n : Int, v = .int .u32 n ∧ InI .u32 (.full n) := by
  obtain ⟨n, rfl, _, _, hw⟩ := open_int Tryd.underlying36 hv h
  exact ⟨n, rfl, wf_in hw⟩
theorem lifted (os : Os) (started : os.Started) (H : Type) (enc : TypeId × Value → H) :
    ReturnsInHanded {} Tryd.checked os 8 .any (fun w args => (Rows.rewriteMarksSpec.pre enc Tryd.prog Tryd.f8 [] false w args ∧ laidMetH Tryd.prog (L7.map (Snt.datum nmE)) w) ∧ sizedMet enc Tryd.prog Tryd.f8 (OpenSpec.ofChange Rows.rewriteMarksSpec) false w args)
      (Rows.rewriteMarksSpec.post enc Tryd.prog Tryd.f8 false true false false) := by
  refine returnsInHanded_of_change_and (C := Tryd.checked) (X := fun w _ => laidMetH Tryd.prog (L7.map (Snt.datum nmE)) w) (fun _ _ _ hh h => h.of_heap hh) own started (by kernel_rfl) Tryd.func8
    (ChangeSpec.witness_shaped (enc := enc) (C := Tryd.checked) (os := os) (X := fun w _ => laidMetH Tryd.prog (L7.map (Snt.datum nmE)) w) false (World.doorLaid Tryd.prog 328 os) #[.int .i64 0, .int .i64 0, .int .i64 0, .int .u32 0] 8 rfl (World.shaped_of_RefB (by kernel_rfl) (by kernel_rfl)) (by kernel_rfl) (by kernel_rfl) (by kernel_rfl) (met7 os _)) ?_
  intro W base args ds gs before hval0 hW _ _ hL _
  have hval : ∀ (j : Nat) t v, Tryd.f8.params[j]? = some t → args[j]? = some v → Value.okWide Tryd.prog W .any base t v := hval0
  have hW' := hW
  obtain ⟨p, q, hA0, hV, hp, hfz, hnd⟩ := hW
  have hA : DataW.TrodAll enc Tryd.prog W 0 (fun _ => true) true Tryd.f8.params.toList args.toList ds p := hA0
  rw [Tryd.params8] at hA hval
  obtain ⟨v0, v1, v2, v3, d0, d1, d2, d3, p0, p1, p2, p3, rfl, rfl, hpp, h0, h1, h2, h3⟩ := trodAll_four hA
  have B := base7 hL
  have hR : ∀ b, b < W.heap.size → (fun b => b < W.heap.size) b := fun _ h => h
  obtain ⟨n0, rfl, hn0⟩ := open_num (hval 0 3 v0 rfl rfl) h0
  have hd0 : Den (ctx (eaOf L7 W) (hasOf L7)) W (fun b => b < W.heap.size) (fun _ => none) (.int .i64 (.full n0)) (.int .i64 n0) := .int _ _ hn0
  obtain ⟨n1, rfl, hn1⟩ := open_num (hval 1 3 v1 rfl rfl) h1
  have hd1 : Den (ctx (eaOf L7 W) (hasOf L7)) W (fun b => b < W.heap.size) (fun _ => none) (.int .i64 (.full n1)) (.int .i64 n1) := .int _ _ hn1
  obtain ⟨n2, rfl, hn2⟩ := open_num (hval 2 3 v2 rfl rfl) h2
  have hd2 : Den (ctx (eaOf L7 W) (hasOf L7)) W (fun b => b < W.heap.size) (fun _ => none) (.int .i64 (.full n2)) (.int .i64 n2) := .int _ _ hn2
  obtain ⟨n3, rfl, hn3⟩ := open_word32 (hval 3 36 v3 rfl rfl) h3
  have hd3 : Den (ctx (eaOf L7 W) (hasOf L7)) W (fun b => b < W.heap.size) (fun _ => none) (.int .u32 (.full n3)) (.int .u32 n3) := .int _ _ hn3
  refine (does_at (cRewriteMarks (rest := [])) B (.cons _ _ _ _ hd0 (.cons _ _ _ _ hd1 (.cons _ _ _ _ hd2 (.cons _ _ _ _ hd3 (.nil))))) rfl (fun _ h => by cases h)).mono fun e W' ⟨v, R', ρ', he, hb, hv⟩ => ?_
  cases hv
  subst he
  exact ⟨_, rfl, post_true laidOut (fun t ht => by
    have ht : t ∈ [3, 3, 3, 36] := by have := ht; rw [Tryd.params8] at this; exact this
    have hall : ([3, 3, 3, 36].all fun u => Tryd.prog.readableRec u && decide (u < Tryd.prog.types.size)) = true := by kernel_rfl
    have r := List.all_eq_true.1 hall t ht
    rw [Bool.and_eq_true, decide_eq_true_eq] at r
    exact r) rfl (by kernel_rfl) Tryd.underlying4 rfl hW' hb⟩
theorem holds : Rows.RewriteMarksSaid :=
  OpenClaim.holds_of_wide 8 Tryd.f8 rfl rfl rfl rfl rfl rfl rfl ⟨rfl, rfl, rfl, rfl, rfl⟩ rfl rfl rfl rfl rfl (by kernel_rfl) Tryd.func8 (by kernel_rfl)
    (of_decide_eq_true (by kernel_rfl)) (by unfold Func.isWrapper; first | (rw [if_pos (by decide +kernel)]; kernel_rfl) | (rw [if_neg (by decide +kernel)]; exact ⟨rfl, rfl⟩))
    (fun os started H enc _ => lifted os started H enc)
theorem proved : Rows.RewriteMarksCardSaid :=
  Claim7.holds_tied_plain_at .later [] [.sentinel, .sentinel, .sentinel, .sentinel, .sentinel, .sentinel, .sentinel] true (true, "61a8febd62a127204d2d5cee8873fe1dc5d77530d4658f6bb7a9f24dc898b0e5") true
    holds (fun _ h => by cases h) (by kernel_rfl) (fun _ h => by cases h) rewriteMarks_row_tie rfl ⟨rfl, rfl⟩ (by kernel_rfl) rfl
    (fun f fn hf hfn => by
      obtain rfl : f = 8 := Option.some.inj ((show Tryd.prog.funcNamed "facade/facadelaw11.RewriteMarks" = some 8 by kernel_rfl).symm.trans hf) |>.symm
      obtain rfl : fn = Tryd.f8 := (Option.some.inj (Tryd.func8.symm.trans hfn)).symm
      exact ⟨by kernel_rfl, fun j t ht => by
        rw [Tryd.params8] at ht
        have hm : t ∈ [3, 3, 3, 36] := by simpa using Array.mem_of_getElem? ht
        have hall : ([3, 3, 3, 36].all fun u => !Tryd.prog.wantsStandIn u) = true := by kernel_rfl
        exact (show Tryd.prog.wantsStandIn t = false by simpa using List.all_eq_true.1 hall t hm)⟩)
    (by kernel_rfl)
#print axioms proved
end rewriteMarks
end Go.Proofs.YtbdfibaljoedpaaDoor

