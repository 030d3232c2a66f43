/- Contracts that the proofs use. -/
import Derived.Test.YtceebkojjmmjmaaDoorQFnText
set_option linter.unusedVariables false
set_option linter.unusedSimpArgs false
set_option linter.unusedSectionVars false
namespace Go.Proofs.YtceebkojjmmjmaaDoor
open Go.RowKit Go.Sy Go.Fac
section
variable {ea : Ear} {has : Int → Prop} {gl : List (Nat × SVal)} [ht : Nonempty (Tabs ea)]
def kSameInstr : List SVal → Nat → Acc ORes := fun l n => match l with
  | [x, y] => match x with
    | .agg [.int .i64 a, .int .i64 b, .int .i64 c, .int .i64 d, .int .u32 e] => match y with
      | .agg [.int .i64 a', .int .i64 b', .int .i64 c', .int .i64 d', .int .u32 e'] => .ret ({ v := .bool (.sym (decide ((⟨a.val, b.val, c.val, d.val, e.val⟩ : In5) = ⟨a'.val, b'.val, c'.val, d'.val, e'.val⟩))) })
      | _ => .fail "SameInstr"
    | _ => .fail "SameInstr"
  | _ => .fail "SameInstr"
theorem argSameInstr (a b c d e a' b' c' d' e' : SI) : (all (subL tAtN none' [] deep [.agg [.int .i64 a, .int .i64 b, .int .i64 c, .int .i64 d, .int .u32 e], .agg [.int .i64 a', .int .i64 b', .int .i64 c', .int .i64 d', .int .u32 e']] [.agg [.int .i64 (.full a.val), .int .i64 (.full b.val), .int .i64 (.full c.val), .int .i64 (.full d.val), .int .u32 (.full e.val)], .agg [.int .i64 (.full a'.val), .int .i64 (.full b'.val), .int .i64 (.full c'.val), .int .i64 (.full d'.val), .int .u32 (.full e'.val)]])) = (
  SI.val a = SI.val a ∧ SI.val b = SI.val b ∧ SI.val c = SI.val c ∧ SI.val d = SI.val d ∧ SI.val e = SI.val e ∧ SI.val a' = SI.val a' ∧ SI.val b' = SI.val b' ∧ SI.val c' = SI.val c' ∧ SI.val d' = SI.val d' ∧ SI.val e' = SI.val e') := by kernel_rfl
theorem runSameInstr (gl : List (Nat × SVal)) (a b c d e a' b' c' d' e' : SI) : (Tr.sat (plainQ (.bool (.sym (decide ((⟨a.val, b.val, c.val, d.val, e.val⟩ : In5) = ⟨a'.val, b'.val, c'.val, d'.val, e'.val⟩))))) (run (env gl []) [] (bodyOf Tryd.f13) (start [.agg [.int .i64 (.full a.val), .int .i64 (.full b.val), .int .i64 (.full c.val), .int .i64 (.full d.val), .int .u32 (.full e.val)], .agg [.int .i64 (.full a'.val), .int .i64 (.full b'.val), .int .i64 (.full c'.val), .int .i64 (.full d'.val), .int .u32 (.full e'.val)]] 38) (ends (env gl []) Tryd.f13.results.toList))) = (
  (decide (SI.val a = SI.val a') && decide (SI.val b = SI.val b') && decide (SI.val c = SI.val c') && decide (SI.val d = SI.val d') && decide (SI.val e = SI.val e')) = decide (In5.mk (SI.val a) (SI.val b) (SI.val c) (SI.val d) (SI.val e) = In5.mk (SI.val a') (SI.val b') (SI.val c') (SI.val d') (SI.val e'))) := by kernel_rfl
theorem cSameInstr : Con ea has gl 13 kSameInstr := by
  refine plain_mk Tryd.func13 38 (con := []) trivial (fun hA hr hv => ?_) (by kernel_rfl) (by kernel_rfl) Tryd.ntmps13
  unfold kSameInstr at hr
  split at hr
  · split at hr
    · rename_i a b c d e
      split at hr
      · rename_i a' b' c' d' e'
        have := ret_ok hr; subst this
        refine ⟨_, [], rfl, rfl, (argSameInstr a b c d e a' b' c' d' e').mpr (by simp), rfl, (fun W R ρ0 own0 hown => noLoops (by kernel_rfl)), (runSameInstr gl a b c d e a' b' c' d' e').mpr ?_⟩
        rw [Bool.eq_iff_iff]
        simp [In5.mk.injEq, and_assoc]
      · cases hr
    · cases hr
  · cases hr
def kfirstI : List SVal → Nat → Acc ORes := fun a n => match a with | [] => .ret ({ v := .bool (.lit true) }) | _ => .fail "firstI"
theorem argfirstI  : (all (subL tAtN none' [] deep [] [])) = (
  True) := by kernel_rfl
theorem runfirstI (gl : List (Nat × SVal)) : (Tr.sat (plainQ (.bool (.lit true))) (run (env gl [(11, kWord)]) [] (bodyOf Tryd.f10) (start [] 13) (ends (env gl [(11, kWord)]) Tryd.f10.results.toList))) = (
  true = true) := by kernel_rfl
set_option maxHeartbeats 4000000 in
theorem cfirstI : Con ea has gl 10 kfirstI := by
  refine plain_mkB Tryd.func10 13 (con := [(11, kWord)]) ⟨cWord, trivial⟩ (fun hA hr hv => ?_) (by kernel_rfl) (by kernel_rfl) Tryd.ntmps10
  unfold kfirstI at hr; split at hr
  · skip
    have := ret_ok hr; subst this
    refine ⟨_, [], rfl, rfl, .of (argfirstI ) (by simp), rfl, (fun W R ρ0 own0 hown => noSums (by kernel_rfl)), .of (runfirstI gl ) ?_⟩
    clear hr
    rfl
  · cases hr
def kIsaSays : List SVal → Nat → Acc ORes := fun a n => match a with | [.agg [.int .i64 op, .int .i64 a, .int .i64 b, .int .i64 c, .int .u32 imm], .int .u32 w, .int .u32 im, .int .i64 o, .int .i64 cc] => .ret ({ v := .bool (.lit true) }) | _ => .fail "IsaSays"
theorem argIsaSays (op a b c imm w im o cc : SI) : (all (subL tAtN none' [] deep [.agg [.int .i64 op, .int .i64 a, .int .i64 b, .int .i64 c, .int .u32 imm], .int .u32 w, .int .u32 im, .int .i64 o, .int .i64 cc] [.agg [.int .i64 (.full op.val), .int .i64 (.full a.val), .int .i64 (.full b.val), .int .i64 (.full c.val), .int .u32 (.full imm.val)], .int .u32 (.full w.val), .int .u32 (.full im.val), .int .i64 (.full o.val), .int .i64 (.full cc.val)])) = (
  SI.val op = SI.val op ∧ SI.val a = SI.val a ∧ SI.val b = SI.val b ∧ SI.val c = SI.val c ∧ SI.val imm = SI.val imm ∧ SI.val w = SI.val w ∧ SI.val im = SI.val im ∧ SI.val o = SI.val o ∧ SI.val cc = SI.val cc) := by kernel_rfl
theorem runIsaSays (gl : List (Nat × SVal)) (op : Int) (a : Int) (b : Int) (c : Int) (imm : Int) (w : Int) (im : Int) (o : Int) (cc : Int) : (Tr.sat (plainQ (.bool (.lit true))) (run (env gl [(10, kfirstI), (11, kWord), (15, krWord), (12, kOf), (16, krOf), (13, kSameInstr), (17, kTables), (18, kClass), (19, krClass), (20, kTwo), (21, krTwo), (22, kiJumps), (23, krJumps), (24, kiDisp), (25, krDisp), (14, kText), (26, krText)]) [] (bodyOf Tryd.f4) (start [.agg [.int .i64 (.full op), .int .i64 (.full a), .int .i64 (.full b), .int .i64 (.full c), .int .u32 (.full imm)], .int .u32 (.full w), .int .u32 (.full im), .int .i64 (.full o), .int .i64 (.full cc)] 109) (ends (env gl [(10, kfirstI), (11, kWord), (15, krWord), (12, kOf), (16, krOf), (13, kSameInstr), (17, kTables), (18, kClass), (19, krClass), (20, kTwo), (21, krTwo), (22, kiJumps), (23, krJumps), (24, kiDisp), (25, krDisp), (14, kText), (26, krText)]) Tryd.f4.results.toList))) = (
  ((!decide (wordW op a b c imm = wordW op a b c imm) || !wordOk op a b c imm == wordOk op a b c imm || !ofOk w == ofOk w || !decide (In5.mk (ofF w im).op (ofF w im).a (ofF w im).b (ofF w im).c (ofF w im).imm = In5.mk (ofF w im).op (ofF w im).a (ofF w im).b (ofF w im).c (ofF w im).imm) || !decide (isaClass o = isaClass o) || !isaTwo o == isaTwo o || !isaJumps o == isaJumps o) = true → false = true) ∧ ((!decide (wordW op a b c imm = wordW op a b c imm) || !wordOk op a b c imm == wordOk op a b c imm || !ofOk w == ofOk w || !decide (In5.mk (ofF w im).op (ofF w im).a (ofF w im).b (ofF w im).c (ofF w im).imm = In5.mk (ofF w im).op (ofF w im).a (ofF w im).b (ofF w im).c (ofF w im).imm) || !decide (isaClass o = isaClass o) || !isaTwo o == isaTwo o || !isaJumps o == isaJumps o) = false → ((decide (dispM cc = dispM cc) && !!wordOk op a b c imm) = true → isaClass op ≠ (0 : Int)) ∧ (((decide (dispM cc = dispM cc) && !!wordOk op a b c imm) = true → isaClass op ≠ (0 : Int)) → (decide (dispM cc = dispM cc) && (!wordOk op a b c imm || decide (textM op a b c imm = textM op a b c imm))) = true))) := by kernel_rfl
set_option maxHeartbeats 4000000 in
theorem cIsaSays : Con ea has gl 4 kIsaSays := by
  refine plain_mkB Tryd.func4 109 (con := [(10, kfirstI), (11, kWord), (15, krWord), (12, kOf), (16, krOf), (13, kSameInstr), (17, kTables), (18, kClass), (19, krClass), (20, kTwo), (21, krTwo), (22, kiJumps), (23, krJumps), (24, kiDisp), (25, krDisp), (14, kText), (26, krText)]) ⟨cfirstI, cWord, crWord, cOf, crOf, cSameInstr, cTables, cClass, crClass, cTwo, crTwo, ciJumps, crJumps, ciDisp, crDisp, cText, crText, trivial⟩ (fun hA hr hv => ?_) (by kernel_rfl) (by kernel_rfl) Tryd.ntmps4
  unfold kIsaSays at hr; split at hr
  · rename_i op a b c imm w im o cc
    have := ret_ok hr; subst this
    refine ⟨_, [], rfl, rfl, .of (argIsaSays op a b c imm w im o cc) (by simp), rfl, (fun W R ρ0 own0 hown => noSums (by kernel_rfl)), .of (runIsaSays gl op.val a.val b.val c.val imm.val w.val im.val o.val cc.val) ?_⟩
    clear hr
    clear hA hv
    generalize op.val = op
    generalize a.val = a
    generalize b.val = b
    generalize c.val = c
    generalize imm.val = imm
    have hc : (wordOk op a b c imm) = true → isaClass op ≠ 0 := by
      intro h; unfold wordOk at h; simp only [Bool.and_eq_true, Bool.not_eq_true'] at h
      intro e; rw [e] at h; simp at h
    simp
    exact hc
  · cases hr
end
end Go.Proofs.YtceebkojjmmjmaaDoor

