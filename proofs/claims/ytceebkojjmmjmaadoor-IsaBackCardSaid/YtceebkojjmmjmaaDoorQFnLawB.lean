/- Contracts that the proofs use. -/
import Derived.Test.YtceebkojjmmjmaaDoorQFnLawI
import Derived.Test.YtceebkojjmmjmaaDoorQTextP
set_option linter.unusedVariables false
set_option linter.unusedSimpArgs false
set_option linter.unusedSectionVars false
namespace Go.Proofs.YtceebkojjmmjmaaDoor
open Go.RowKit Go.Sy Go.Fac
theorem ins_imm {C : Ctx} {W : World} {R : Nat → Prop} {ρ : Nat → Option Value} {op a b c imm : SI} {l : List SVal} {vs : List Value} (h : DenA C W R ρ (.agg [.int .i64 op, .int .i64 a, .int .i64 b, .int .i64 c, .int .u32 imm] :: l) vs) : 0 ≤ imm.val ∧ imm.val ≤ 4294967295 := by
  cases h with | cons _ _ _ _ h _ => ?_
  cases h with | agg _ _ h => ?_
  obtain ⟨_, _, _, _, _, h⟩ := h.inv_one rfl
  obtain ⟨_, _, _, _, _, h⟩ := h.inv_one rfl
  obtain ⟨_, _, _, _, _, h⟩ := h.inv_one rfl
  obtain ⟨_, _, _, _, _, h⟩ := h.inv_one rfl
  obtain ⟨_, _, _, _, h, _⟩ := h.inv_one rfl
  have := h.int_inv.2
  exact ⟨this.lo, this.hi⟩
section
variable {ea : Ear} {has : Int → Prop} {gl : List (Nat × SVal)} [ht : Nonempty (Tabs ea)]
def kIsaBack : List SVal → Nat → Acc ORes := fun a n => match a with | [.agg [.int .i64 op, .int .i64 a, .int .i64 b, .int .i64 c, .int .u32 imm], .agg [.int .i64 op', .int .i64 a', .int .i64 b', .int .i64 c', .int .u32 imm']] => .ret ({ v := .bool (.lit true) }) | _ => .fail "IsaBack"
theorem argIsaBack (op a b c imm op' a' b' c' imm' : SI) : (all (subL tAtN none' [] deep [.agg [.int .i64 op, .int .i64 a, .int .i64 b, .int .i64 c, .int .u32 imm], .agg [.int .i64 op', .int .i64 a', .int .i64 b', .int .i64 c', .int .u32 imm']] [.agg [.int .i64 (.full op.val), .int .i64 (.full a.val), .int .i64 (.full b.val), .int .i64 (.full c.val), .int .u32 (.full imm.val)], .agg [.int .i64 (.full op'.val), .int .i64 (.full a'.val), .int .i64 (.full b'.val), .int .i64 (.full c'.val), .int .u32 (.full imm'.val)]])) = (
  SI.val op = SI.val op ∧ SI.val a = SI.val a ∧ SI.val b = SI.val b ∧ SI.val c = SI.val c ∧ SI.val imm = SI.val imm ∧ SI.val op' = SI.val op' ∧ SI.val a' = SI.val a' ∧ SI.val b' = SI.val b' ∧ SI.val c' = SI.val c' ∧ SI.val imm' = SI.val imm') := by kernel_rfl
theorem runIsaBack (gl : List (Nat × SVal)) (op : Int) (a : Int) (b : Int) (c : Int) (imm : Int) (op' : Int) (a' : Int) (b' : Int) (c' : Int) (imm' : Int) : (Tr.sat (plainQ (.bool (.lit true))) (run (env gl [(10, kfirstI), (11, kWord), (12, kOf), (13, kSameInstr), (14, kText)]) [] (bodyOf Tryd.f3) (start [.agg [.int .i64 (.full op), .int .i64 (.full a), .int .i64 (.full b), .int .i64 (.full c), .int .u32 (.full imm)], .agg [.int .i64 (.full op'), .int .i64 (.full a'), .int .i64 (.full b'), .int .i64 (.full c'), .int .u32 (.full imm')]] 85) (ends (env gl [(10, kfirstI), (11, kWord), (12, kOf), (13, kSameInstr), (14, kText)]) Tryd.f3.results.toList))) = (
  ((!wordOk op a b c imm) = true → decide (wordW op a b c imm = (0 : Int)) = true) ∧ ((!wordOk op a b c imm) = false → ((!ofOk (wordW op a b c imm) || !decide (In5.mk (ofF (wordW op a b c imm) imm).op (ofF (wordW op a b c imm) imm).a (ofF (wordW op a b c imm) imm).b (ofF (wordW op a b c imm) imm).c (ofF (wordW op a b c imm) imm).imm = In5.mk op a b c imm) || decide ((↑(ByteArray.size (textM op a b c imm)) : Int) < (2 : Int))) = true → false = true) ∧ ((!ofOk (wordW op a b c imm) || !decide (In5.mk (ofF (wordW op a b c imm) imm).op (ofF (wordW op a b c imm) imm).a (ofF (wordW op a b c imm) imm).b (ofF (wordW op a b c imm) imm).c (ofF (wordW op a b c imm) imm).imm = In5.mk op a b c imm) || decide ((↑(ByteArray.size (textM op a b c imm)) : Int) < (2 : Int))) = false → (!wordOk op' a' b' c' imm' || (decide (wordW op a b c imm = wordW op' a' b' c' imm') && decide (imm = imm')) == decide (In5.mk op a b c imm = In5.mk op' a' b' c' imm') && decide (textM op a b c imm = textM op' a' b' c' imm') == decide (In5.mk op a b c imm = In5.mk op' a' b' c' imm')) = true))) := by kernel_rfl
set_option maxHeartbeats 4000000 in
theorem cIsaBack : Con ea has gl 3 kIsaBack := by
  refine plain_mkB Tryd.func3 85 (con := [(10, kfirstI), (11, kWord), (12, kOf), (13, kSameInstr), (14, kText)]) ⟨cfirstI, cWord, cOf, cSameInstr, cText, trivial⟩ (fun hA hr hv => ?_) (by kernel_rfl) (by kernel_rfl) Tryd.ntmps3
  unfold kIsaBack at hr; split at hr
  · rename_i op a b c imm op' a' b' c' imm'
    have := ret_ok hr; subst this
    refine ⟨_, [], rfl, rfl, .of (argIsaBack op a b c imm op' a' b' c' imm') (by simp), rfl, (fun W R ρ0 own0 hown => noSums (by kernel_rfl)), .of (runIsaBack gl op.val a.val b.val c.val imm.val op'.val a'.val b'.val c'.val imm'.val) ?_⟩
    clear hr
    have i1 := ins_imm hA
    obtain ⟨us, hB⟩ := DenA.tl hA
    have i2 := ins_imm hB
    clear hA hv hB
    generalize op.val = op at *
    generalize a.val = a at *
    generalize b.val = b at *
    generalize c.val = c at *
    generalize imm.val = imm at *
    generalize op'.val = op' at *
    generalize a'.val = a' at *
    generalize b'.val = b' at *
    generalize c'.val = c' at *
    generalize imm'.val = imm' at *
    refine ⟨fun h => ?_, fun h => ?_⟩
    · have h : wordOk op a b c imm = false := by simpa using h
      rw [wordW, h]; rfl
    · have h : wordOk op a b c imm = true := by simpa using h
      obtain ⟨o1, o2, _⟩ := of_wordI h
      have two := text_two (a := a) (b := b) (c := c) (imm := imm) (ok_parts h).1
      rw [o1, o2]
      refine ⟨fun h2 => ?_, fun h2 => ?_⟩
      · simp at h2; omega
      · cases h' : wordOk op' a' b' c' imm' with
        | false => rfl
        | true =>
          by_cases e : op = op' ∧ a = a' ∧ b = b' ∧ c = c' ∧ imm = imm'
          · obtain ⟨rfl, rfl, rfl, rfl, rfl⟩ := e
            simp
          · have e1 : ¬ ((⟨op, a, b, c, imm⟩ : In5) = ⟨op', a', b', c', imm'⟩) := fun he => by
              simp only [In5.mk.injEq] at he; exact e he
            have e2 : ¬ textM op a b c imm = textM op' a' b' c' imm' := fun he => e (text_inj h h' i1 i2 he)
            have e3 : ¬ (wordW op a b c imm = wordW op' a' b' c' imm' ∧ imm = imm') := fun he => by
              obtain ⟨w1, w2, w3, w4⟩ := word_injI h h' he.1
              exact e ⟨w1, w2, w3, w4, he.2⟩
            rw [decide_eq_false e1, decide_eq_false e2]
            have e4 : (decide (wordW op a b c imm = wordW op' a' b' c' imm') && decide (imm = imm')) = false := by
              rw [← Bool.decide_and]; exact decide_eq_false e3
            rw [e4]
            rfl
  · cases hr
end
end Go.Proofs.YtceebkojjmmjmaaDoor

