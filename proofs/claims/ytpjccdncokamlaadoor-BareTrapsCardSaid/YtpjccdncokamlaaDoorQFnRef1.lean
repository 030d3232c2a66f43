/- Contracts that the proofs use. -/
import Derived.Test.YtpjccdncokamlaaDoorQFnIsa
set_option linter.unusedVariables false
set_option linter.unusedSimpArgs false
namespace Go.Proofs.YtpjccdncokamlaaDoor
open Go.RowKit Go.Sy Go.Fac
section
variable {ea : Ear} {has : Int → Prop} {gl : List (Nat × SVal)}
def regB (n : Int) (h : Bool) : Bool := decide (n = 0) || h && decide (0 < n) && decide (n < 16)
theorem uN_uC {op : Int} (h : uN op = true) : uC op = true := by
  simp only [uN, uC, Bool.or_eq_true, beq_iff_eq] at h ⊢
  omega
theorem ref_ok (op a b c imm : Int) : (uN op = true → (!decide (isaClass op = 0) && regB a (uA op) && regB b (uB op) && (isaTwo op || decide (imm = 0)) && decide (0 ≤ c) && decide (c ≤ 255)) = wordOk op a b c imm) ∧
    (uN op = false → (!decide (isaClass op = 0) && regB a (uA op) && regB b (uB op) && (isaTwo op || decide (imm = 0)) && regB c (uC op)) = wordOk op a b c imm) := by
  cases hc : (isaClass op == 0) with
  | true =>
    have : isaClass op = 0 := by simpa using hc
    simp [wordOk, this]
  | false =>
    have hne : ¬ isaClass op = 0 := by simpa using hc
    unfold wordOk
    rw [fitsA_ok hc, fitsB_ok hc, fitsC_ok hc, hc]
    refine ⟨fun h => ?_, fun h => ?_⟩
    · have hC := uN_uC h
      rw [Bool.eq_iff_iff]
      unfold okA okB Fac.okC regB
      rw [h, hC]
      cases uA op <;> cases uB op <;> cases isaTwo op <;> simp [hne] <;> omega
    · rw [Bool.eq_iff_iff]
      unfold okA okB Fac.okC regB
      rw [h]
      cases uA op <;> cases uB op <;> cases uC op <;> cases isaTwo op <;> simp [hne] <;> omega
def kiJumps : List SVal → Nat → Acc ORes := fun a n => match a with | [.agg [], .int .i64 op] => .ret ({ v := .bool (.sym (isaJumps op.val)) }) | _ => .fail "iJumps"
theorem argiJumps (op : SI) : (all (subL tAtN none' [] deep [.agg [], .int .i64 op] [.agg [], .int .i64 (.full op.val)])) = (
  SI.val op = SI.val op) := by kernel_rfl
theorem runiJumps (gl : List (Nat × SVal)) (op : Int) : (Tr.sat (plainQ (.bool (.sym (isaJumps op)))) (run (env gl []) [] (bodyOf Tryd.f72) (start [.agg [], .int .i64 (.full op)] 15) (ends (env gl []) Tryd.f72.results.toList))) = (
  (decide (op = (16 : Int)) = true → true = isaJumps op) ∧ (decide (op = (16 : Int)) = false → (decide (op = (17 : Int)) = true → true = isaJumps op) ∧ (decide (op = (17 : Int)) = false → (decide (op = (18 : Int)) = true → true = isaJumps op) ∧ (decide (op = (18 : Int)) = false → (decide (op = (19 : Int)) = true → true = isaJumps op) ∧ (decide (op = (19 : Int)) = false → (decide (op = (20 : Int)) = true → true = isaJumps op) ∧ (decide (op = (20 : Int)) = false → (decide (op = (21 : Int)) = true → true = isaJumps op) ∧ (decide (op = (21 : Int)) = false → (decide (op = (22 : Int)) = true → true = isaJumps op) ∧ (decide (op = (22 : Int)) = false → (decide (op = (23 : Int)) = true → true = isaJumps op) ∧ (decide (op = (23 : Int)) = false → false = isaJumps op))))))))) := by kernel_rfl
set_option maxHeartbeats 4000000 in
theorem ciJumps : Con ea has gl 72 kiJumps := by
  refine plain_mkB Tryd.func72 15 (con := []) trivial (fun hA hr hv => ?_) (by kernel_rfl) (by kernel_rfl) Tryd.ntmps72
  unfold kiJumps at hr; split at hr
  · rename_i op
    have := ret_ok hr; subst this
    refine ⟨_, [], rfl, rfl, .of (argiJumps op) (by simp), rfl, (fun W R ρ0 own0 hown => noSums (by kernel_rfl)), .of (runiJumps gl op.val) ?_⟩
    clear hr
    generalize op.val = op
    unfold isaJumps
    simp only [decide_eq_true_eq, decide_eq_false_iff_not]
    repeat (first | (intro h; subst h; decide) | (with_reducible intro _) | (with_reducible refine ⟨?_, fun _ => ?_⟩))
    all_goals (symm; rw [decide_eq_false_iff_not]; omega)
  · cases hr
def kiDisp : List SVal → Nat → Acc ORes := fun a n => match a with | [.int .i64 c] => .ret ({ v := .int .i64 (.sym (dispM c.val) (-128) 127) }) | _ => .fail "iDisp"
theorem argiDisp (c : SI) : (all (subL tAtN none' [] deep [.int .i64 c] [.int .i64 (.full c.val)])) = (
  SI.val c = SI.val c) := by kernel_rfl
theorem runiDisp (gl : List (Nat × SVal)) (c : Int) : (Tr.sat (plainQ (.int .i64 (.sym (dispM c) (-128) 127))) (run (env gl []) [] (bodyOf Tryd.f73) (start [.int .i64 (.full c)] 6) (ends (env gl []) Tryd.f73.results.toList))) = (
  IntKind.wrap IntKind.i8 c = dispM c) := by kernel_rfl
set_option maxHeartbeats 4000000 in
theorem ciDisp : Con ea has gl 73 kiDisp := by
  refine plain_mkB Tryd.func73 6 (con := []) trivial (fun hA hr hv => ?_) (by kernel_rfl) (by kernel_rfl) Tryd.ntmps73
  unfold kiDisp at hr; split at hr
  · rename_i c
    have := ret_ok hr; subst this
    refine ⟨_, [], rfl, rfl, .of (argiDisp c) (by simp), rfl, (fun W R ρ0 own0 hown => noSums (by kernel_rfl)), .of (runiDisp gl c.val) ?_⟩
    clear hr
    rw [wrap_i8_eq]; rfl
  · cases hr
end
end Go.Proofs.YtpjccdncokamlaaDoor

