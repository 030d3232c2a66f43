/- Contracts that the proofs use. -/
import Derived.Test.YtfbagpbncfapbaaDoorQFnIsa
set_option linter.unusedVariables false
set_option linter.unusedSimpArgs false
namespace Go.Proofs.YtfbagpbncfapbaaDoor
open Go.RowKit Go.Sy Go.Fac
section
variable {ea : Int → Addr} {has : Int → Prop} {gl : List (Nat × SVal)}
def krTwo : List SVal → Nat → Acc ORes := fun a n => match a with | [.int .i64 op] => .ret ({ v := .bool (.sym (isaTwo op.val)) }) | _ => .fail "rTwo"
theorem argrTwo (op : SI) : (all (subL tAtN none' [] deep [.int .i64 op] [.int .i64 (.full op.val)])) = (
  SI.val op = SI.val op) := by kernel_rfl
theorem runrTwo (gl : List (Nat × SVal)) (op : SI) : (Tr.sat (plainQ (.bool (.sym (isaTwo op.val)))) (run (env gl []) [] (bodyOf Tryd.f15) (start [.int .i64 (.full op.val)] 29) (ends (env gl []) Tryd.f15.results.toList))) = (
  (decide (SI.val op = (14 : Int)) || decide (SI.val op = (15 : Int)) || decide (SI.val op = (19 : Int)) || decide (SI.val op = (20 : Int)) || decide (SI.val op = (21 : Int)) || decide (SI.val op = (22 : Int)) || decide (SI.val op = (96 : Int))) = isaTwo (SI.val op)) := by kernel_rfl
set_option maxHeartbeats 4000000 in
theorem crTwo : Con ea has gl 15 krTwo := by
  refine plain_mk Tryd.func15 29 (con := []) trivial (fun hA hr hv => ?_) (by kernel_rfl) (by kernel_rfl) Tryd.ntmps15
  unfold krTwo at hr; split at hr
  · rename_i op
    have := ret_ok hr; subst this
    refine ⟨_, [], rfl, rfl, (argrTwo op).mpr (by simp), rfl, (fun W R ρ0 own0 hown => noSums (by kernel_rfl)), (runrTwo gl op).mpr ?_⟩
    clear hr
    rfl
  · cases hr
def regB (n : Int) (h : Bool) : Bool := decide (n = 0) || h && decide (0 < n) && decide (n < 16)
def kreg : List SVal → Nat → Acc ORes := fun a n => match a with | [.int .i64 n', .bool b] => .ret ({ v := .bool (.sym (regB n'.val b.val)) }) | _ => .fail "reg"
theorem argreg (n' : SI) (b : SB) : (all (subL tAtN none' [] deep [.int .i64 n', .bool b] [.int .i64 (.full n'.val), .bool (.sym b.val)])) = (
  SI.val n' = SI.val n' ∧ SB.val b = SB.val b) := by kernel_rfl
theorem runreg (gl : List (Nat × SVal)) (n' : SI) (b : SB) : (Tr.sat (plainQ (.bool (.sym (regB n'.val b.val)))) (run (env gl []) [] (bodyOf Tryd.f28) (start [.int .i64 (.full n'.val), .bool (.sym b.val)] 18) (ends (env gl []) Tryd.f28.results.toList))) = (
  (decide (SI.val n' = (0 : Int)) || SB.val b && decide ((0 : Int) < SI.val n') && decide (SI.val n' < (16 : Int))) = regB (SI.val n') (SB.val b)) := by kernel_rfl
set_option maxHeartbeats 4000000 in
theorem creg : Con ea has gl 28 kreg := by
  refine plain_mk Tryd.func28 18 (con := []) trivial (fun hA hr hv => ?_) (by kernel_rfl) (by kernel_rfl) Tryd.ntmps28
  unfold kreg at hr; split at hr
  · rename_i n' b
    have := ret_ok hr; subst this
    refine ⟨_, [], rfl, rfl, (argreg n' b).mpr (by simp), rfl, (fun W R ρ0 own0 hown => noSums (by kernel_rfl)), (runreg gl n' b).mpr ?_⟩
    clear hr
    rfl
  · cases hr
def kUses : List SVal → Nat → Acc ORes := fun a n => match a with | [.int .i64 op] => .ret ({ v := .tuple [.bool (.sym (uA op.val)), .bool (.sym (uB op.val)), .bool (.sym (uC op.val)), .bool (.sym (uN op.val))] }) | _ => .fail "Uses"
theorem argUses (op : SI) : (all (subL tAtN none' [] deep [.int .i64 op] [.int .i64 (.full op.val)])) = (
  SI.val op = SI.val op) := by kernel_rfl
theorem runUses (gl : List (Nat × SVal)) (op : SI) : (Tr.sat (plainQ (.tuple [.bool (.sym (uA op.val)), .bool (.sym (uB op.val)), .bool (.sym (uC op.val)), .bool (.sym (uN op.val))])) (run (env gl []) [] (bodyOf Tryd.f27) (start [.int .i64 (.full op.val)] 40) (ends (env gl []) Tryd.f27.results.toList))) = (
  (decide (SI.val op = (1 : Int)) = true → false = uA (SI.val op) ∧ false = uB (SI.val op) ∧ false = uC (SI.val op) ∧ false = uN (SI.val op)) ∧ (decide (SI.val op = (1 : Int)) = false → (decide (SI.val op = (34 : Int)) = true → false = uA (SI.val op) ∧ false = uB (SI.val op) ∧ false = uC (SI.val op) ∧ false = uN (SI.val op)) ∧ (decide (SI.val op = (34 : Int)) = false → (decide (SI.val op = (42 : Int)) = true → false = uA (SI.val op) ∧ false = uB (SI.val op) ∧ false = uC (SI.val op) ∧ false = uN (SI.val op)) ∧ (decide (SI.val op = (42 : Int)) = false → (decide (SI.val op = (64 : Int)) = true → false = uA (SI.val op) ∧ false = uB (SI.val op) ∧ false = uC (SI.val op) ∧ false = uN (SI.val op)) ∧ (decide (SI.val op = (64 : Int)) = false → (decide (SI.val op = (65 : Int)) = true → false = uA (SI.val op) ∧ false = uB (SI.val op) ∧ false = uC (SI.val op) ∧ false = uN (SI.val op)) ∧ (decide (SI.val op = (65 : Int)) = false → (decide (SI.val op = (19 : Int)) = true → false = uA (SI.val op) ∧ false = uB (SI.val op) ∧ false = uC (SI.val op) ∧ false = uN (SI.val op)) ∧ (decide (SI.val op = (19 : Int)) = false → (decide (SI.val op = (22 : Int)) = true → false = uA (SI.val op) ∧ false = uB (SI.val op) ∧ false = uC (SI.val op) ∧ false = uN (SI.val op)) ∧ (decide (SI.val op = (22 : Int)) = false → (decide (SI.val op = (96 : Int)) = true → false = uA (SI.val op) ∧ false = uB (SI.val op) ∧ false = uC (SI.val op) ∧ false = uN (SI.val op)) ∧ (decide (SI.val op = (96 : Int)) = false → (decide (SI.val op = (2 : Int)) = true → true = uA (SI.val op) ∧ true = uB (SI.val op) ∧ false = uC (SI.val op) ∧ false = uN (SI.val op)) ∧ (decide (SI.val op = (2 : Int)) = false → (decide (SI.val op = (37 : Int)) = true → true = uA (SI.val op) ∧ true = uB (SI.val op) ∧ false = uC (SI.val op) ∧ false = uN (SI.val op)) ∧ (decide (SI.val op = (37 : Int)) = false → (decide (SI.val op = (38 : Int)) = true → true = uA (SI.val op) ∧ true = uB (SI.val op) ∧ false = uC (SI.val op) ∧ false = uN (SI.val op)) ∧ (decide (SI.val op = (38 : Int)) = false → (decide (SI.val op = (41 : Int)) = true → true = uA (SI.val op) ∧ true = uB (SI.val op) ∧ false = uC (SI.val op) ∧ false = uN (SI.val op)) ∧ (decide (SI.val op = (41 : Int)) = false → (decide (SI.val op = (12 : Int)) = true → true = uA (SI.val op) ∧ true = uB (SI.val op) ∧ true = uC (SI.val op) ∧ true = uN (SI.val op)) ∧ (decide (SI.val op = (12 : Int)) = false → (decide (SI.val op = (13 : Int)) = true → true = uA (SI.val op) ∧ true = uB (SI.val op) ∧ true = uC (SI.val op) ∧ true = uN (SI.val op)) ∧ (decide (SI.val op = (13 : Int)) = false → (decide (SI.val op = (16 : Int)) = true → false = uA (SI.val op) ∧ false = uB (SI.val op) ∧ true = uC (SI.val op) ∧ true = uN (SI.val op)) ∧ (decide (SI.val op = (16 : Int)) = false → (decide (SI.val op = (17 : Int)) = true → true = uA (SI.val op) ∧ false = uB (SI.val op) ∧ true = uC (SI.val op) ∧ true = uN (SI.val op)) ∧ (decide (SI.val op = (17 : Int)) = false → (decide (SI.val op = (18 : Int)) = true → true = uA (SI.val op) ∧ false = uB (SI.val op) ∧ true = uC (SI.val op) ∧ true = uN (SI.val op)) ∧ (decide (SI.val op = (18 : Int)) = false → (decide (SI.val op = (3 : Int)) = true → true = uA (SI.val op) ∧ true = uB (SI.val op) ∧ true = uC (SI.val op) ∧ false = uN (SI.val op)) ∧ (decide (SI.val op = (3 : Int)) = false → (decide (SI.val op = (4 : Int)) = true → true = uA (SI.val op) ∧ true = uB (SI.val op) ∧ true = uC (SI.val op) ∧ false = uN (SI.val op)) ∧ (decide (SI.val op = (4 : Int)) = false → (decide (SI.val op = (5 : Int)) = true → true = uA (SI.val op) ∧ true = uB (SI.val op) ∧ true = uC (SI.val op) ∧ false = uN (SI.val op)) ∧ (decide (SI.val op = (5 : Int)) = false → (decide (SI.val op = (6 : Int)) = true → true = uA (SI.val op) ∧ true = uB (SI.val op) ∧ true = uC (SI.val op) ∧ false = uN (SI.val op)) ∧ (decide (SI.val op = (6 : Int)) = false → (decide (SI.val op = (7 : Int)) = true → true = uA (SI.val op) ∧ true = uB (SI.val op) ∧ true = uC (SI.val op) ∧ false = uN (SI.val op)) ∧ (decide (SI.val op = (7 : Int)) = false → (decide (SI.val op = (8 : Int)) = true → true = uA (SI.val op) ∧ true = uB (SI.val op) ∧ true = uC (SI.val op) ∧ false = uN (SI.val op)) ∧ (decide (SI.val op = (8 : Int)) = false → (decide (SI.val op = (9 : Int)) = true → true = uA (SI.val op) ∧ true = uB (SI.val op) ∧ true = uC (SI.val op) ∧ false = uN (SI.val op)) ∧ (decide (SI.val op = (9 : Int)) = false → (decide (SI.val op = (10 : Int)) = true → true = uA (SI.val op) ∧ true = uB (SI.val op) ∧ true = uC (SI.val op) ∧ false = uN (SI.val op)) ∧ (decide (SI.val op = (10 : Int)) = false → (decide (SI.val op = (11 : Int)) = true → true = uA (SI.val op) ∧ true = uB (SI.val op) ∧ true = uC (SI.val op) ∧ false = uN (SI.val op)) ∧ (decide (SI.val op = (11 : Int)) = false → (decide (SI.val op = (24 : Int)) = true → true = uA (SI.val op) ∧ true = uB (SI.val op) ∧ true = uC (SI.val op) ∧ false = uN (SI.val op)) ∧ (decide (SI.val op = (24 : Int)) = false → true = uA (SI.val op) ∧ false = uB (SI.val op) ∧ false = uC (SI.val op) ∧ false = uN (SI.val op))))))))))))))))))))))))))))) := by kernel_rfl
set_option maxHeartbeats 4000000 in
theorem cUses : Con ea has gl 27 kUses := by
  refine plain_mk Tryd.func27 40 (con := []) trivial (fun hA hr hv => ?_) (by kernel_rfl) (by kernel_rfl) Tryd.ntmps27
  unfold kUses at hr; split at hr
  · rename_i op
    have := ret_ok hr; subst this
    refine ⟨_, [], rfl, rfl, (argUses op).mpr (by simp), rfl, (fun W R ρ0 own0 hown => noSums (by kernel_rfl)), (runUses gl op).mpr ?_⟩
    clear hr
    generalize op.val = op
    simp only [decide_eq_true_eq, decide_eq_false_iff_not]
    repeat (first | (intro h; subst h; decide) | (with_reducible intro _) | (with_reducible refine ⟨?_, fun _ => ?_⟩))
    all_goals (refine ⟨?_, ?_, ?_, ?_⟩ <;> simp [uA, uB, uC, uN, *] <;> omega)
  · cases hr
theorem uN_uC {op : Int} (h : uN op = true) : uC op = true := by
  simp only [uN, uC, Bool.or_eq_true, beq_iff_eq] at h ⊢
  omega
theorem ref_ok (op a b c imm : Int) : (uN op = true → (!decide (isaClass op = 0) && regB a (uA op) && regB b (uB op) && (isaTwo op || decide (imm = 0)) && decide (0 ≤ c) && decide (c ≤ 255)) = wordOk op a b c imm) ∧
    (uN op = false → (!decide (isaClass op = 0) && regB a (uA op) && regB b (uB op) && (isaTwo op || decide (imm = 0)) && regB c (uC op)) = wordOk op a b c imm) := by
  cases hc : (isaClass op == 0) with
  | true =>
    have : isaClass op = 0 := by simpa using hc
    simp [wordOk, this]
  | false =>
    have hne : ¬ isaClass op = 0 := by simpa using hc
    unfold wordOk
    rw [fitsA_ok hc, fitsB_ok hc, fitsC_ok hc, hc]
    refine ⟨fun h => ?_, fun h => ?_⟩
    · have hC := uN_uC h
      rw [Bool.eq_iff_iff]
      unfold okA okB Fac.okC regB
      rw [h, hC]
      cases uA op <;> cases uB op <;> cases isaTwo op <;> simp [hne] <;> omega
    · rw [Bool.eq_iff_iff]
      unfold okA okB Fac.okC regB
      rw [h]
      cases uA op <;> cases uB op <;> cases uC op <;> cases isaTwo op <;> simp [hne] <;> omega
def krWord : List SVal → Nat → Acc ORes := fun a n => match a with | [.agg [.int .i64 op, .int .i64 a, .int .i64 b, .int .i64 c, .int .u32 imm]] => .ret ({ v := .tuple [.int .u32 (.full (wordW op.val a.val b.val c.val imm.val)), .bool (.sym (wordOk op.val a.val b.val c.val imm.val))] }) | _ => .fail "rWord"
theorem argrWord (op a b c imm : SI) : (all (subL tAtN none' [] deep [.agg [.int .i64 op, .int .i64 a, .int .i64 b, .int .i64 c, .int .u32 imm]] [.agg [.int .i64 (.full op.val), .int .i64 (.full a.val), .int .i64 (.full b.val), .int .i64 (.full c.val), .int .u32 (.full imm.val)]])) = (
  SI.val op = SI.val op ∧ SI.val a = SI.val a ∧ SI.val b = SI.val b ∧ SI.val c = SI.val c ∧ SI.val imm = SI.val imm) := by kernel_rfl
theorem runrWord (gl : List (Nat × SVal)) (op a b c imm : SI) : (Tr.sat (plainQ (.tuple [.int .u32 (.full (wordW op.val a.val b.val c.val imm.val)), .bool (.sym (wordOk op.val a.val b.val c.val imm.val))])) (run (env gl [(27, kUses), (20, krClass), (28, kreg), (15, krTwo)]) [] (bodyOf Tryd.f10) (start [.agg [.int .i64 (.full op.val), .int .i64 (.full a.val), .int .i64 (.full b.val), .int .i64 (.full c.val), .int .u32 (.full imm.val)]] 82) (ends (env gl [(27, kUses), (20, krClass), (28, kreg), (15, krTwo)]) Tryd.f10.results.toList))) = (
  (uN (SI.val op) = true → ((!(!decide (isaClass (SI.val op) = (0 : Int)) && regB (SI.val a) (uA (SI.val op)) && regB (SI.val b) (uB (SI.val op)) && (isaTwo (SI.val op) || decide (SI.val imm = (0 : Int))) && decide ((0 : Int) ≤ SI.val c) && decide (SI.val c ≤ (255 : Int)))) = true → (0 : Int) = wordW (SI.val op) (SI.val a) (SI.val b) (SI.val c) (SI.val imm) ∧ false = wordOk (SI.val op) (SI.val a) (SI.val b) (SI.val c) (SI.val imm)) ∧ ((!(!decide (isaClass (SI.val op) = (0 : Int)) && regB (SI.val a) (uA (SI.val op)) && regB (SI.val b) (uB (SI.val op)) && (isaTwo (SI.val op) || decide (SI.val imm = (0 : Int))) && decide ((0 : Int) ≤ SI.val c) && decide (SI.val c ≤ (255 : Int)))) = false → bits BinOp.or IntKind.u32 (bits BinOp.or IntKind.u32 (bits BinOp.or IntKind.u32 (IntKind.wrap IntKind.u32 (IntKind.wrap IntKind.u32 (SI.val op) * (16777216 : Int))) (IntKind.wrap IntKind.u32 (IntKind.wrap IntKind.u32 (SI.val a) * (65536 : Int)))) (IntKind.wrap IntKind.u32 (IntKind.wrap IntKind.u32 (SI.val b) * (256 : Int)))) (IntKind.wrap IntKind.u32 (SI.val c)) = wordW (SI.val op) (SI.val a) (SI.val b) (SI.val c) (SI.val imm) ∧ true = wordOk (SI.val op) (SI.val a) (SI.val b) (SI.val c) (SI.val imm))) ∧ (uN (SI.val op) = false → ((!(!decide (isaClass (SI.val op) = (0 : Int)) && regB (SI.val a) (uA (SI.val op)) && regB (SI.val b) (uB (SI.val op)) && (isaTwo (SI.val op) || decide (SI.val imm = (0 : Int))) && regB (SI.val c) (uC (SI.val op)))) = true → (0 : Int) = wordW (SI.val op) (SI.val a) (SI.val b) (SI.val c) (SI.val imm) ∧ false = wordOk (SI.val op) (SI.val a) (SI.val b) (SI.val c) (SI.val imm)) ∧ ((!(!decide (isaClass (SI.val op) = (0 : Int)) && regB (SI.val a) (uA (SI.val op)) && regB (SI.val b) (uB (SI.val op)) && (isaTwo (SI.val op) || decide (SI.val imm = (0 : Int))) && regB (SI.val c) (uC (SI.val op)))) = false → bits BinOp.or IntKind.u32 (bits BinOp.or IntKind.u32 (bits BinOp.or IntKind.u32 (IntKind.wrap IntKind.u32 (IntKind.wrap IntKind.u32 (SI.val op) * (16777216 : Int))) (IntKind.wrap IntKind.u32 (IntKind.wrap IntKind.u32 (SI.val a) * (65536 : Int)))) (IntKind.wrap IntKind.u32 (IntKind.wrap IntKind.u32 (SI.val b) * (256 : Int)))) (IntKind.wrap IntKind.u32 (SI.val c)) = wordW (SI.val op) (SI.val a) (SI.val b) (SI.val c) (SI.val imm) ∧ true = wordOk (SI.val op) (SI.val a) (SI.val b) (SI.val c) (SI.val imm)))) := by kernel_rfl
set_option maxHeartbeats 4000000 in
theorem crWord : Con ea has gl 10 krWord := by
  refine plain_mk Tryd.func10 82 (con := [(27, kUses), (20, krClass), (28, kreg), (15, krTwo)]) ⟨cUses, crClass, creg, crTwo, trivial⟩ (fun hA hr hv => ?_) (by kernel_rfl) (by kernel_rfl) Tryd.ntmps10
  unfold krWord at hr; split at hr
  · rename_i op a b c imm
    have := ret_ok hr; subst this
    refine ⟨_, [], rfl, rfl, (argrWord op a b c imm).mpr (by simp), rfl, (fun W R ρ0 own0 hown => noSums (by kernel_rfl)), (runrWord gl op a b c imm).mpr ?_⟩
    clear hr
    clear hA hv
    generalize op.val = op
    generalize a.val = a
    generalize b.val = b
    generalize c.val = c
    generalize imm.val = imm
    have h1 := (ref_ok op a b c imm).1
    have h2 := (ref_ok op a b c imm).2
    have fin : ((!wordOk op a b c imm) = true → 0 = wordW op a b c imm ∧ false = wordOk op a b c imm) ∧ ((!wordOk op a b c imm) = false →
        bits BinOp.or IntKind.u32 (bits BinOp.or IntKind.u32 (bits BinOp.or IntKind.u32 (IntKind.u32.wrap (IntKind.u32.wrap op * 16777216)) (IntKind.u32.wrap (IntKind.u32.wrap a * 65536))) (IntKind.u32.wrap (IntKind.u32.wrap b * 256))) (IntKind.u32.wrap c) = wordW op a b c imm ∧ true = wordOk op a b c imm) := by
      refine ⟨fun h => ?_, fun h => ?_⟩
      · have h : wordOk op a b c imm = false := by simpa using h
        rw [wordW, h]; exact ⟨rfl, rfl⟩
      · have h : wordOk op a b c imm = true := by simpa using h
        refine ⟨?_, h.symm⟩
        rw [wordW, if_pos h]
        unfold wordOk at h
        simp only [Bool.and_eq_true, Bool.not_eq_true'] at h
        obtain ⟨⟨⟨⟨g1, g2⟩, g3⟩, g4⟩, _⟩ := h
        have := class_in g1
        simp only [IntKind.wrap_u32]
        exact word_bits (by omega) (fits_in g2) (fits_in g3) (fits_in g4)
    refine ⟨fun h => ?_, fun h => ?_⟩
    · rw [h1 h]; exact fin
    · rw [h2 h]; exact fin
  · cases hr
def krOf : List SVal → Nat → Acc ORes := fun a n => match a with | [.int .u32 w, .int .u32 imm] => .ret ({ v := .tuple [.agg (ofF w.val imm.val).enc, .bool (.sym (ofOk w.val))] }) | _ => .fail "rOf"
theorem argrOf (w imm : SI) : (all (subL tAtN none' [] deep [.int .u32 w, .int .u32 imm] [.int .u32 (.full w.val), .int .u32 (.full imm.val)])) = (
  SI.val w = SI.val w ∧ SI.val imm = SI.val imm) := by kernel_rfl
theorem runrOf (gl : List (Nat × SVal)) (w imm : SI) : (Tr.sat (plainQ (.tuple [.agg (ofF w.val imm.val).enc, .bool (.sym (ofOk w.val))])) (run (env gl [(15, krTwo), (10, krWord)]) [] (bodyOf Tryd.f14) (start [.int .u32 (.full w.val), .int .u32 (.full imm.val)] 38) (ends (env gl [(15, krTwo), (10, krWord)]) Tryd.f14.results.toList))) = (
  (isaTwo (SI.val w / (16777216 : Int)) = true → ((!wordOk (SI.val w / (16777216 : Int)) (SI.val w / (65536 : Int) % (256 : Int)) (SI.val w / (256 : Int) % (256 : Int)) (SI.val w % (256 : Int)) (SI.val imm)) = true → (0 : Int) = (ofF (SI.val w) (SI.val imm)).op ∧ (0 : Int) = (ofF (SI.val w) (SI.val imm)).a ∧ (0 : Int) = (ofF (SI.val w) (SI.val imm)).b ∧ (0 : Int) = (ofF (SI.val w) (SI.val imm)).c ∧ (0 : Int) = (ofF (SI.val w) (SI.val imm)).imm ∧ false = ofOk (SI.val w)) ∧ ((!wordOk (SI.val w / (16777216 : Int)) (SI.val w / (65536 : Int) % (256 : Int)) (SI.val w / (256 : Int) % (256 : Int)) (SI.val w % (256 : Int)) (SI.val imm)) = false → SI.val w / (16777216 : Int) = (ofF (SI.val w) (SI.val imm)).op ∧ SI.val w / (65536 : Int) % (256 : Int) = (ofF (SI.val w) (SI.val imm)).a ∧ SI.val w / (256 : Int) % (256 : Int) = (ofF (SI.val w) (SI.val imm)).b ∧ SI.val w % (256 : Int) = (ofF (SI.val w) (SI.val imm)).c ∧ SI.val imm = (ofF (SI.val w) (SI.val imm)).imm ∧ true = ofOk (SI.val w))) ∧ (isaTwo (SI.val w / (16777216 : Int)) = false → ((!wordOk (SI.val w / (16777216 : Int)) (SI.val w / (65536 : Int) % (256 : Int)) (SI.val w / (256 : Int) % (256 : Int)) (SI.val w % (256 : Int)) (0 : Int)) = true → (0 : Int) = (ofF (SI.val w) (SI.val imm)).op ∧ (0 : Int) = (ofF (SI.val w) (SI.val imm)).a ∧ (0 : Int) = (ofF (SI.val w) (SI.val imm)).b ∧ (0 : Int) = (ofF (SI.val w) (SI.val imm)).c ∧ (0 : Int) = (ofF (SI.val w) (SI.val imm)).imm ∧ false = ofOk (SI.val w)) ∧ ((!wordOk (SI.val w / (16777216 : Int)) (SI.val w / (65536 : Int) % (256 : Int)) (SI.val w / (256 : Int) % (256 : Int)) (SI.val w % (256 : Int)) (0 : Int)) = false → SI.val w / (16777216 : Int) = (ofF (SI.val w) (SI.val imm)).op ∧ SI.val w / (65536 : Int) % (256 : Int) = (ofF (SI.val w) (SI.val imm)).a ∧ SI.val w / (256 : Int) % (256 : Int) = (ofF (SI.val w) (SI.val imm)).b ∧ SI.val w % (256 : Int) = (ofF (SI.val w) (SI.val imm)).c ∧ (0 : Int) = (ofF (SI.val w) (SI.val imm)).imm ∧ true = ofOk (SI.val w)))) := by kernel_rfl
set_option maxHeartbeats 4000000 in
theorem crOf : Con ea has gl 14 krOf := by
  refine plain_mk Tryd.func14 38 (con := [(15, krTwo), (10, krWord)]) ⟨crTwo, crWord, trivial⟩ (fun hA hr hv => ?_) (by kernel_rfl) (by kernel_rfl) Tryd.ntmps14
  unfold krOf at hr; split at hr
  · rename_i w imm
    have := ret_ok hr; subst this
    refine ⟨_, [], rfl, rfl, (argrOf w imm).mpr (by simp), rfl, (fun W R ρ0 own0 hown => noSums (by kernel_rfl)), (runrOf gl w imm).mpr ?_⟩
    clear hr
    clear hA hv
    generalize w.val = w
    generalize imm.val = imm
    have e : wordOk (w / 16777216) (w / 65536 % 256) (w / 256 % 256) (w % 256) 0 = ofOk w := rfl
    refine ⟨fun h => ?_, fun h => ?_⟩
    · rw [ofOk_imm h, e]; cases hk : ofOk w <;> simp [ofF, hk, ofImm, h]
    · rw [e]; cases hk : ofOk w <;> simp [ofF, hk, ofImm, h]
  · cases hr
def krJumps : List SVal → Nat → Acc ORes := fun a n => match a with | [.int .i64 op] => .ret ({ v := .bool (.sym (isaJumps op.val)) }) | _ => .fail "rJumps"
theorem argrJumps (op : SI) : (all (subL tAtN none' [] deep [.int .i64 op] [.int .i64 (.full op.val)])) = (
  SI.val op = SI.val op) := by kernel_rfl
theorem runrJumps (gl : List (Nat × SVal)) (op : SI) : (Tr.sat (plainQ (.bool (.sym (isaJumps op.val)))) (run (env gl []) [] (bodyOf Tryd.f57) (start [.int .i64 (.full op.val)] 9) (ends (env gl []) Tryd.f57.results.toList))) = (
  (decide ((16 : Int) ≤ SI.val op) && decide (SI.val op ≤ (23 : Int))) = isaJumps (SI.val op)) := by kernel_rfl
set_option maxHeartbeats 4000000 in
theorem crJumps : Con ea has gl 57 krJumps := by
  refine plain_mk Tryd.func57 9 (con := []) trivial (fun hA hr hv => ?_) (by kernel_rfl) (by kernel_rfl) Tryd.ntmps57
  unfold krJumps at hr; split at hr
  · rename_i op
    have := ret_ok hr; subst this
    refine ⟨_, [], rfl, rfl, (argrJumps op).mpr (by simp), rfl, (fun W R ρ0 own0 hown => noSums (by kernel_rfl)), (runrJumps gl op).mpr ?_⟩
    clear hr
    unfold isaJumps
    rw [Bool.eq_iff_iff]; simp
  · cases hr
def kiJumps : List SVal → Nat → Acc ORes := fun a n => match a with | [.agg [], .int .i64 op] => .ret ({ v := .bool (.sym (isaJumps op.val)) }) | _ => .fail "iJumps"
theorem argiJumps (op : SI) : (all (subL tAtN none' [] deep [.agg [], .int .i64 op] [.agg [], .int .i64 (.full op.val)])) = (
  SI.val op = SI.val op) := by kernel_rfl
theorem runiJumps (gl : List (Nat × SVal)) (op : SI) : (Tr.sat (plainQ (.bool (.sym (isaJumps op.val)))) (run (env gl []) [] (bodyOf Tryd.f65) (start [.agg [], .int .i64 (.full op.val)] 15) (ends (env gl []) Tryd.f65.results.toList))) = (
  (decide (SI.val op = (16 : Int)) = true → true = isaJumps (SI.val op)) ∧ (decide (SI.val op = (16 : Int)) = false → (decide (SI.val op = (17 : Int)) = true → true = isaJumps (SI.val op)) ∧ (decide (SI.val op = (17 : Int)) = false → (decide (SI.val op = (18 : Int)) = true → true = isaJumps (SI.val op)) ∧ (decide (SI.val op = (18 : Int)) = false → (decide (SI.val op = (19 : Int)) = true → true = isaJumps (SI.val op)) ∧ (decide (SI.val op = (19 : Int)) = false → (decide (SI.val op = (20 : Int)) = true → true = isaJumps (SI.val op)) ∧ (decide (SI.val op = (20 : Int)) = false → (decide (SI.val op = (21 : Int)) = true → true = isaJumps (SI.val op)) ∧ (decide (SI.val op = (21 : Int)) = false → (decide (SI.val op = (22 : Int)) = true → true = isaJumps (SI.val op)) ∧ (decide (SI.val op = (22 : Int)) = false → (decide (SI.val op = (23 : Int)) = true → true = isaJumps (SI.val op)) ∧ (decide (SI.val op = (23 : Int)) = false → false = isaJumps (SI.val op)))))))))) := by kernel_rfl
set_option maxHeartbeats 4000000 in
theorem ciJumps : Con ea has gl 65 kiJumps := by
  refine plain_mk Tryd.func65 15 (con := []) trivial (fun hA hr hv => ?_) (by kernel_rfl) (by kernel_rfl) Tryd.ntmps65
  unfold kiJumps at hr; split at hr
  · rename_i op
    have := ret_ok hr; subst this
    refine ⟨_, [], rfl, rfl, (argiJumps op).mpr (by simp), rfl, (fun W R ρ0 own0 hown => noSums (by kernel_rfl)), (runiJumps gl op).mpr ?_⟩
    clear hr
    generalize op.val = op
    unfold isaJumps
    simp only [decide_eq_true_eq, decide_eq_false_iff_not]
    repeat (first | (intro h; subst h; decide) | (with_reducible intro _) | (with_reducible refine ⟨?_, fun _ => ?_⟩))
    all_goals (symm; rw [decide_eq_false_iff_not]; omega)
  · cases hr
def kiDisp : List SVal → Nat → Acc ORes := fun a n => match a with | [.int .i64 c] => .ret ({ v := .int .i64 (.sym (dispM c.val) (-128) 127) }) | _ => .fail "iDisp"
theorem argiDisp (c : SI) : (all (subL tAtN none' [] deep [.int .i64 c] [.int .i64 (.full c.val)])) = (
  SI.val c = SI.val c) := by kernel_rfl
theorem runiDisp (gl : List (Nat × SVal)) (c : SI) : (Tr.sat (plainQ (.int .i64 (.sym (dispM c.val) (-128) 127))) (run (env gl []) [] (bodyOf Tryd.f66) (start [.int .i64 (.full c.val)] 6) (ends (env gl []) Tryd.f66.results.toList))) = (
  IntKind.wrap IntKind.i8 (SI.val c) = dispM (SI.val c)) := by kernel_rfl
set_option maxHeartbeats 4000000 in
theorem ciDisp : Con ea has gl 66 kiDisp := by
  refine plain_mk Tryd.func66 6 (con := []) trivial (fun hA hr hv => ?_) (by kernel_rfl) (by kernel_rfl) Tryd.ntmps66
  unfold kiDisp at hr; split at hr
  · rename_i c
    have := ret_ok hr; subst this
    refine ⟨_, [], rfl, rfl, (argiDisp c).mpr (by simp), rfl, (fun W R ρ0 own0 hown => noSums (by kernel_rfl)), (runiDisp gl c).mpr ?_⟩
    clear hr
    rw [wrap_i8_eq]; rfl
  · cases hr
def krDisp : List SVal → Nat → Acc ORes := fun a n => match a with | [.int .i64 c] => .ret ({ v := .int .i64 (.sym (dispM c.val) (-128) 127) }) | _ => .fail "rDisp"
theorem argrDisp (c : SI) : (all (subL tAtN none' [] deep [.int .i64 c] [.int .i64 (.full c.val)])) = (
  SI.val c = SI.val c) := by kernel_rfl
theorem runrDisp (gl : List (Nat × SVal)) (c : SI) : (Tr.sat (plainQ (.int .i64 (.sym (dispM c.val) (-128) 127))) (run (env gl []) [] (bodyOf Tryd.f21) (start [.int .i64 (.full c.val)] 10) (ends (env gl []) Tryd.f21.results.toList))) = (
  (decide ((128 : Int) ≤ SI.val c % (256 : Int)) = true → SI.val c % (256 : Int) - (256 : Int) = dispM (SI.val c) ∧ (-128 : Int) ≤ dispM (SI.val c) ∧ dispM (SI.val c) ≤ (127 : Int)) ∧ (decide ((128 : Int) ≤ SI.val c % (256 : Int)) = false → SI.val c % (256 : Int) = dispM (SI.val c) ∧ (-128 : Int) ≤ dispM (SI.val c) ∧ dispM (SI.val c) ≤ (127 : Int))) := by kernel_rfl
set_option maxHeartbeats 4000000 in
theorem crDisp : Con ea has gl 21 krDisp := by
  refine plain_mk Tryd.func21 10 (con := []) trivial (fun hA hr hv => ?_) (by kernel_rfl) (by kernel_rfl) Tryd.ntmps21
  unfold krDisp at hr; split at hr
  · rename_i c
    have := ret_ok hr; subst this
    refine ⟨_, [], rfl, rfl, (argrDisp c).mpr (by simp), rfl, (fun W R ρ0 own0 hown => noSums (by kernel_rfl)), (runrDisp gl c).mpr ?_⟩
    clear hr
    unfold dispM
    simp only [decide_eq_true_eq, decide_eq_false_iff_not]
    omega
  · cases hr
def krone : List SVal → Nat → Acc ORes := fun a n => match a with | [.bool b] => .ret ({ v := .int .u32 (.sym (if b.val = true then 1 else 0) 0 1) }) | _ => .fail "rone"
theorem argrone (b : SB) : (all (subL tAtN none' [] deep [.bool b] [.bool (.sym b.val)])) = (
  SB.val b = SB.val b) := by kernel_rfl
theorem runrone (gl : List (Nat × SVal)) (b : SB) : (Tr.sat (plainQ (.int .u32 (.sym (if b.val = true then 1 else 0) 0 1))) (run (env gl []) [] (bodyOf Tryd.f58) (start [.bool (.sym b.val)] 4) (ends (env gl []) Tryd.f58.results.toList))) = (
  (SB.val b = true → (1 : Int) = if SB.val b = true then (1 : Int) else (0 : Int)) ∧ (SB.val b = false → (0 : Int) = if SB.val b = true then (1 : Int) else (0 : Int))) := by kernel_rfl
set_option maxHeartbeats 4000000 in
theorem crone : Con ea has gl 58 krone := by
  refine plain_mk Tryd.func58 4 (con := []) trivial (fun hA hr hv => ?_) (by kernel_rfl) (by kernel_rfl) Tryd.ntmps58
  unfold krone at hr; split at hr
  · rename_i b
    have := ret_ok hr; subst this
    refine ⟨_, [], rfl, rfl, (argrone b).mpr (by simp), rfl, (fun W R ρ0 own0 hown => noSums (by kernel_rfl)), (runrone gl b).mpr ?_⟩
    clear hr
    cases b.val <;> simp
  · cases hr
end
end Go.Proofs.YtfbagpbncfapbaaDoor

