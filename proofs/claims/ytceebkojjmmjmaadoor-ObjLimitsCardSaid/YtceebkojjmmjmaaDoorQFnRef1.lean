/- Contracts that the proofs use. -/
import Derived.Test.YtceebkojjmmjmaaDoorQFnIsa
set_option linter.unusedVariables false
set_option linter.unusedSimpArgs false
namespace Go.Proofs.YtceebkojjmmjmaaDoor
open Go.RowKit Go.Sy Go.Fac
section
variable {ea : Ear} {has : Int → Prop} {gl : List (Nat × SVal)}
def krTwo : List SVal → Nat → Acc ORes := fun a n => match a with | [.int .i64 op] => .ret ({ v := .bool (.sym (isaTwo op.val)) }) | _ => .fail "rTwo"
theorem argrTwo (op : SI) : (all (subL tAtN none' [] deep [.int .i64 op] [.int .i64 (.full op.val)])) = (
  SI.val op = SI.val op) := by kernel_rfl
theorem runrTwo (gl : List (Nat × SVal)) (op : Int) : (Tr.sat (plainQ (.bool (.sym (isaTwo op)))) (run (env gl []) [] (bodyOf Tryd.f21) (start [.int .i64 (.full op)] 29) (ends (env gl []) Tryd.f21.results.toList))) = (
  (decide (op = (14 : Int)) || decide (op = (15 : Int)) || decide (op = (19 : Int)) || decide (op = (20 : Int)) || decide (op = (21 : Int)) || decide (op = (22 : Int)) || decide (op = (96 : Int))) = isaTwo op) := by kernel_rfl
set_option maxHeartbeats 4000000 in
theorem crTwo : Con ea has gl 21 krTwo := by
  refine plain_mkB Tryd.func21 29 (con := []) trivial (fun hA hr hv => ?_) (by kernel_rfl) (by kernel_rfl) Tryd.ntmps21
  unfold krTwo at hr; split at hr
  · rename_i op
    have := ret_ok hr; subst this
    refine ⟨_, [], rfl, rfl, .of (argrTwo op) (by simp), rfl, (fun W R ρ0 own0 hown => noSums (by kernel_rfl)), .of (runrTwo gl op.val) ?_⟩
    clear hr
    rfl
  · cases hr
def regB (n : Int) (h : Bool) : Bool := decide (n = 0) || h && decide (0 < n) && decide (n < 16)
def kreg : List SVal → Nat → Acc ORes := fun a n => match a with | [.int .i64 n', .bool b] => .ret ({ v := .bool (.sym (regB n'.val b.val)) }) | _ => .fail "reg"
theorem argreg (n' : SI) (b : SB) : (all (subL tAtN none' [] deep [.int .i64 n', .bool b] [.int .i64 (.full n'.val), .bool (.sym b.val)])) = (
  SI.val n' = SI.val n' ∧ SB.val b = SB.val b) := by kernel_rfl
theorem runreg (gl : List (Nat × SVal)) (n' : Int) (b : Bool) : (Tr.sat (plainQ (.bool (.sym (regB n' b)))) (run (env gl []) [] (bodyOf Tryd.f60) (start [.int .i64 (.full n'), .bool (.sym b)] 18) (ends (env gl []) Tryd.f60.results.toList))) = (
  (decide (n' = (0 : Int)) || b && decide ((0 : Int) < n') && decide (n' < (16 : Int))) = regB n' b) := by kernel_rfl
set_option maxHeartbeats 4000000 in
theorem creg : Con ea has gl 60 kreg := by
  refine plain_mkB Tryd.func60 18 (con := []) trivial (fun hA hr hv => ?_) (by kernel_rfl) (by kernel_rfl) Tryd.ntmps60
  unfold kreg at hr; split at hr
  · rename_i n' b
    have := ret_ok hr; subst this
    refine ⟨_, [], rfl, rfl, .of (argreg n' b) (by simp), rfl, (fun W R ρ0 own0 hown => noSums (by kernel_rfl)), .of (runreg gl n'.val b.val) ?_⟩
    clear hr
    rfl
  · cases hr
def kUses : List SVal → Nat → Acc ORes := fun a n => match a with | [.int .i64 op] => .ret ({ v := .tuple [.bool (.sym (uA op.val)), .bool (.sym (uB op.val)), .bool (.sym (uC op.val)), .bool (.sym (uN op.val))] }) | _ => .fail "Uses"
theorem argUses (op : SI) : (all (subL tAtN none' [] deep [.int .i64 op] [.int .i64 (.full op.val)])) = (
  SI.val op = SI.val op) := by kernel_rfl
theorem runUses (gl : List (Nat × SVal)) (op : Int) : (Tr.sat (plainQ (.tuple [.bool (.sym (uA op)), .bool (.sym (uB op)), .bool (.sym (uC op)), .bool (.sym (uN op))])) (run (env gl []) [] (bodyOf Tryd.f59) (start [.int .i64 (.full op)] 40) (ends (env gl []) Tryd.f59.results.toList))) = (
  (decide (op = (1 : Int)) = true → false = uA op ∧ false = uB op ∧ false = uC op ∧ false = uN op) ∧ (decide (op = (1 : Int)) = false → (decide (op = (34 : Int)) = true → false = uA op ∧ false = uB op ∧ false = uC op ∧ false = uN op) ∧ (decide (op = (34 : Int)) = false → (decide (op = (42 : Int)) = true → false = uA op ∧ false = uB op ∧ false = uC op ∧ false = uN op) ∧ (decide (op = (42 : Int)) = false → (decide (op = (64 : Int)) = true → false = uA op ∧ false = uB op ∧ false = uC op ∧ false = uN op) ∧ (decide (op = (64 : Int)) = false → (decide (op = (65 : Int)) = true → false = uA op ∧ false = uB op ∧ false = uC op ∧ false = uN op) ∧ (decide (op = (65 : Int)) = false → (decide (op = (19 : Int)) = true → false = uA op ∧ false = uB op ∧ false = uC op ∧ false = uN op) ∧ (decide (op = (19 : Int)) = false → (decide (op = (22 : Int)) = true → false = uA op ∧ false = uB op ∧ false = uC op ∧ false = uN op) ∧ (decide (op = (22 : Int)) = false → (decide (op = (96 : Int)) = true → false = uA op ∧ false = uB op ∧ false = uC op ∧ false = uN op) ∧ (decide (op = (96 : Int)) = false → (decide (op = (2 : Int)) = true → true = uA op ∧ true = uB op ∧ false = uC op ∧ false = uN op) ∧ (decide (op = (2 : Int)) = false → (decide (op = (37 : Int)) = true → true = uA op ∧ true = uB op ∧ false = uC op ∧ false = uN op) ∧ (decide (op = (37 : Int)) = false → (decide (op = (38 : Int)) = true → true = uA op ∧ true = uB op ∧ false = uC op ∧ false = uN op) ∧ (decide (op = (38 : Int)) = false → (decide (op = (41 : Int)) = true → true = uA op ∧ true = uB op ∧ false = uC op ∧ false = uN op) ∧ (decide (op = (41 : Int)) = false → (decide (op = (12 : Int)) = true → true = uA op ∧ true = uB op ∧ true = uC op ∧ true = uN op) ∧ (decide (op = (12 : Int)) = false → (decide (op = (13 : Int)) = true → true = uA op ∧ true = uB op ∧ true = uC op ∧ true = uN op) ∧ (decide (op = (13 : Int)) = false → (decide (op = (16 : Int)) = true → false = uA op ∧ false = uB op ∧ true = uC op ∧ true = uN op) ∧ (decide (op = (16 : Int)) = false → (decide (op = (17 : Int)) = true → true = uA op ∧ false = uB op ∧ true = uC op ∧ true = uN op) ∧ (decide (op = (17 : Int)) = false → (decide (op = (18 : Int)) = true → true = uA op ∧ false = uB op ∧ true = uC op ∧ true = uN op) ∧ (decide (op = (18 : Int)) = false → (decide (op = (3 : Int)) = true → true = uA op ∧ true = uB op ∧ true = uC op ∧ false = uN op) ∧ (decide (op = (3 : Int)) = false → (decide (op = (4 : Int)) = true → true = uA op ∧ true = uB op ∧ true = uC op ∧ false = uN op) ∧ (decide (op = (4 : Int)) = false → (decide (op = (5 : Int)) = true → true = uA op ∧ true = uB op ∧ true = uC op ∧ false = uN op) ∧ (decide (op = (5 : Int)) = false → (decide (op = (6 : Int)) = true → true = uA op ∧ true = uB op ∧ true = uC op ∧ false = uN op) ∧ (decide (op = (6 : Int)) = false → (decide (op = (7 : Int)) = true → true = uA op ∧ true = uB op ∧ true = uC op ∧ false = uN op) ∧ (decide (op = (7 : Int)) = false → (decide (op = (8 : Int)) = true → true = uA op ∧ true = uB op ∧ true = uC op ∧ false = uN op) ∧ (decide (op = (8 : Int)) = false → (decide (op = (9 : Int)) = true → true = uA op ∧ true = uB op ∧ true = uC op ∧ false = uN op) ∧ (decide (op = (9 : Int)) = false → (decide (op = (10 : Int)) = true → true = uA op ∧ true = uB op ∧ true = uC op ∧ false = uN op) ∧ (decide (op = (10 : Int)) = false → (decide (op = (11 : Int)) = true → true = uA op ∧ true = uB op ∧ true = uC op ∧ false = uN op) ∧ (decide (op = (11 : Int)) = false → (decide (op = (24 : Int)) = true → true = uA op ∧ true = uB op ∧ true = uC op ∧ false = uN op) ∧ (decide (op = (24 : Int)) = false → true = uA op ∧ false = uB op ∧ false = uC op ∧ false = uN op)))))))))))))))))))))))))))) := by kernel_rfl
set_option maxHeartbeats 4000000 in
theorem cUses : Con ea has gl 59 kUses := by
  refine plain_mkB Tryd.func59 40 (con := []) trivial (fun hA hr hv => ?_) (by kernel_rfl) (by kernel_rfl) Tryd.ntmps59
  unfold kUses at hr; split at hr
  · rename_i op
    have := ret_ok hr; subst this
    refine ⟨_, [], rfl, rfl, .of (argUses op) (by simp), rfl, (fun W R ρ0 own0 hown => noSums (by kernel_rfl)), .of (runUses gl op.val) ?_⟩
    clear hr
    generalize op.val = op
    simp only [decide_eq_true_eq, decide_eq_false_iff_not]
    repeat (first | (intro h; subst h; decide) | (with_reducible intro _) | (with_reducible refine ⟨?_, fun _ => ?_⟩))
    all_goals (refine ⟨?_, ?_, ?_, ?_⟩ <;> simp [uA, uB, uC, uN, *] <;> omega)
  · cases hr
theorem uN_uC {op : Int} (h : uN op = true) : uC op = true := by
  simp only [uN, uC, Bool.or_eq_true, beq_iff_eq] at h ⊢
  omega
theorem ref_ok (op a b c imm : Int) : (uN op = true → (!decide (isaClass op = 0) && regB a (uA op) && regB b (uB op) && (isaTwo op || decide (imm = 0)) && decide (0 ≤ c) && decide (c ≤ 255)) = wordOk op a b c imm) ∧
    (uN op = false → (!decide (isaClass op = 0) && regB a (uA op) && regB b (uB op) && (isaTwo op || decide (imm = 0)) && regB c (uC op)) = wordOk op a b c imm) := by
  cases hc : (isaClass op == 0) with
  | true =>
    have : isaClass op = 0 := by simpa using hc
    simp [wordOk, this]
  | false =>
    have hne : ¬ isaClass op = 0 := by simpa using hc
    unfold wordOk
    rw [fitsA_ok hc, fitsB_ok hc, fitsC_ok hc, hc]
    refine ⟨fun h => ?_, fun h => ?_⟩
    · have hC := uN_uC h
      rw [Bool.eq_iff_iff]
      unfold okA okB Fac.okC regB
      rw [h, hC]
      cases uA op <;> cases uB op <;> cases isaTwo op <;> simp [hne] <;> omega
    · rw [Bool.eq_iff_iff]
      unfold okA okB Fac.okC regB
      rw [h]
      cases uA op <;> cases uB op <;> cases uC op <;> cases isaTwo op <;> simp [hne] <;> omega
def krWord : List SVal → Nat → Acc ORes := fun a n => match a with | [.agg [.int .i64 op, .int .i64 a, .int .i64 b, .int .i64 c, .int .u32 imm]] => .ret ({ v := .tuple [.int .u32 (.full (wordW op.val a.val b.val c.val imm.val)), .bool (.sym (wordOk op.val a.val b.val c.val imm.val))] }) | _ => .fail "rWord"
theorem argrWord (op a b c imm : SI) : (all (subL tAtN none' [] deep [.agg [.int .i64 op, .int .i64 a, .int .i64 b, .int .i64 c, .int .u32 imm]] [.agg [.int .i64 (.full op.val), .int .i64 (.full a.val), .int .i64 (.full b.val), .int .i64 (.full c.val), .int .u32 (.full imm.val)]])) = (
  SI.val op = SI.val op ∧ SI.val a = SI.val a ∧ SI.val b = SI.val b ∧ SI.val c = SI.val c ∧ SI.val imm = SI.val imm) := by kernel_rfl
theorem runrWord (gl : List (Nat × SVal)) (op : Int) (a : Int) (b : Int) (c : Int) (imm : Int) : (Tr.sat (plainQ (.tuple [.int .u32 (.full (wordW op a b c imm)), .bool (.sym (wordOk op a b c imm))])) (run (env gl [(59, kUses), (19, krClass), (60, kreg), (21, krTwo)]) [] (bodyOf Tryd.f15) (start [.agg [.int .i64 (.full op), .int .i64 (.full a), .int .i64 (.full b), .int .i64 (.full c), .int .u32 (.full imm)]] 82) (ends (env gl [(59, kUses), (19, krClass), (60, kreg), (21, krTwo)]) Tryd.f15.results.toList))) = (
  (uN op = true → ((!(!decide (isaClass op = (0 : Int)) && regB a (uA op) && regB b (uB op) && (isaTwo op || decide (imm = (0 : Int))) && decide ((0 : Int) ≤ c) && decide (c ≤ (255 : Int)))) = true → (0 : Int) = wordW op a b c imm ∧ false = wordOk op a b c imm) ∧ ((!(!decide (isaClass op = (0 : Int)) && regB a (uA op) && regB b (uB op) && (isaTwo op || decide (imm = (0 : Int))) && decide ((0 : Int) ≤ c) && decide (c ≤ (255 : Int)))) = false → bits BinOp.or IntKind.u32 (bits BinOp.or IntKind.u32 (bits BinOp.or IntKind.u32 (IntKind.wrap IntKind.u32 (IntKind.wrap IntKind.u32 op * (16777216 : Int))) (IntKind.wrap IntKind.u32 (IntKind.wrap IntKind.u32 a * (65536 : Int)))) (IntKind.wrap IntKind.u32 (IntKind.wrap IntKind.u32 b * (256 : Int)))) (IntKind.wrap IntKind.u32 c) = wordW op a b c imm ∧ true = wordOk op a b c imm)) ∧ (uN op = false → ((!(!decide (isaClass op = (0 : Int)) && regB a (uA op) && regB b (uB op) && (isaTwo op || decide (imm = (0 : Int))) && regB c (uC op))) = true → (0 : Int) = wordW op a b c imm ∧ false = wordOk op a b c imm) ∧ ((!(!decide (isaClass op = (0 : Int)) && regB a (uA op) && regB b (uB op) && (isaTwo op || decide (imm = (0 : Int))) && regB c (uC op))) = false → bits BinOp.or IntKind.u32 (bits BinOp.or IntKind.u32 (bits BinOp.or IntKind.u32 (IntKind.wrap IntKind.u32 (IntKind.wrap IntKind.u32 op * (16777216 : Int))) (IntKind.wrap IntKind.u32 (IntKind.wrap IntKind.u32 a * (65536 : Int)))) (IntKind.wrap IntKind.u32 (IntKind.wrap IntKind.u32 b * (256 : Int)))) (IntKind.wrap IntKind.u32 c) = wordW op a b c imm ∧ true = wordOk op a b c imm))) := by kernel_rfl
set_option maxHeartbeats 4000000 in
theorem crWord : Con ea has gl 15 krWord := by
  refine plain_mkB Tryd.func15 82 (con := [(59, kUses), (19, krClass), (60, kreg), (21, krTwo)]) ⟨cUses, crClass, creg, crTwo, trivial⟩ (fun hA hr hv => ?_) (by kernel_rfl) (by kernel_rfl) Tryd.ntmps15
  unfold krWord at hr; split at hr
  · rename_i op a b c imm
    have := ret_ok hr; subst this
    refine ⟨_, [], rfl, rfl, .of (argrWord op a b c imm) (by simp), rfl, (fun W R ρ0 own0 hown => noSums (by kernel_rfl)), .of (runrWord gl op.val a.val b.val c.val imm.val) ?_⟩
    clear hr
    clear hA hv
    generalize op.val = op
    generalize a.val = a
    generalize b.val = b
    generalize c.val = c
    generalize imm.val = imm
    have h1 := (ref_ok op a b c imm).1
    have h2 := (ref_ok op a b c imm).2
    have fin : ((!wordOk op a b c imm) = true → 0 = wordW op a b c imm ∧ false = wordOk op a b c imm) ∧ ((!wordOk op a b c imm) = false →
        bits BinOp.or IntKind.u32 (bits BinOp.or IntKind.u32 (bits BinOp.or IntKind.u32 (IntKind.u32.wrap (IntKind.u32.wrap op * 16777216)) (IntKind.u32.wrap (IntKind.u32.wrap a * 65536))) (IntKind.u32.wrap (IntKind.u32.wrap b * 256))) (IntKind.u32.wrap c) = wordW op a b c imm ∧ true = wordOk op a b c imm) := by
      refine ⟨fun h => ?_, fun h => ?_⟩
      · have h : wordOk op a b c imm = false := by simpa using h
        rw [wordW, h]; exact ⟨rfl, rfl⟩
      · have h : wordOk op a b c imm = true := by simpa using h
        refine ⟨?_, h.symm⟩
        rw [wordW, if_pos h]
        unfold wordOk at h
        simp only [Bool.and_eq_true, Bool.not_eq_true'] at h
        obtain ⟨⟨⟨⟨g1, g2⟩, g3⟩, g4⟩, _⟩ := h
        have := class_in g1
        simp only [IntKind.wrap_u32]
        exact word_bits (by omega) (fits_in g2) (fits_in g3) (fits_in g4)
    refine ⟨fun h => ?_, fun h => ?_⟩
    · rw [h1 h]; exact fin
    · rw [h2 h]; exact fin
  · cases hr
def krOf : List SVal → Nat → Acc ORes := fun a n => match a with | [.int .u32 w, .int .u32 imm] => .ret ({ v := .tuple [.agg (ofF w.val imm.val).enc, .bool (.sym (ofOk w.val))] }) | _ => .fail "rOf"
theorem argrOf (w imm : SI) : (all (subL tAtN none' [] deep [.int .u32 w, .int .u32 imm] [.int .u32 (.full w.val), .int .u32 (.full imm.val)])) = (
  SI.val w = SI.val w ∧ SI.val imm = SI.val imm) := by kernel_rfl
theorem runrOf (gl : List (Nat × SVal)) (w : Int) (imm : Int) : (Tr.sat (plainQ (.tuple [.agg (ofF w imm).enc, .bool (.sym (ofOk w))])) (run (env gl [(21, krTwo), (15, krWord)]) [] (bodyOf Tryd.f16) (start [.int .u32 (.full w), .int .u32 (.full imm)] 38) (ends (env gl [(21, krTwo), (15, krWord)]) Tryd.f16.results.toList))) = (
  (isaTwo (w / (16777216 : Int)) = true → ((!wordOk (w / (16777216 : Int)) (w / (65536 : Int) % (256 : Int)) (w / (256 : Int) % (256 : Int)) (w % (256 : Int)) imm) = true → (0 : Int) = (ofF w imm).op ∧ (0 : Int) = (ofF w imm).a ∧ (0 : Int) = (ofF w imm).b ∧ (0 : Int) = (ofF w imm).c ∧ (0 : Int) = (ofF w imm).imm ∧ false = ofOk w) ∧ ((!wordOk (w / (16777216 : Int)) (w / (65536 : Int) % (256 : Int)) (w / (256 : Int) % (256 : Int)) (w % (256 : Int)) imm) = false → w / (16777216 : Int) = (ofF w imm).op ∧ w / (65536 : Int) % (256 : Int) = (ofF w imm).a ∧ w / (256 : Int) % (256 : Int) = (ofF w imm).b ∧ w % (256 : Int) = (ofF w imm).c ∧ imm = (ofF w imm).imm ∧ true = ofOk w)) ∧ (isaTwo (w / (16777216 : Int)) = false → ((!wordOk (w / (16777216 : Int)) (w / (65536 : Int) % (256 : Int)) (w / (256 : Int) % (256 : Int)) (w % (256 : Int)) (0 : Int)) = true → (0 : Int) = (ofF w imm).op ∧ (0 : Int) = (ofF w imm).a ∧ (0 : Int) = (ofF w imm).b ∧ (0 : Int) = (ofF w imm).c ∧ (0 : Int) = (ofF w imm).imm ∧ false = ofOk w) ∧ ((!wordOk (w / (16777216 : Int)) (w / (65536 : Int) % (256 : Int)) (w / (256 : Int) % (256 : Int)) (w % (256 : Int)) (0 : Int)) = false → w / (16777216 : Int) = (ofF w imm).op ∧ w / (65536 : Int) % (256 : Int) = (ofF w imm).a ∧ w / (256 : Int) % (256 : Int) = (ofF w imm).b ∧ w % (256 : Int) = (ofF w imm).c ∧ (0 : Int) = (ofF w imm).imm ∧ true = ofOk w))) := by kernel_rfl
set_option maxHeartbeats 4000000 in
theorem crOf : Con ea has gl 16 krOf := by
  refine plain_mkB Tryd.func16 38 (con := [(21, krTwo), (15, krWord)]) ⟨crTwo, crWord, trivial⟩ (fun hA hr hv => ?_) (by kernel_rfl) (by kernel_rfl) Tryd.ntmps16
  unfold krOf at hr; split at hr
  · rename_i w imm
    have := ret_ok hr; subst this
    refine ⟨_, [], rfl, rfl, .of (argrOf w imm) (by simp), rfl, (fun W R ρ0 own0 hown => noSums (by kernel_rfl)), .of (runrOf gl w.val imm.val) ?_⟩
    clear hr
    clear hA hv
    generalize w.val = w
    generalize imm.val = imm
    have e : wordOk (w / 16777216) (w / 65536 % 256) (w / 256 % 256) (w % 256) 0 = ofOk w := rfl
    refine ⟨fun h => ?_, fun h => ?_⟩
    · rw [ofOk_imm h, e]; cases hk : ofOk w <;> simp [ofF, hk, ofImm, h]
    · rw [e]; cases hk : ofOk w <;> simp [ofF, hk, ofImm, h]
  · cases hr
def krJumps : List SVal → Nat → Acc ORes := fun a n => match a with | [.int .i64 op] => .ret ({ v := .bool (.sym (isaJumps op.val)) }) | _ => .fail "rJumps"
theorem argrJumps (op : SI) : (all (subL tAtN none' [] deep [.int .i64 op] [.int .i64 (.full op.val)])) = (
  SI.val op = SI.val op) := by kernel_rfl
theorem runrJumps (gl : List (Nat × SVal)) (op : Int) : (Tr.sat (plainQ (.bool (.sym (isaJumps op)))) (run (env gl []) [] (bodyOf Tryd.f23) (start [.int .i64 (.full op)] 9) (ends (env gl []) Tryd.f23.results.toList))) = (
  (decide ((16 : Int) ≤ op) && decide (op ≤ (23 : Int))) = isaJumps op) := by kernel_rfl
set_option maxHeartbeats 4000000 in
theorem crJumps : Con ea has gl 23 krJumps := by
  refine plain_mkB Tryd.func23 9 (con := []) trivial (fun hA hr hv => ?_) (by kernel_rfl) (by kernel_rfl) Tryd.ntmps23
  unfold krJumps at hr; split at hr
  · rename_i op
    have := ret_ok hr; subst this
    refine ⟨_, [], rfl, rfl, .of (argrJumps op) (by simp), rfl, (fun W R ρ0 own0 hown => noSums (by kernel_rfl)), .of (runrJumps gl op.val) ?_⟩
    clear hr
    unfold isaJumps
    rw [Bool.eq_iff_iff]; simp
  · cases hr
def kiJumps : List SVal → Nat → Acc ORes := fun a n => match a with | [.agg [], .int .i64 op] => .ret ({ v := .bool (.sym (isaJumps op.val)) }) | _ => .fail "iJumps"
theorem argiJumps (op : SI) : (all (subL tAtN none' [] deep [.agg [], .int .i64 op] [.agg [], .int .i64 (.full op.val)])) = (
  SI.val op = SI.val op) := by kernel_rfl
theorem runiJumps (gl : List (Nat × SVal)) (op : Int) : (Tr.sat (plainQ (.bool (.sym (isaJumps op)))) (run (env gl []) [] (bodyOf Tryd.f22) (start [.agg [], .int .i64 (.full op)] 15) (ends (env gl []) Tryd.f22.results.toList))) = (
  (decide (op = (16 : Int)) = true → true = isaJumps op) ∧ (decide (op = (16 : Int)) = false → (decide (op = (17 : Int)) = true → true = isaJumps op) ∧ (decide (op = (17 : Int)) = false → (decide (op = (18 : Int)) = true → true = isaJumps op) ∧ (decide (op = (18 : Int)) = false → (decide (op = (19 : Int)) = true → true = isaJumps op) ∧ (decide (op = (19 : Int)) = false → (decide (op = (20 : Int)) = true → true = isaJumps op) ∧ (decide (op = (20 : Int)) = false → (decide (op = (21 : Int)) = true → true = isaJumps op) ∧ (decide (op = (21 : Int)) = false → (decide (op = (22 : Int)) = true → true = isaJumps op) ∧ (decide (op = (22 : Int)) = false → (decide (op = (23 : Int)) = true → true = isaJumps op) ∧ (decide (op = (23 : Int)) = false → false = isaJumps op))))))))) := by kernel_rfl
set_option maxHeartbeats 4000000 in
theorem ciJumps : Con ea has gl 22 kiJumps := by
  refine plain_mkB Tryd.func22 15 (con := []) trivial (fun hA hr hv => ?_) (by kernel_rfl) (by kernel_rfl) Tryd.ntmps22
  unfold kiJumps at hr; split at hr
  · rename_i op
    have := ret_ok hr; subst this
    refine ⟨_, [], rfl, rfl, .of (argiJumps op) (by simp), rfl, (fun W R ρ0 own0 hown => noSums (by kernel_rfl)), .of (runiJumps gl op.val) ?_⟩
    clear hr
    generalize op.val = op
    unfold isaJumps
    simp only [decide_eq_true_eq, decide_eq_false_iff_not]
    repeat (first | (intro h; subst h; decide) | (with_reducible intro _) | (with_reducible refine ⟨?_, fun _ => ?_⟩))
    all_goals (symm; rw [decide_eq_false_iff_not]; omega)
  · cases hr
def kiDisp : List SVal → Nat → Acc ORes := fun a n => match a with | [.int .i64 c] => .ret ({ v := .int .i64 (.sym (dispM c.val) (-128) 127) }) | _ => .fail "iDisp"
theorem argiDisp (c : SI) : (all (subL tAtN none' [] deep [.int .i64 c] [.int .i64 (.full c.val)])) = (
  SI.val c = SI.val c) := by kernel_rfl
theorem runiDisp (gl : List (Nat × SVal)) (c : Int) : (Tr.sat (plainQ (.int .i64 (.sym (dispM c) (-128) 127))) (run (env gl []) [] (bodyOf Tryd.f24) (start [.int .i64 (.full c)] 6) (ends (env gl []) Tryd.f24.results.toList))) = (
  IntKind.wrap IntKind.i8 c = dispM c) := by kernel_rfl
set_option maxHeartbeats 4000000 in
theorem ciDisp : Con ea has gl 24 kiDisp := by
  refine plain_mkB Tryd.func24 6 (con := []) trivial (fun hA hr hv => ?_) (by kernel_rfl) (by kernel_rfl) Tryd.ntmps24
  unfold kiDisp at hr; split at hr
  · rename_i c
    have := ret_ok hr; subst this
    refine ⟨_, [], rfl, rfl, .of (argiDisp c) (by simp), rfl, (fun W R ρ0 own0 hown => noSums (by kernel_rfl)), .of (runiDisp gl c.val) ?_⟩
    clear hr
    rw [wrap_i8_eq]; rfl
  · cases hr
def krDisp : List SVal → Nat → Acc ORes := fun a n => match a with | [.int .i64 c] => .ret ({ v := .int .i64 (.sym (dispM c.val) (-128) 127) }) | _ => .fail "rDisp"
theorem argrDisp (c : SI) : (all (subL tAtN none' [] deep [.int .i64 c] [.int .i64 (.full c.val)])) = (
  SI.val c = SI.val c) := by kernel_rfl
theorem runrDisp (gl : List (Nat × SVal)) (c : Int) : (Tr.sat (plainQ (.int .i64 (.sym (dispM c) (-128) 127))) (run (env gl []) [] (bodyOf Tryd.f25) (start [.int .i64 (.full c)] 10) (ends (env gl []) Tryd.f25.results.toList))) = (
  (decide ((128 : Int) ≤ c % (256 : Int)) = true → c % (256 : Int) - (256 : Int) = dispM c ∧ (-128 : Int) ≤ dispM c ∧ dispM c ≤ (127 : Int)) ∧ (decide ((128 : Int) ≤ c % (256 : Int)) = false → c % (256 : Int) = dispM c ∧ (-128 : Int) ≤ dispM c ∧ dispM c ≤ (127 : Int))) := by kernel_rfl
set_option maxHeartbeats 4000000 in
theorem crDisp : Con ea has gl 25 krDisp := by
  refine plain_mkB Tryd.func25 10 (con := []) trivial (fun hA hr hv => ?_) (by kernel_rfl) (by kernel_rfl) Tryd.ntmps25
  unfold krDisp at hr; split at hr
  · rename_i c
    have := ret_ok hr; subst this
    refine ⟨_, [], rfl, rfl, .of (argrDisp c) (by simp), rfl, (fun W R ρ0 own0 hown => noSums (by kernel_rfl)), .of (runrDisp gl c.val) ?_⟩
    clear hr
    unfold dispM
    simp only [decide_eq_true_eq, decide_eq_false_iff_not]
    omega
  · cases hr
end
end Go.Proofs.YtceebkojjmmjmaaDoor

