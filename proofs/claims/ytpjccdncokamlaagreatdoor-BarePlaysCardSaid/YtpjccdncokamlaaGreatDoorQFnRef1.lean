/- Contracts. -/
import Derived.Test.YtpjccdncokamlaaGreatDoorQFnIsa
set_option maxHeartbeats 4000000
set_option linter.unusedVariables false
set_option linter.unusedSimpArgs false
namespace Go.Proofs.YtpjccdncokamlaaGreatDoor
open Go.RowKit Go.Sy Go.Fac
section
variable {ea : Ear} {has : Int → Prop} {gl : List (Nat × SVal)}
def krTwo : List SVal → Nat → Acc ORes := fun a n => match a with | [.int .i64 op] => .ret ({ v := .bool (.sym (isaTwo op.val)) }) | _ => .fail "rTwo"
theorem argrTwo (op : SI) : (all (subL tAtN none' [] deep [.int .i64 op] [.int .i64 (.full op.val)])) = (
  SI.val op = SI.val op) := by kernel_rfl
theorem runrTwo (gl : List (Nat × SVal)) (op : Int) : (Tr.sat (plainQ (.bool (.sym (isaTwo op)))) (run (env gl []) [] (bodyOf Tryz.f94) (start [.int .i64 (.full op)] 29) (ends (env gl []) Tryz.f94.results.toList))) = (
  (decide (op = (14 : Int)) || decide (op = (15 : Int)) || decide (op = (19 : Int)) || decide (op = (20 : Int)) || decide (op = (21 : Int)) || decide (op = (22 : Int)) || decide (op = (96 : Int))) = isaTwo op) := by kernel_rfl
theorem crTwo : Con ea has gl 94 krTwo := by
  refine plain_mkB Tryz.func94 29 (con := []) trivial (fun hA hr hv => ?_) (by kernel_rfl) (by kernel_rfl) Tryz.ntmps94
  unfold krTwo at hr; split at hr
  · rename_i op
    have := ret_ok hr; subst this
    refine ⟨_, [], rfl, rfl, .of (argrTwo op) (by simp), rfl, (fun W R ρ0 own0 hown => noSums (by kernel_rfl)), .of (runrTwo gl op.val) ?_⟩
    clear hr
    rfl
  · cases hr
def regB (n : Int) (h : Bool) : Bool := decide (n = 0) || h && decide (0 < n) && decide (n < 16)
def kreg : List SVal → Nat → Acc ORes := fun a n => match a with | [.int .i64 n', .bool b] => .ret ({ v := .bool (.sym (regB n'.val b.val)) }) | _ => .fail "reg"
theorem argreg (n' : SI) (b : SB) : (all (subL tAtN none' [] deep [.int .i64 n', .bool b] [.int .i64 (.full n'.val), .bool (.sym b.val)])) = (
  SI.val n' = SI.val n' ∧ SB.val b = SB.val b) := by kernel_rfl
theorem runreg (gl : List (Nat × SVal)) (n' : Int) (b : Bool) : (Tr.sat (plainQ (.bool (.sym (regB n' b)))) (run (env gl []) [] (bodyOf Tryz.f127) (start [.int .i64 (.full n'), .bool (.sym b)] 18) (ends (env gl []) Tryz.f127.results.toList))) = (
  (decide (n' = (0 : Int)) || b && decide ((0 : Int) < n') && decide (n' < (16 : Int))) = regB n' b) := by kernel_rfl
theorem creg : Con ea has gl 127 kreg := by
  refine plain_mkB Tryz.func127 18 (con := []) trivial (fun hA hr hv => ?_) (by kernel_rfl) (by kernel_rfl) Tryz.ntmps127
  unfold kreg at hr; split at hr
  · rename_i n' b
    have := ret_ok hr; subst this
    refine ⟨_, [], rfl, rfl, .of (argreg n' b) (by simp), rfl, (fun W R ρ0 own0 hown => noSums (by kernel_rfl)), .of (runreg gl n'.val b.val) ?_⟩
    clear hr
    rfl
  · cases hr
def kUses : List SVal → Nat → Acc ORes := fun a n => match a with | [.int .i64 op] => .ret ({ v := .tuple [.bool (.sym (uA op.val)), .bool (.sym (uB op.val)), .bool (.sym (uC op.val)), .bool (.sym (uN op.val))] }) | _ => .fail "Uses"
theorem argUses (op : SI) : (all (subL tAtN none' [] deep [.int .i64 op] [.int .i64 (.full op.val)])) = (
  SI.val op = SI.val op) := by kernel_rfl
theorem runUses (gl : List (Nat × SVal)) (op : Int) : (Tr.sat (plainQ (.tuple [.bool (.sym (uA op)), .bool (.sym (uB op)), .bool (.sym (uC op)), .bool (.sym (uN op))])) (run (env gl []) [] (bodyOf Tryz.f126) (start [.int .i64 (.full op)] 40) (ends (env gl []) Tryz.f126.results.toList))) = (
  IT (decide (op = 1)) (false = uA op ∧ false = uB op ∧ false = uC op ∧ false = uN op) (IT (decide (op = 34)) (false = uA op ∧ false = uB op ∧ false = uC op ∧ false = uN op) (IT (decide (op = 42)) (false = uA op ∧ false = uB op ∧ false = uC op ∧ false = uN op) (IT (decide (op = 64)) (false = uA op ∧ false = uB op ∧ false = uC op ∧ false = uN op) (IT (decide (op = 65)) (false = uA op ∧ false = uB op ∧ false = uC op ∧ false = uN op) (IT (decide (op = 19)) (false = uA op ∧ false = uB op ∧ false = uC op ∧ false = uN op) (IT (decide (op = 22)) (false = uA op ∧ false = uB op ∧ false = uC op ∧ false = uN op) (IT (decide (op = 96)) (false = uA op ∧ false = uB op ∧ false = uC op ∧ false = uN op) (IT (decide (op = 2)) (true = uA op ∧ true = uB op ∧ false = uC op ∧ false = uN op) (IT (decide (op = 37)) (true = uA op ∧ true = uB op ∧ false = uC op ∧ false = uN op) (IT (decide (op = 38)) (true = uA op ∧ true = uB op ∧ false = uC op ∧ false = uN op) (IT (decide (op = 41)) (true = uA op ∧ true = uB op ∧ false = uC op ∧ false = uN op) (IT (decide (op = 12)) (true = uA op ∧ true = uB op ∧ true = uC op ∧ true = uN op) (IT (decide (op = 13)) (true = uA op ∧ true = uB op ∧ true = uC op ∧ true = uN op) (IT (decide (op = 16)) (false = uA op ∧ false = uB op ∧ true = uC op ∧ true = uN op) (IT (decide (op = 17)) (true = uA op ∧ false = uB op ∧ true = uC op ∧ true = uN op) (IT (decide (op = 18)) (true = uA op ∧ false = uB op ∧ true = uC op ∧ true = uN op) (IT (decide (op = 3)) (true = uA op ∧ true = uB op ∧ true = uC op ∧ false = uN op) (IT (decide (op = 4)) (true = uA op ∧ true = uB op ∧ true = uC op ∧ false = uN op) (IT (decide (op = 5)) (true = uA op ∧ true = uB op ∧ true = uC op ∧ false = uN op) (IT (decide (op = 6)) (true = uA op ∧ true = uB op ∧ true = uC op ∧ false = uN op) (IT (decide (op = 7)) (true = uA op ∧ true = uB op ∧ true = uC op ∧ false = uN op) (IT (decide (op = 8)) (true = uA op ∧ true = uB op ∧ true = uC op ∧ false = uN op) (IT (decide (op = 9)) (true = uA op ∧ true = uB op ∧ true = uC op ∧ false = uN op) (IT (decide (op = 10)) (true = uA op ∧ true = uB op ∧ true = uC op ∧ false = uN op) (IT (decide (op = 11)) (true = uA op ∧ true = uB op ∧ true = uC op ∧ false = uN op) (IT (decide (op = 24)) (true = uA op ∧ true = uB op ∧ true = uC op ∧ false = uN op) (true = uA op ∧ false = uB op ∧ false = uC op ∧ false = uN op)))))))))))))))))))))))))))) := by kernel_rfl
theorem cUses : Con ea has gl 126 kUses := by
  refine plain_mkB Tryz.func126 40 (con := []) trivial (fun hA hr hv => ?_) (by kernel_rfl) (by kernel_rfl) Tryz.ntmps126
  unfold kUses at hr; split at hr
  · rename_i op
    have := ret_ok hr; subst this
    refine ⟨_, [], rfl, rfl, .of (argUses op) (by simp), rfl, (fun W R ρ0 own0 hown => noSums (by kernel_rfl)), .of (runUses gl op.val) ?_⟩
    delta IT
    clear hr
    generalize op.val = op
    simp only [decide_eq_true_eq, decide_eq_false_iff_not]
    repeat (first | (intro h; subst h; decide) | (with_reducible intro _) | (with_reducible refine ⟨?_, fun _ => ?_⟩))
    all_goals (refine ⟨?_, ?_, ?_, ?_⟩ <;> simp [uA, uB, uC, uN, *] <;> omega)
  · cases hr
theorem uN_uC {op : Int} (h : uN op = true) : uC op = true := by
  simp only [uN, uC, Bool.or_eq_true, beq_iff_eq] at h ⊢
  omega
theorem ref_ok (op a b c imm : Int) : (uN op = true → (!decide (isaClass op = 0) && regB a (uA op) && regB b (uB op) && (isaTwo op || decide (imm = 0)) && decide (0 ≤ c) && decide (c ≤ 255)) = wordOk op a b c imm) ∧
    (uN op = false → (!decide (isaClass op = 0) && regB a (uA op) && regB b (uB op) && (isaTwo op || decide (imm = 0)) && regB c (uC op)) = wordOk op a b c imm) := by
  cases hc : (isaClass op == 0) with
  | true =>
    have : isaClass op = 0 := by simpa using hc
    simp [wordOk, this]
  | false =>
    have hne : ¬ isaClass op = 0 := by simpa using hc
    unfold wordOk
    rw [fitsA_ok hc, fitsB_ok hc, fitsC_ok hc, hc]
    refine ⟨fun h => ?_, fun h => ?_⟩
    · have hC := uN_uC h
      rw [Bool.eq_iff_iff]
      unfold okA okB Fac.okC regB
      rw [h, hC]
      cases uA op <;> cases uB op <;> cases isaTwo op <;> simp [hne] <;> omega
    · rw [Bool.eq_iff_iff]
      unfold okA okB Fac.okC regB
      rw [h]
      cases uA op <;> cases uB op <;> cases uC op <;> cases isaTwo op <;> simp [hne] <;> omega
def krWord : List SVal → Nat → Acc ORes := fun a n => match a with | [.agg [.int .i64 op, .int .i64 a, .int .i64 b, .int .i64 c, .int .u32 imm]] => .ret ({ v := .tuple [.int .u32 (.full (wordW op.val a.val b.val c.val imm.val)), .bool (.sym (wordOk op.val a.val b.val c.val imm.val))] }) | _ => .fail "rWord"
theorem argrWord (op a b c imm : SI) : (all (subL tAtN none' [] deep [.agg [.int .i64 op, .int .i64 a, .int .i64 b, .int .i64 c, .int .u32 imm]] [.agg [.int .i64 (.full op.val), .int .i64 (.full a.val), .int .i64 (.full b.val), .int .i64 (.full c.val), .int .u32 (.full imm.val)]])) = (
  SI.val op = SI.val op ∧ SI.val a = SI.val a ∧ SI.val b = SI.val b ∧ SI.val c = SI.val c ∧ SI.val imm = SI.val imm) := by kernel_rfl
theorem runrWord (gl : List (Nat × SVal)) (op : Int) (a : Int) (b : Int) (c : Int) (imm : Int) : (Tr.sat (plainQ (.tuple [.int .u32 (.full (wordW op a b c imm)), .bool (.sym (wordOk op a b c imm))])) (run (env gl [(126, kUses), (75, krClass), (127, kreg), (94, krTwo)]) [] (bodyOf Tryz.f111) (start [.agg [.int .i64 (.full op), .int .i64 (.full a), .int .i64 (.full b), .int .i64 (.full c), .int .u32 (.full imm)]] 82) (ends (env gl [(126, kUses), (75, krClass), (127, kreg), (94, krTwo)]) Tryz.f111.results.toList))) = (
  IT (uN op) (IT (!(!decide (isaClass op = 0) && regB a (uA op) && regB b (uB op) && (isaTwo op || decide (imm = 0)) && decide (0 ≤ c) && decide (c ≤ 255))) ((0 : Int) = wordW op a b c imm ∧ false = wordOk op a b c imm) (bits BinOp.or IntKind.u32 (bits BinOp.or IntKind.u32 (bits BinOp.or IntKind.u32 (IntKind.wrap IntKind.u32 (IntKind.wrap IntKind.u32 op * 16777216)) (IntKind.wrap IntKind.u32 (IntKind.wrap IntKind.u32 a * 65536))) (IntKind.wrap IntKind.u32 (IntKind.wrap IntKind.u32 b * 256))) (IntKind.wrap IntKind.u32 c) = wordW op a b c imm ∧ true = wordOk op a b c imm)) (IT (!(!decide (isaClass op = 0) && regB a (uA op) && regB b (uB op) && (isaTwo op || decide (imm = 0)) && regB c (uC op))) ((0 : Int) = wordW op a b c imm ∧ false = wordOk op a b c imm) (bits BinOp.or IntKind.u32 (bits BinOp.or IntKind.u32 (bits BinOp.or IntKind.u32 (IntKind.wrap IntKind.u32 (IntKind.wrap IntKind.u32 op * 16777216)) (IntKind.wrap IntKind.u32 (IntKind.wrap IntKind.u32 a * 65536))) (IntKind.wrap IntKind.u32 (IntKind.wrap IntKind.u32 b * 256))) (IntKind.wrap IntKind.u32 c) = wordW op a b c imm ∧ true = wordOk op a b c imm))) := by kernel_rfl
theorem crWord : Con ea has gl 111 krWord := by
  refine plain_mkB Tryz.func111 82 (con := [(126, kUses), (75, krClass), (127, kreg), (94, krTwo)]) ⟨cUses, crClass, creg, crTwo, trivial⟩ (fun hA hr hv => ?_) (by kernel_rfl) (by kernel_rfl) Tryz.ntmps111
  unfold krWord at hr; split at hr
  · rename_i op a b c imm
    have := ret_ok hr; subst this
    refine ⟨_, [], rfl, rfl, .of (argrWord op a b c imm) (by simp), rfl, (fun W R ρ0 own0 hown => noSums (by kernel_rfl)), .of (runrWord gl op.val a.val b.val c.val imm.val) ?_⟩
    delta IT
    clear hr
    clear hA hv
    generalize op.val = op
    generalize a.val = a
    generalize b.val = b
    generalize c.val = c
    generalize imm.val = imm
    have h1 := (ref_ok op a b c imm).1
    have h2 := (ref_ok op a b c imm).2
    have fin : ((!wordOk op a b c imm) = true → 0 = wordW op a b c imm ∧ false = wordOk op a b c imm) ∧ ((!wordOk op a b c imm) = false →
        bits BinOp.or IntKind.u32 (bits BinOp.or IntKind.u32 (bits BinOp.or IntKind.u32 (IntKind.u32.wrap (IntKind.u32.wrap op * 16777216)) (IntKind.u32.wrap (IntKind.u32.wrap a * 65536))) (IntKind.u32.wrap (IntKind.u32.wrap b * 256))) (IntKind.u32.wrap c) = wordW op a b c imm ∧ true = wordOk op a b c imm) := by
      refine ⟨fun h => ?_, fun h => ?_⟩
      · have h : wordOk op a b c imm = false := by simpa using h
        rw [wordW, h]; exact ⟨rfl, rfl⟩
      · have h : wordOk op a b c imm = true := by simpa using h
        refine ⟨?_, h.symm⟩
        rw [wordW, if_pos h]
        unfold wordOk at h
        simp only [Bool.and_eq_true, Bool.not_eq_true'] at h
        obtain ⟨⟨⟨⟨g1, g2⟩, g3⟩, g4⟩, _⟩ := h
        have := class_in g1
        simp only [IntKind.wrap_u32]
        exact word_bits (by omega) (fits_in g2) (fits_in g3) (fits_in g4)
    refine ⟨fun h => ?_, fun h => ?_⟩
    · rw [h1 h]; exact fin
    · rw [h2 h]; exact fin
  · cases hr
def krOf : List SVal → Nat → Acc ORes := fun a n => match a with | [.int .u32 w, .int .u32 imm] => .ret ({ v := .tuple [.agg (ofF w.val imm.val).enc, .bool (.sym (ofOk w.val))] }) | _ => .fail "rOf"
theorem argrOf (w imm : SI) : (all (subL tAtN none' [] deep [.int .u32 w, .int .u32 imm] [.int .u32 (.full w.val), .int .u32 (.full imm.val)])) = (
  SI.val w = SI.val w ∧ SI.val imm = SI.val imm) := by kernel_rfl
theorem runrOf (gl : List (Nat × SVal)) (w : Int) (imm : Int) : (Tr.sat (plainQ (.tuple [.agg (ofF w imm).enc, .bool (.sym (ofOk w))])) (run (env gl [(94, krTwo), (111, krWord)]) [] (bodyOf Tryz.f93) (start [.int .u32 (.full w), .int .u32 (.full imm)] 38) (ends (env gl [(94, krTwo), (111, krWord)]) Tryz.f93.results.toList))) = (
  IT (isaTwo (w / 16777216)) (IT (!wordOk (w / 16777216) (w / 65536 % (256 : Int)) (w / 256 % (256 : Int)) (w % 256) imm) ((0 : Int) = (ofF w imm).op ∧ (0 : Int) = (ofF w imm).a ∧ (0 : Int) = (ofF w imm).b ∧ (0 : Int) = (ofF w imm).c ∧ (0 : Int) = (ofF w imm).imm ∧ false = ofOk w) (w / 16777216 = (ofF w imm).op ∧ w / 65536 % (256 : Int) = (ofF w imm).a ∧ w / 256 % (256 : Int) = (ofF w imm).b ∧ w % 256 = (ofF w imm).c ∧ imm = (ofF w imm).imm ∧ true = ofOk w)) (IT (!wordOk (w / 16777216) (w / 65536 % (256 : Int)) (w / 256 % (256 : Int)) (w % 256) (0 : Int)) ((0 : Int) = (ofF w imm).op ∧ (0 : Int) = (ofF w imm).a ∧ (0 : Int) = (ofF w imm).b ∧ (0 : Int) = (ofF w imm).c ∧ (0 : Int) = (ofF w imm).imm ∧ false = ofOk w) (w / 16777216 = (ofF w imm).op ∧ w / 65536 % (256 : Int) = (ofF w imm).a ∧ w / 256 % (256 : Int) = (ofF w imm).b ∧ w % 256 = (ofF w imm).c ∧ (0 : Int) = (ofF w imm).imm ∧ true = ofOk w))) := by kernel_rfl
theorem crOf : Con ea has gl 93 krOf := by
  refine plain_mkB Tryz.func93 38 (con := [(94, krTwo), (111, krWord)]) ⟨crTwo, crWord, trivial⟩ (fun hA hr hv => ?_) (by kernel_rfl) (by kernel_rfl) Tryz.ntmps93
  unfold krOf at hr; split at hr
  · rename_i w imm
    have := ret_ok hr; subst this
    refine ⟨_, [], rfl, rfl, .of (argrOf w imm) (by simp), rfl, (fun W R ρ0 own0 hown => noSums (by kernel_rfl)), .of (runrOf gl w.val imm.val) ?_⟩
    delta IT
    clear hr
    clear hA hv
    generalize w.val = w
    generalize imm.val = imm
    have e : wordOk (w / 16777216) (w / 65536 % 256) (w / 256 % 256) (w % 256) 0 = ofOk w := rfl
    refine ⟨fun h => ?_, fun h => ?_⟩
    · rw [ofOk_imm h, e]; cases hk : ofOk w <;> simp [ofF, hk, ofImm, h]
    · rw [e]; cases hk : ofOk w <;> simp [ofF, hk, ofImm, h]
  · cases hr
def krJumps : List SVal → Nat → Acc ORes := fun a n => match a with | [.int .i64 op] => .ret ({ v := .bool (.sym (isaJumps op.val)) }) | _ => .fail "rJumps"
theorem argrJumps (op : SI) : (all (subL tAtN none' [] deep [.int .i64 op] [.int .i64 (.full op.val)])) = (
  SI.val op = SI.val op) := by kernel_rfl
theorem runrJumps (gl : List (Nat × SVal)) (op : Int) : (Tr.sat (plainQ (.bool (.sym (isaJumps op)))) (run (env gl []) [] (bodyOf Tryz.f112) (start [.int .i64 (.full op)] 9) (ends (env gl []) Tryz.f112.results.toList))) = (
  (decide ((16 : Int) ≤ op) && decide (op ≤ (23 : Int))) = isaJumps op) := by kernel_rfl
theorem crJumps : Con ea has gl 112 krJumps := by
  refine plain_mkB Tryz.func112 9 (con := []) trivial (fun hA hr hv => ?_) (by kernel_rfl) (by kernel_rfl) Tryz.ntmps112
  unfold krJumps at hr; split at hr
  · rename_i op
    have := ret_ok hr; subst this
    refine ⟨_, [], rfl, rfl, .of (argrJumps op) (by simp), rfl, (fun W R ρ0 own0 hown => noSums (by kernel_rfl)), .of (runrJumps gl op.val) ?_⟩
    clear hr
    unfold isaJumps
    rw [Bool.eq_iff_iff]; simp
  · cases hr
def kiJumps : List SVal → Nat → Acc ORes := fun a n => match a with | [.agg [], .int .i64 op] => .ret ({ v := .bool (.sym (isaJumps op.val)) }) | _ => .fail "iJumps"
theorem argiJumps (op : SI) : (all (subL tAtN none' [] deep [.agg [], .int .i64 op] [.agg [], .int .i64 (.full op.val)])) = (
  SI.val op = SI.val op) := by kernel_rfl
theorem runiJumps (gl : List (Nat × SVal)) (op : Int) : (Tr.sat (plainQ (.bool (.sym (isaJumps op)))) (run (env gl []) [] (bodyOf Tryz.f117) (start [.agg [], .int .i64 (.full op)] 15) (ends (env gl []) Tryz.f117.results.toList))) = (
  IT (decide (op = 16)) (true = isaJumps op) (IT (decide (op = 17)) (true = isaJumps op) (IT (decide (op = 18)) (true = isaJumps op) (IT (decide (op = 19)) (true = isaJumps op) (IT (decide (op = 20)) (true = isaJumps op) (IT (decide (op = 21)) (true = isaJumps op) (IT (decide (op = 22)) (true = isaJumps op) (IT (decide (op = 23)) (true = isaJumps op) (false = isaJumps op))))))))) := by kernel_rfl
theorem ciJumps : Con ea has gl 117 kiJumps := by
  refine plain_mkB Tryz.func117 15 (con := []) trivial (fun hA hr hv => ?_) (by kernel_rfl) (by kernel_rfl) Tryz.ntmps117
  unfold kiJumps at hr; split at hr
  · rename_i op
    have := ret_ok hr; subst this
    refine ⟨_, [], rfl, rfl, .of (argiJumps op) (by simp), rfl, (fun W R ρ0 own0 hown => noSums (by kernel_rfl)), .of (runiJumps gl op.val) ?_⟩
    delta IT
    clear hr
    generalize op.val = op
    unfold isaJumps
    simp only [decide_eq_true_eq, decide_eq_false_iff_not]
    repeat (first | (intro h; subst h; decide) | (with_reducible intro _) | (with_reducible refine ⟨?_, fun _ => ?_⟩))
    all_goals (symm; rw [decide_eq_false_iff_not]; omega)
  · cases hr
def kiDisp : List SVal → Nat → Acc ORes := fun a n => match a with | [.int .i64 c] => .ret ({ v := .int .i64 (.sym (dispM c.val) (-128) 127) }) | _ => .fail "iDisp"
theorem argiDisp (c : SI) : (all (subL tAtN none' [] deep [.int .i64 c] [.int .i64 (.full c.val)])) = (
  SI.val c = SI.val c) := by kernel_rfl
theorem runiDisp (gl : List (Nat × SVal)) (c : Int) : (Tr.sat (plainQ (.int .i64 (.sym (dispM c) (-128) 127))) (run (env gl []) [] (bodyOf Tryz.f118) (start [.int .i64 (.full c)] 6) (ends (env gl []) Tryz.f118.results.toList))) = (
  IntKind.wrap IntKind.i8 c = dispM c) := by kernel_rfl
theorem ciDisp : Con ea has gl 118 kiDisp := by
  refine plain_mkB Tryz.func118 6 (con := []) trivial (fun hA hr hv => ?_) (by kernel_rfl) (by kernel_rfl) Tryz.ntmps118
  unfold kiDisp at hr; split at hr
  · rename_i c
    have := ret_ok hr; subst this
    refine ⟨_, [], rfl, rfl, .of (argiDisp c) (by simp), rfl, (fun W R ρ0 own0 hown => noSums (by kernel_rfl)), .of (runiDisp gl c.val) ?_⟩
    clear hr
    rw [wrap_i8_eq]; rfl
  · cases hr
def krDisp : List SVal → Nat → Acc ORes := fun a n => match a with | [.int .i64 c] => .ret ({ v := .int .i64 (.sym (dispM c.val) (-128) 127) }) | _ => .fail "rDisp"
theorem argrDisp (c : SI) : (all (subL tAtN none' [] deep [.int .i64 c] [.int .i64 (.full c.val)])) = (
  SI.val c = SI.val c) := by kernel_rfl
theorem runrDisp (gl : List (Nat × SVal)) (c : Int) : (Tr.sat (plainQ (.int .i64 (.sym (dispM c) (-128) 127))) (run (env gl []) [] (bodyOf Tryz.f80) (start [.int .i64 (.full c)] 10) (ends (env gl []) Tryz.f80.results.toList))) = (
  IT (decide ((128 : Int) ≤ c % 256)) (c % 256 - (256 : Int) = dispM c ∧ (-128 : Int) ≤ dispM c ∧ dispM c ≤ 127) (c % 256 = dispM c ∧ (-128 : Int) ≤ dispM c ∧ dispM c ≤ 127)) := by kernel_rfl
theorem crDisp : Con ea has gl 80 krDisp := by
  refine plain_mkB Tryz.func80 10 (con := []) trivial (fun hA hr hv => ?_) (by kernel_rfl) (by kernel_rfl) Tryz.ntmps80
  unfold krDisp at hr; split at hr
  · rename_i c
    have := ret_ok hr; subst this
    refine ⟨_, [], rfl, rfl, .of (argrDisp c) (by simp), rfl, (fun W R ρ0 own0 hown => noSums (by kernel_rfl)), .of (runrDisp gl c.val) ?_⟩
    delta IT
    clear hr
    unfold dispM
    simp only [decide_eq_true_eq, decide_eq_false_iff_not]
    omega
  · cases hr
def krone : List SVal → Nat → Acc ORes := fun a n => match a with | [.bool b] => .ret ({ v := .int .u32 (.sym (if b.val = true then 1 else 0) 0 1) }) | _ => .fail "rone"
theorem argrone (b : SB) : (all (subL tAtN none' [] deep [.bool b] [.bool (.sym b.val)])) = (
  SB.val b = SB.val b) := by kernel_rfl
theorem runrone (gl : List (Nat × SVal)) (b : Bool) : (Tr.sat (plainQ (.int .u32 (.sym (if b = true then 1 else 0) 0 1))) (run (env gl []) [] (bodyOf Tryz.f87) (start [.bool (.sym b)] 4) (ends (env gl []) Tryz.f87.results.toList))) = (
  IT b ((1 : Int) = if b = true then (1 : Int) else (0 : Int)) ((0 : Int) = if b = true then (1 : Int) else (0 : Int))) := by kernel_rfl
theorem crone : Con ea has gl 87 krone := by
  refine plain_mkB Tryz.func87 4 (con := []) trivial (fun hA hr hv => ?_) (by kernel_rfl) (by kernel_rfl) Tryz.ntmps87
  unfold krone at hr; split at hr
  · rename_i b
    have := ret_ok hr; subst this
    refine ⟨_, [], rfl, rfl, .of (argrone b) (by simp), rfl, (fun W R ρ0 own0 hown => noSums (by kernel_rfl)), .of (runrone gl b.val) ?_⟩
    delta IT
    clear hr
    cases b.val <;> simp
  · cases hr
end
end Go.Proofs.YtpjccdncokamlaaGreatDoor

