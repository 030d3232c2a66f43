/- Contracts that the proofs use. -/
import Derived.Test.YtpjccdncokamlaaDoorQFnMk
import Derived.Test.YtpjccdncokamlaaDoorQMemM
set_option linter.unusedVariables false
set_option linter.unusedSimpArgs false
namespace Go.Proofs.YtpjccdncokamlaaDoor
open Go.RowKit Go.Sy Go.Fac
section
variable {ea : Ear} {has : Int → Prop} {gl : List (Nat × SVal)}
def kTables : List SVal → Nat → Acc ORes := fun a n => match a with | [] => .ret ({ v := .agg [] }) | _ => .fail "Tables"
theorem argTables  : (all (subL tAtN none' [] deep [] [])) = (
  True) := by kernel_rfl
theorem runTables (gl : List (Nat × SVal)) : (Tr.sat (plainQ (.agg [])) (run (env gl []) [] (bodyOf Tryd.f51) (start [] 2) (ends (env gl []) Tryd.f51.results.toList))) = (
  True) := by kernel_rfl
set_option maxHeartbeats 4000000 in
theorem cTables : Con ea has gl 51 kTables := by
  refine plain_mkB Tryd.func51 2 (con := []) trivial (fun hA hr hv => ?_) (by kernel_rfl) (by kernel_rfl) Tryd.ntmps51
  unfold kTables at hr; split at hr
  · skip
    have := ret_ok hr; subst this
    refine ⟨_, [], rfl, rfl, .of (argTables ) (by simp), rfl, (fun W R ρ0 own0 hown => noSums (by kernel_rfl)), .of (runTables gl ) ?_⟩
    clear hr
    trivial
  · cases hr
def kClass : List SVal → Nat → Acc ORes := fun a n => match a with | [.agg [], .int .i64 op] => .ret ({ v := .int .i64 (.sym (isaClass op.val) 0 4) }) | _ => .fail "Class"
theorem argClass (op : SI) : (all (subL tAtN none' [] deep [.agg [], .int .i64 op] [.agg [], .int .i64 (.full op.val)])) = (
  SI.val op = SI.val op) := by kernel_rfl
theorem runClass (gl : List (Nat × SVal)) (op : Int) : (Tr.sat (plainQ (.int .i64 (.sym (isaClass op) 0 4))) (run (env gl []) [] (bodyOf Tryd.f52) (start [.agg [], .int .i64 (.full op)] 29) (ends (env gl []) Tryd.f52.results.toList))) = (
  ((decide ((1 : Int) ≤ op) && decide (op ≤ (24 : Int))) = true → (1 : Int) = isaClass op) ∧ ((decide ((1 : Int) ≤ op) && decide (op ≤ (24 : Int))) = false → ((decide ((32 : Int) ≤ op) && decide (op ≤ (44 : Int))) = true → (2 : Int) = isaClass op) ∧ ((decide ((32 : Int) ≤ op) && decide (op ≤ (44 : Int))) = false → ((decide ((64 : Int) ≤ op) && decide (op ≤ (67 : Int))) = true → (3 : Int) = isaClass op) ∧ ((decide ((64 : Int) ≤ op) && decide (op ≤ (67 : Int))) = false → (decide (op = (96 : Int)) = true → (4 : Int) = isaClass op) ∧ (decide (op = (96 : Int)) = false → (0 : Int) = isaClass op))))) := by kernel_rfl
set_option maxHeartbeats 4000000 in
theorem cClass : Con ea has gl 52 kClass := by
  refine plain_mkB Tryd.func52 29 (con := []) trivial (fun hA hr hv => ?_) (by kernel_rfl) (by kernel_rfl) Tryd.ntmps52
  unfold kClass at hr; split at hr
  · rename_i op
    have := ret_ok hr; subst this
    refine ⟨_, [], rfl, rfl, .of (argClass op) (by simp), rfl, (fun W R ρ0 own0 hown => noSums (by kernel_rfl)), .of (runClass gl op.val) ?_⟩
    clear hr
    generalize op.val = op
    simp only [isaClass, Bool.and_eq_true, decide_eq_true_eq, Bool.and_eq_false_imp, decide_eq_false_iff_not]
    repeat (first | omega | split | intro _ | refine ⟨?_, ?_⟩)
  · cases hr
def kTwo : List SVal → Nat → Acc ORes := fun a n => match a with | [.agg [], .int .i64 op] => .ret ({ v := .bool (.sym (isaTwo op.val)) }) | _ => .fail "Two"
theorem argTwo (op : SI) : (all (subL tAtN none' [] deep [.agg [], .int .i64 op] [.agg [], .int .i64 (.full op.val)])) = (
  SI.val op = SI.val op) := by kernel_rfl
theorem runTwo (gl : List (Nat × SVal)) (op : Int) : (Tr.sat (plainQ (.bool (.sym (isaTwo op)))) (run (env gl []) [] (bodyOf Tryd.f60) (start [.agg [], .int .i64 (.full op)] 14) (ends (env gl []) Tryd.f60.results.toList))) = (
  (decide (op = (14 : Int)) = true → true = isaTwo op) ∧ (decide (op = (14 : Int)) = false → (decide (op = (15 : Int)) = true → true = isaTwo op) ∧ (decide (op = (15 : Int)) = false → (decide (op = (19 : Int)) = true → true = isaTwo op) ∧ (decide (op = (19 : Int)) = false → (decide (op = (20 : Int)) = true → true = isaTwo op) ∧ (decide (op = (20 : Int)) = false → (decide (op = (21 : Int)) = true → true = isaTwo op) ∧ (decide (op = (21 : Int)) = false → (decide (op = (22 : Int)) = true → true = isaTwo op) ∧ (decide (op = (22 : Int)) = false → (decide (op = (96 : Int)) = true → true = isaTwo op) ∧ (decide (op = (96 : Int)) = false → false = isaTwo op)))))))) := by kernel_rfl
set_option maxHeartbeats 4000000 in
theorem cTwo : Con ea has gl 60 kTwo := by
  refine plain_mkB Tryd.func60 14 (con := []) trivial (fun hA hr hv => ?_) (by kernel_rfl) (by kernel_rfl) Tryd.ntmps60
  unfold kTwo at hr; split at hr
  · rename_i op
    have := ret_ok hr; subst this
    refine ⟨_, [], rfl, rfl, .of (argTwo op) (by simp), rfl, (fun W R ρ0 own0 hown => noSums (by kernel_rfl)), .of (runTwo gl op.val) ?_⟩
    clear hr
    generalize op.val = op
    simp only [decide_eq_true_eq, decide_eq_false_iff_not]
    repeat (first | (intro h; subst h; rfl) | intro _ | refine ⟨?_, ?_⟩ | (simp [isaTwo, *]; done))
  · cases hr
def koperands : List SVal → Nat → Acc ORes := fun a n => match a with | [.int .i64 op] => .ret ({ v := .tuple [.int .i64 (.sym (kA op.val) 0 2), .int .i64 (.sym (kB op.val) 0 2), .int .i64 (.sym (kC op.val) 0 2)] }) | _ => .fail "operands"
theorem argoperands (op : SI) : (all (subL tAtN none' [] deep [.int .i64 op] [.int .i64 (.full op.val)])) = (
  SI.val op = SI.val op) := by kernel_rfl
theorem runoperands (gl : List (Nat × SVal)) (op : Int) : (Tr.sat (plainQ (.tuple [.int .i64 (.sym (kA op) 0 2), .int .i64 (.sym (kB op) 0 2), .int .i64 (.sym (kC op) 0 2)])) (run (env gl []) [] (bodyOf Tryd.f81) (start [.int .i64 (.full op)] 46) (ends (env gl []) Tryd.f81.results.toList))) = (
  (decide (op = (14 : Int)) = true → (1 : Int) = kA op ∧ (0 : Int) = kB op ∧ (0 : Int) = kC op) ∧ (decide (op = (14 : Int)) = false → (decide (op = (15 : Int)) = true → (1 : Int) = kA op ∧ (0 : Int) = kB op ∧ (0 : Int) = kC op) ∧ (decide (op = (15 : Int)) = false → (decide (op = (20 : Int)) = true → (1 : Int) = kA op ∧ (0 : Int) = kB op ∧ (0 : Int) = kC op) ∧ (decide (op = (20 : Int)) = false → (decide (op = (21 : Int)) = true → (1 : Int) = kA op ∧ (0 : Int) = kB op ∧ (0 : Int) = kC op) ∧ (decide (op = (21 : Int)) = false → (decide (op = (23 : Int)) = true → (1 : Int) = kA op ∧ (0 : Int) = kB op ∧ (0 : Int) = kC op) ∧ (decide (op = (23 : Int)) = false → (decide (op = (32 : Int)) = true → (1 : Int) = kA op ∧ (0 : Int) = kB op ∧ (0 : Int) = kC op) ∧ (decide (op = (32 : Int)) = false → (decide (op = (33 : Int)) = true → (1 : Int) = kA op ∧ (0 : Int) = kB op ∧ (0 : Int) = kC op) ∧ (decide (op = (33 : Int)) = false → (decide (op = (35 : Int)) = true → (1 : Int) = kA op ∧ (0 : Int) = kB op ∧ (0 : Int) = kC op) ∧ (decide (op = (35 : Int)) = false → (decide (op = (36 : Int)) = true → (1 : Int) = kA op ∧ (0 : Int) = kB op ∧ (0 : Int) = kC op) ∧ (decide (op = (36 : Int)) = false → (decide (op = (39 : Int)) = true → (1 : Int) = kA op ∧ (0 : Int) = kB op ∧ (0 : Int) = kC op) ∧ (decide (op = (39 : Int)) = false → (decide (op = (40 : Int)) = true → (1 : Int) = kA op ∧ (0 : Int) = kB op ∧ (0 : Int) = kC op) ∧ (decide (op = (40 : Int)) = false → (decide (op = (43 : Int)) = true → (1 : Int) = kA op ∧ (0 : Int) = kB op ∧ (0 : Int) = kC op) ∧ (decide (op = (43 : Int)) = false → (decide (op = (44 : Int)) = true → (1 : Int) = kA op ∧ (0 : Int) = kB op ∧ (0 : Int) = kC op) ∧ (decide (op = (44 : Int)) = false → (decide (op = (66 : Int)) = true → (1 : Int) = kA op ∧ (0 : Int) = kB op ∧ (0 : Int) = kC op) ∧ (decide (op = (66 : Int)) = false → (decide (op = (67 : Int)) = true → (1 : Int) = kA op ∧ (0 : Int) = kB op ∧ (0 : Int) = kC op) ∧ (decide (op = (67 : Int)) = false → (decide (op = (2 : Int)) = true → (1 : Int) = kA op ∧ (1 : Int) = kB op ∧ (0 : Int) = kC op) ∧ (decide (op = (2 : Int)) = false → (decide (op = (37 : Int)) = true → (1 : Int) = kA op ∧ (1 : Int) = kB op ∧ (0 : Int) = kC op) ∧ (decide (op = (37 : Int)) = false → (decide (op = (38 : Int)) = true → (1 : Int) = kA op ∧ (1 : Int) = kB op ∧ (0 : Int) = kC op) ∧ (decide (op = (38 : Int)) = false → (decide (op = (41 : Int)) = true → (1 : Int) = kA op ∧ (1 : Int) = kB op ∧ (0 : Int) = kC op) ∧ (decide (op = (41 : Int)) = false → (decide (op = (3 : Int)) = true → (1 : Int) = kA op ∧ (1 : Int) = kB op ∧ (1 : Int) = kC op) ∧ (decide (op = (3 : Int)) = false → (decide (op = (4 : Int)) = true → (1 : Int) = kA op ∧ (1 : Int) = kB op ∧ (1 : Int) = kC op) ∧ (decide (op = (4 : Int)) = false → (decide (op = (5 : Int)) = true → (1 : Int) = kA op ∧ (1 : Int) = kB op ∧ (1 : Int) = kC op) ∧ (decide (op = (5 : Int)) = false → (decide (op = (6 : Int)) = true → (1 : Int) = kA op ∧ (1 : Int) = kB op ∧ (1 : Int) = kC op) ∧ (decide (op = (6 : Int)) = false → (decide (op = (7 : Int)) = true → (1 : Int) = kA op ∧ (1 : Int) = kB op ∧ (1 : Int) = kC op) ∧ (decide (op = (7 : Int)) = false → (decide (op = (8 : Int)) = true → (1 : Int) = kA op ∧ (1 : Int) = kB op ∧ (1 : Int) = kC op) ∧ (decide (op = (8 : Int)) = false → (decide (op = (9 : Int)) = true → (1 : Int) = kA op ∧ (1 : Int) = kB op ∧ (1 : Int) = kC op) ∧ (decide (op = (9 : Int)) = false → (decide (op = (10 : Int)) = true → (1 : Int) = kA op ∧ (1 : Int) = kB op ∧ (1 : Int) = kC op) ∧ (decide (op = (10 : Int)) = false → (decide (op = (11 : Int)) = true → (1 : Int) = kA op ∧ (1 : Int) = kB op ∧ (1 : Int) = kC op) ∧ (decide (op = (11 : Int)) = false → (decide (op = (24 : Int)) = true → (1 : Int) = kA op ∧ (1 : Int) = kB op ∧ (1 : Int) = kC op) ∧ (decide (op = (24 : Int)) = false → (decide (op = (12 : Int)) = true → (1 : Int) = kA op ∧ (1 : Int) = kB op ∧ (2 : Int) = kC op) ∧ (decide (op = (12 : Int)) = false → (decide (op = (13 : Int)) = true → (1 : Int) = kA op ∧ (1 : Int) = kB op ∧ (2 : Int) = kC op) ∧ (decide (op = (13 : Int)) = false → (decide (op = (16 : Int)) = true → (0 : Int) = kA op ∧ (0 : Int) = kB op ∧ (2 : Int) = kC op) ∧ (decide (op = (16 : Int)) = false → (decide (op = (17 : Int)) = true → (1 : Int) = kA op ∧ (0 : Int) = kB op ∧ (2 : Int) = kC op) ∧ (decide (op = (17 : Int)) = false → (decide (op = (18 : Int)) = true → (1 : Int) = kA op ∧ (0 : Int) = kB op ∧ (2 : Int) = kC op) ∧ (decide (op = (18 : Int)) = false → (0 : Int) = kA op ∧ (0 : Int) = kB op ∧ (0 : Int) = kC op))))))))))))))))))))))))))))))))))) := by kernel_rfl
set_option maxHeartbeats 4000000 in
theorem coperands : Con ea has gl 81 koperands := by
  refine plain_mkB Tryd.func81 46 (con := []) trivial (fun hA hr hv => ?_) (by kernel_rfl) (by kernel_rfl) Tryd.ntmps81
  unfold koperands at hr; split at hr
  · rename_i op
    have := ret_ok hr; subst this
    refine ⟨_, [], rfl, rfl, .of (argoperands op) (by simp), rfl, (fun W R ρ0 own0 hown => noSums (by kernel_rfl)), .of (runoperands gl op.val) ?_⟩
    clear hr
    generalize op.val = op
    simp only [decide_eq_true_eq, decide_eq_false_iff_not]
    repeat (first | (intro h; subst h; decide) | (with_reducible intro _) | (with_reducible refine ⟨fun _ => ?_, fun _ => ?_⟩) | (refine ⟨?_, ?_, ?_⟩ <;> (first | (unfold kA; repeat (split; try omega); try omega) |  (unfold kB; repeat (split; try omega); try omega) | (unfold kC; repeat (split; try omega); try omega))))
  · cases hr
def kfits : List SVal → Nat → Acc ORes := fun a n => match a with | [.int .i64 x, .int .i64 k] => .ret ({ v := .bool (.sym (fitsM x.val k.val)), vc := some (0 ≤ k.val ∧ k.val ≤ 2) }) | _ => .fail "fits"
theorem argfits (x k : SI) : (all (subL tAtN none' [] deep [.int .i64 x, .int .i64 k] [.int .i64 (.full x.val), .int .i64 (.full k.val)])) = (
  SI.val x = SI.val x ∧ SI.val k = SI.val k) := by kernel_rfl
theorem runfits (gl : List (Nat × SVal)) (x : Int) (k : Int) : (Tr.sat (plainQ (.bool (.sym (fitsM x k)))) (run (env gl []) [] (bodyOf Tryd.f82) (start [.int .i64 (.full x), .int .i64 (.full k)] 17) (ends (env gl []) Tryd.f82.results.toList))) = (
  ((0 : Int) ≤ k ∧ k < (↑(List.length [(0 : Int), (15 : Int), (255 : Int)]) : Int)) ∧ ((0 : Int) ≤ k ∧ k < (↑(List.length [(0 : Int), (15 : Int), (255 : Int)]) : Int) → (decide ((0 : Int) ≤ x) && decide (x ≤ List.getD [(0 : Int), (15 : Int), (255 : Int)] (Int.toNat k) (RT.dflt RT.i64))) = fitsM x k)) := by kernel_rfl
set_option maxHeartbeats 4000000 in
theorem cfits : Con ea has gl 82 kfits := by
  refine plain_mkB Tryd.func82 17 (con := []) trivial (fun hA hr hv => ?_) (by kernel_rfl) (by kernel_rfl) Tryd.ntmps82
  unfold kfits at hr; split at hr
  · rename_i x k
    have := ret_ok hr; subst this
    replace hv := hv _ rfl
    refine ⟨_, [], rfl, rfl, .of (argfits x k) (by simp), rfl, (fun W R ρ0 own0 hown => noSums (by kernel_rfl)), .of (runfits gl x.val k.val) ?_⟩
    clear hr
    generalize x.val = x at *
    generalize k.val = k at *
    have : k = 0 ∨ k = 1 ∨ k = 2 := by omega
    rcases this with rfl | rfl | rfl <;> exact ⟨by decide, fun _ => rfl⟩
  · cases hr
def kWord : List SVal → Nat → Acc ORes := fun a n => match a with | [.agg [.int .i64 op, .int .i64 a, .int .i64 b, .int .i64 c, .int .u32 imm]] => .ret ({ v := .tuple [.int .u32 (.full (wordW op.val a.val b.val c.val imm.val)), .bool (.sym (wordOk op.val a.val b.val c.val imm.val))] }) | _ => .fail "Word"
theorem argWord (op a b c imm : SI) : (all (subL tAtN none' [] deep [.agg [.int .i64 op, .int .i64 a, .int .i64 b, .int .i64 c, .int .u32 imm]] [.agg [.int .i64 (.full op.val), .int .i64 (.full a.val), .int .i64 (.full b.val), .int .i64 (.full c.val), .int .u32 (.full imm.val)]])) = (
  SI.val op = SI.val op ∧ SI.val a = SI.val a ∧ SI.val b = SI.val b ∧ SI.val c = SI.val c ∧ SI.val imm = SI.val imm) := by kernel_rfl
theorem runWord (gl : List (Nat × SVal)) (op : Int) (a : Int) (b : Int) (c : Int) (imm : Int) : (Tr.sat (plainQ (.tuple [.int .u32 (.full (wordW op a b c imm)), .bool (.sym (wordOk op a b c imm))])) (run (env gl [(51, kTables), (52, kClass), (60, kTwo), (81, koperands), (82, kfits)]) [] (bodyOf Tryd.f69) (start [.agg [.int .i64 (.full op), .int .i64 (.full a), .int .i64 (.full b), .int .i64 (.full c), .int .u32 (.full imm)]] 72) (ends (env gl [(51, kTables), (52, kClass), (60, kTwo), (81, koperands), (82, kfits)]) Tryd.f69.results.toList))) = (
  ((!decide (isaClass op = (0 : Int))) = true → (0 : Int) ≤ kA op ∧ kA op ≤ (2 : Int)) ∧ (((!decide (isaClass op = (0 : Int))) = true → (0 : Int) ≤ kA op ∧ kA op ≤ (2 : Int)) → ((!(decide (isaClass op = (0 : Int)) || !fitsM a (kA op))) = true → (0 : Int) ≤ kB op ∧ kB op ≤ (2 : Int)) ∧ (((!(decide (isaClass op = (0 : Int)) || !fitsM a (kA op))) = true → (0 : Int) ≤ kB op ∧ kB op ≤ (2 : Int)) → ((!(decide (isaClass op = (0 : Int)) || !fitsM a (kA op) || !fitsM b (kB op))) = true → (0 : Int) ≤ kC op ∧ kC op ≤ (2 : Int)) ∧ (((!(decide (isaClass op = (0 : Int)) || !fitsM a (kA op) || !fitsM b (kB op))) = true → (0 : Int) ≤ kC op ∧ kC op ≤ (2 : Int)) → ((decide (isaClass op = (0 : Int)) || !fitsM a (kA op) || !fitsM b (kB op) || !fitsM c (kC op) || !decide (imm = (0 : Int)) && !isaTwo op) = true → (0 : Int) = wordW op a b c imm ∧ false = wordOk op a b c imm) ∧ ((decide (isaClass op = (0 : Int)) || !fitsM a (kA op) || !fitsM b (kB op) || !fitsM c (kC op) || !decide (imm = (0 : Int)) && !isaTwo op) = false → bits BinOp.or IntKind.u32 (bits BinOp.or IntKind.u32 (bits BinOp.or IntKind.u32 (IntKind.wrap IntKind.u32 (IntKind.wrap IntKind.u32 op * (16777216 : Int))) (IntKind.wrap IntKind.u32 (IntKind.wrap IntKind.u32 a * (65536 : Int)))) (IntKind.wrap IntKind.u32 (IntKind.wrap IntKind.u32 b * (256 : Int)))) (IntKind.wrap IntKind.u32 c) = wordW op a b c imm ∧ true = wordOk op a b c imm))))) := by kernel_rfl
set_option maxHeartbeats 4000000 in
theorem cWord : Con ea has gl 69 kWord := by
  refine plain_mkB Tryd.func69 72 (con := [(51, kTables), (52, kClass), (60, kTwo), (81, koperands), (82, kfits)]) ⟨cTables, cClass, cTwo, coperands, cfits, trivial⟩ (fun hA hr hv => ?_) (by kernel_rfl) (by kernel_rfl) Tryd.ntmps69
  unfold kWord at hr; split at hr
  · rename_i op a b c imm
    have := ret_ok hr; subst this
    refine ⟨_, [], rfl, rfl, .of (argWord op a b c imm) (by simp), rfl, (fun W R ρ0 own0 hown => noSums (by kernel_rfl)), .of (runWord gl op.val a.val b.val c.val imm.val) ?_⟩
    clear hr
    clear hA hv
    generalize op.val = op
    generalize a.val = a
    generalize b.val = b
    generalize c.val = c
    generalize imm.val = imm
    have e : (decide (isaClass op = 0) || !fitsM a (kA op) || !fitsM b (kB op) || !fitsM c (kC op) || !decide (imm = 0) && !isaTwo op) = !wordOk op a b c imm := by
      unfold wordOk
      simp only [Bool.not_and, Bool.not_not, bne, Bool.not_or]
      rfl
    rw [e]
    have h1 := kA_in op
    have h2 := kB_in op
    have h3 := kC_in op
    refine ⟨fun _ => by omega, fun _ => ⟨fun _ => by omega, fun _ => ⟨fun _ => by omega, fun _ => ⟨fun h => ?_, fun h => ?_⟩⟩⟩⟩
    · have h : wordOk op a b c imm = false := by simpa using h
      rw [wordW, h]; exact ⟨rfl, rfl⟩
    · have h : wordOk op a b c imm = true := by simpa using h
      refine ⟨?_, h.symm⟩
      rw [wordW, if_pos h]
      have hw := h
      unfold wordOk at h
      simp only [Bool.and_eq_true, Bool.not_eq_true'] at h
      obtain ⟨⟨⟨⟨g1, g2⟩, g3⟩, g4⟩, _⟩ := h
      have := class_in g1
      simp only [IntKind.wrap_u32]
      exact word_bits (by omega) (fits_in g2) (fits_in g3) (fits_in g4)
  · cases hr
def kOf : List SVal → Nat → Acc ORes := fun a n => match a with | [.int .u32 w, .int .u32 imm] => .ret ({ v := .tuple [.agg (ofF w.val imm.val).enc, .bool (.sym (ofOk w.val))] }) | _ => .fail "Of"
theorem argOf (w imm : SI) : (all (subL tAtN none' [] deep [.int .u32 w, .int .u32 imm] [.int .u32 (.full w.val), .int .u32 (.full imm.val)])) = (
  SI.val w = SI.val w ∧ SI.val imm = SI.val imm) := by kernel_rfl
theorem runOf (gl : List (Nat × SVal)) (w : Int) (imm : Int) : (Tr.sat (plainQ (.tuple [.agg (ofF w imm).enc, .bool (.sym (ofOk w))])) (run (env gl [(51, kTables), (60, kTwo), (69, kWord)]) [] (bodyOf Tryd.f59) (start [.int .u32 (.full w), .int .u32 (.full imm)] 41) (ends (env gl [(51, kTables), (60, kTwo), (69, kWord)]) Tryd.f59.results.toList))) = (
  (isaTwo (w / (16777216 : Int)) = true → ((!wordOk (w / (16777216 : Int)) (w / (65536 : Int) % (256 : Int)) (w / (256 : Int) % (256 : Int)) (w % (256 : Int)) imm) = true → (0 : Int) = (ofF w imm).op ∧ (0 : Int) = (ofF w imm).a ∧ (0 : Int) = (ofF w imm).b ∧ (0 : Int) = (ofF w imm).c ∧ (0 : Int) = (ofF w imm).imm ∧ false = ofOk w) ∧ ((!wordOk (w / (16777216 : Int)) (w / (65536 : Int) % (256 : Int)) (w / (256 : Int) % (256 : Int)) (w % (256 : Int)) imm) = false → w / (16777216 : Int) = (ofF w imm).op ∧ w / (65536 : Int) % (256 : Int) = (ofF w imm).a ∧ w / (256 : Int) % (256 : Int) = (ofF w imm).b ∧ w % (256 : Int) = (ofF w imm).c ∧ imm = (ofF w imm).imm ∧ true = ofOk w)) ∧ (isaTwo (w / (16777216 : Int)) = false → ((!wordOk (w / (16777216 : Int)) (w / (65536 : Int) % (256 : Int)) (w / (256 : Int) % (256 : Int)) (w % (256 : Int)) (0 : Int)) = true → (0 : Int) = (ofF w imm).op ∧ (0 : Int) = (ofF w imm).a ∧ (0 : Int) = (ofF w imm).b ∧ (0 : Int) = (ofF w imm).c ∧ (0 : Int) = (ofF w imm).imm ∧ false = ofOk w) ∧ ((!wordOk (w / (16777216 : Int)) (w / (65536 : Int) % (256 : Int)) (w / (256 : Int) % (256 : Int)) (w % (256 : Int)) (0 : Int)) = false → w / (16777216 : Int) = (ofF w imm).op ∧ w / (65536 : Int) % (256 : Int) = (ofF w imm).a ∧ w / (256 : Int) % (256 : Int) = (ofF w imm).b ∧ w % (256 : Int) = (ofF w imm).c ∧ (0 : Int) = (ofF w imm).imm ∧ true = ofOk w))) := by kernel_rfl
set_option maxHeartbeats 4000000 in
theorem cOf : Con ea has gl 59 kOf := by
  refine plain_mkB Tryd.func59 41 (con := [(51, kTables), (60, kTwo), (69, kWord)]) ⟨cTables, cTwo, cWord, trivial⟩ (fun hA hr hv => ?_) (by kernel_rfl) (by kernel_rfl) Tryd.ntmps59
  unfold kOf at hr; split at hr
  · rename_i w imm
    have := ret_ok hr; subst this
    refine ⟨_, [], rfl, rfl, .of (argOf w imm) (by simp), rfl, (fun W R ρ0 own0 hown => noSums (by kernel_rfl)), .of (runOf gl w.val imm.val) ?_⟩
    clear hr
    clear hA hv
    generalize w.val = w
    generalize imm.val = imm
    have e : wordOk (w / 16777216) (w / 65536 % 256) (w / 256 % 256) (w % 256) 0 = ofOk w := rfl
    refine ⟨fun h => ?_, fun h => ?_⟩
    · rw [ofOk_imm h, e]; cases hk : ofOk w <;> simp [ofF, hk, ofImm, h]
    · rw [e]; cases hk : ofOk w <;> simp [ofF, hk, ofImm, h]
  · cases hr
end
end Go.Proofs.YtpjccdncokamlaaDoor

