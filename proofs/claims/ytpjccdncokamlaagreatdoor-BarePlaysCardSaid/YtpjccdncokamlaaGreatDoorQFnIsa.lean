/- Contracts. -/
import Derived.Test.YtpjccdncokamlaaGreatDoorQFnMk
import Derived.Test.YtpjccdncokamlaaGreatDoorQMemM
set_option maxHeartbeats 4000000
set_option linter.unusedVariables false
set_option linter.unusedSimpArgs false
namespace Go.Proofs.YtpjccdncokamlaaGreatDoor
open Go.RowKit Go.Sy Go.Fac
section
variable {ea : Ear} {has : Int → Prop} {gl : List (Nat × SVal)}
def kTables : List SVal → Nat → Acc ORes := fun a n => match a with | [] => .ret ({ v := .agg [] }) | _ => .fail "Tables"
theorem argTables  : (all (subL tAtN none' [] deep [] [])) = (
  True) := by kernel_rfl
theorem runTables (gl : List (Nat × SVal)) : (Tr.sat (plainQ (.agg [])) (run (env gl []) [] (bodyOf Tryz.f67) (start [] 2) (ends (env gl []) Tryz.f67.results.toList))) = (
  True) := by kernel_rfl
theorem cTables : Con ea has gl 67 kTables := by
  refine plain_mkB Tryz.func67 2 (con := []) trivial (fun hA hr hv => ?_) (by kernel_rfl) (by kernel_rfl) Tryz.ntmps67
  unfold kTables at hr; split at hr
  · skip
    have := ret_ok hr; subst this
    refine ⟨_, [], rfl, rfl, .of (argTables ) (by simp), rfl, (fun W R ρ0 own0 hown => noSums (by kernel_rfl)), .of (runTables gl ) ?_⟩
    clear hr
    trivial
  · cases hr
def kClass : List SVal → Nat → Acc ORes := fun a n => match a with | [.agg [], .int .i64 op] => .ret ({ v := .int .i64 (.sym (isaClass op.val) 0 4) }) | _ => .fail "Class"
theorem argClass (op : SI) : (all (subL tAtN none' [] deep [.agg [], .int .i64 op] [.agg [], .int .i64 (.full op.val)])) = (
  SI.val op = SI.val op) := by kernel_rfl
theorem runClass (gl : List (Nat × SVal)) (op : Int) : (Tr.sat (plainQ (.int .i64 (.sym (isaClass op) 0 4))) (run (env gl []) [] (bodyOf Tryz.f68) (start [.agg [], .int .i64 (.full op)] 29) (ends (env gl []) Tryz.f68.results.toList))) = (
  IT (decide ((1 : Int) ≤ op) && decide (op ≤ 24)) ((1 : Int) = isaClass op) (IT (decide ((32 : Int) ≤ op) && decide (op ≤ 44)) ((2 : Int) = isaClass op) (IT (decide ((64 : Int) ≤ op) && decide (op ≤ 67)) ((3 : Int) = isaClass op) (IT (decide (op = 96)) ((4 : Int) = isaClass op) ((0 : Int) = isaClass op))))) := by kernel_rfl
theorem cClass : Con ea has gl 68 kClass := by
  refine plain_mkB Tryz.func68 29 (con := []) trivial (fun hA hr hv => ?_) (by kernel_rfl) (by kernel_rfl) Tryz.ntmps68
  unfold kClass at hr; split at hr
  · rename_i op
    have := ret_ok hr; subst this
    refine ⟨_, [], rfl, rfl, .of (argClass op) (by simp), rfl, (fun W R ρ0 own0 hown => noSums (by kernel_rfl)), .of (runClass gl op.val) ?_⟩
    delta IT
    clear hr
    generalize op.val = op
    simp only [isaClass, Bool.and_eq_true, decide_eq_true_eq, Bool.and_eq_false_imp, decide_eq_false_iff_not]
    repeat (first | omega | split | intro _ | refine ⟨?_, ?_⟩)
  · cases hr
def kTwo : List SVal → Nat → Acc ORes := fun a n => match a with | [.agg [], .int .i64 op] => .ret ({ v := .bool (.sym (isaTwo op.val)) }) | _ => .fail "Two"
theorem argTwo (op : SI) : (all (subL tAtN none' [] deep [.agg [], .int .i64 op] [.agg [], .int .i64 (.full op.val)])) = (
  SI.val op = SI.val op) := by kernel_rfl
theorem runTwo (gl : List (Nat × SVal)) (op : Int) : (Tr.sat (plainQ (.bool (.sym (isaTwo op)))) (run (env gl []) [] (bodyOf Tryz.f100) (start [.agg [], .int .i64 (.full op)] 14) (ends (env gl []) Tryz.f100.results.toList))) = (
  IT (decide (op = 14)) (true = isaTwo op) (IT (decide (op = 15)) (true = isaTwo op) (IT (decide (op = 19)) (true = isaTwo op) (IT (decide (op = 20)) (true = isaTwo op) (IT (decide (op = 21)) (true = isaTwo op) (IT (decide (op = 22)) (true = isaTwo op) (IT (decide (op = 96)) (true = isaTwo op) (false = isaTwo op)))))))) := by kernel_rfl
theorem cTwo : Con ea has gl 100 kTwo := by
  refine plain_mkB Tryz.func100 14 (con := []) trivial (fun hA hr hv => ?_) (by kernel_rfl) (by kernel_rfl) Tryz.ntmps100
  unfold kTwo at hr; split at hr
  · rename_i op
    have := ret_ok hr; subst this
    refine ⟨_, [], rfl, rfl, .of (argTwo op) (by simp), rfl, (fun W R ρ0 own0 hown => noSums (by kernel_rfl)), .of (runTwo gl op.val) ?_⟩
    delta IT
    clear hr
    generalize op.val = op
    simp only [decide_eq_true_eq, decide_eq_false_iff_not]
    repeat (first | (intro h; subst h; rfl) | intro _ | refine ⟨?_, ?_⟩ | (simp [isaTwo, *]; done))
  · cases hr
def koperands : List SVal → Nat → Acc ORes := fun a n => match a with | [.int .i64 op] => .ret ({ v := .tuple [.int .i64 (.sym (kA op.val) 0 2), .int .i64 (.sym (kB op.val) 0 2), .int .i64 (.sym (kC op.val) 0 2)] }) | _ => .fail "operands"
theorem argoperands (op : SI) : (all (subL tAtN none' [] deep [.int .i64 op] [.int .i64 (.full op.val)])) = (
  SI.val op = SI.val op) := by kernel_rfl
theorem runoperands (gl : List (Nat × SVal)) (op : Int) : (Tr.sat (plainQ (.tuple [.int .i64 (.sym (kA op) 0 2), .int .i64 (.sym (kB op) 0 2), .int .i64 (.sym (kC op) 0 2)])) (run (env gl []) [] (bodyOf Tryz.f128) (start [.int .i64 (.full op)] 46) (ends (env gl []) Tryz.f128.results.toList))) = (
  IT (decide (op = 14)) ((1 : Int) = kA op ∧ (0 : Int) = kB op ∧ (0 : Int) = kC op) (IT (decide (op = 15)) ((1 : Int) = kA op ∧ (0 : Int) = kB op ∧ (0 : Int) = kC op) (IT (decide (op = 20)) ((1 : Int) = kA op ∧ (0 : Int) = kB op ∧ (0 : Int) = kC op) (IT (decide (op = 21)) ((1 : Int) = kA op ∧ (0 : Int) = kB op ∧ (0 : Int) = kC op) (IT (decide (op = 23)) ((1 : Int) = kA op ∧ (0 : Int) = kB op ∧ (0 : Int) = kC op) (IT (decide (op = 32)) ((1 : Int) = kA op ∧ (0 : Int) = kB op ∧ (0 : Int) = kC op) (IT (decide (op = 33)) ((1 : Int) = kA op ∧ (0 : Int) = kB op ∧ (0 : Int) = kC op) (IT (decide (op = 35)) ((1 : Int) = kA op ∧ (0 : Int) = kB op ∧ (0 : Int) = kC op) (IT (decide (op = 36)) ((1 : Int) = kA op ∧ (0 : Int) = kB op ∧ (0 : Int) = kC op) (IT (decide (op = 39)) ((1 : Int) = kA op ∧ (0 : Int) = kB op ∧ (0 : Int) = kC op) (IT (decide (op = 40)) ((1 : Int) = kA op ∧ (0 : Int) = kB op ∧ (0 : Int) = kC op) (IT (decide (op = 43)) ((1 : Int) = kA op ∧ (0 : Int) = kB op ∧ (0 : Int) = kC op) (IT (decide (op = 44)) ((1 : Int) = kA op ∧ (0 : Int) = kB op ∧ (0 : Int) = kC op) (IT (decide (op = 66)) ((1 : Int) = kA op ∧ (0 : Int) = kB op ∧ (0 : Int) = kC op) (IT (decide (op = 67)) ((1 : Int) = kA op ∧ (0 : Int) = kB op ∧ (0 : Int) = kC op) (IT (decide (op = 2)) ((1 : Int) = kA op ∧ (1 : Int) = kB op ∧ (0 : Int) = kC op) (IT (decide (op = 37)) ((1 : Int) = kA op ∧ (1 : Int) = kB op ∧ (0 : Int) = kC op) (IT (decide (op = 38)) ((1 : Int) = kA op ∧ (1 : Int) = kB op ∧ (0 : Int) = kC op) (IT (decide (op = 41)) ((1 : Int) = kA op ∧ (1 : Int) = kB op ∧ (0 : Int) = kC op) (IT (decide (op = 3)) ((1 : Int) = kA op ∧ (1 : Int) = kB op ∧ (1 : Int) = kC op) (IT (decide (op = 4)) ((1 : Int) = kA op ∧ (1 : Int) = kB op ∧ (1 : Int) = kC op) (IT (decide (op = 5)) ((1 : Int) = kA op ∧ (1 : Int) = kB op ∧ (1 : Int) = kC op) (IT (decide (op = 6)) ((1 : Int) = kA op ∧ (1 : Int) = kB op ∧ (1 : Int) = kC op) (IT (decide (op = 7)) ((1 : Int) = kA op ∧ (1 : Int) = kB op ∧ (1 : Int) = kC op) (IT (decide (op = 8)) ((1 : Int) = kA op ∧ (1 : Int) = kB op ∧ (1 : Int) = kC op) (IT (decide (op = 9)) ((1 : Int) = kA op ∧ (1 : Int) = kB op ∧ (1 : Int) = kC op) (IT (decide (op = 10)) ((1 : Int) = kA op ∧ (1 : Int) = kB op ∧ (1 : Int) = kC op) (IT (decide (op = 11)) ((1 : Int) = kA op ∧ (1 : Int) = kB op ∧ (1 : Int) = kC op) (IT (decide (op = 24)) ((1 : Int) = kA op ∧ (1 : Int) = kB op ∧ (1 : Int) = kC op) (IT (decide (op = 12)) ((1 : Int) = kA op ∧ (1 : Int) = kB op ∧ (2 : Int) = kC op) (IT (decide (op = 13)) ((1 : Int) = kA op ∧ (1 : Int) = kB op ∧ (2 : Int) = kC op) (IT (decide (op = 16)) ((0 : Int) = kA op ∧ (0 : Int) = kB op ∧ (2 : Int) = kC op) (IT (decide (op = 17)) ((1 : Int) = kA op ∧ (0 : Int) = kB op ∧ (2 : Int) = kC op) (IT (decide (op = 18)) ((1 : Int) = kA op ∧ (0 : Int) = kB op ∧ (2 : Int) = kC op) ((0 : Int) = kA op ∧ (0 : Int) = kB op ∧ (0 : Int) = kC op))))))))))))))))))))))))))))))))))) := by kernel_rfl
theorem coperands : Con ea has gl 128 koperands := by
  refine plain_mkB Tryz.func128 46 (con := []) trivial (fun hA hr hv => ?_) (by kernel_rfl) (by kernel_rfl) Tryz.ntmps128
  unfold koperands at hr; split at hr
  · rename_i op
    have := ret_ok hr; subst this
    refine ⟨_, [], rfl, rfl, .of (argoperands op) (by simp), rfl, (fun W R ρ0 own0 hown => noSums (by kernel_rfl)), .of (runoperands gl op.val) ?_⟩
    delta IT
    clear hr
    generalize op.val = op
    simp only [decide_eq_true_eq, decide_eq_false_iff_not]
    repeat (first | (intro h; subst h; decide) | (with_reducible intro _) | (with_reducible refine ⟨fun _ => ?_, fun _ => ?_⟩) | (refine ⟨?_, ?_, ?_⟩ <;> (first | (unfold kA; repeat (split; try omega); try omega) |  (unfold kB; repeat (split; try omega); try omega) | (unfold kC; repeat (split; try omega); try omega))))
  · cases hr
def kfits : List SVal → Nat → Acc ORes := fun a n => match a with | [.int .i64 x, .int .i64 k] => .ret ({ v := .bool (.sym (fitsM x.val k.val)), vc := some (0 ≤ k.val ∧ k.val ≤ 2) }) | _ => .fail "fits"
theorem argfits (x k : SI) : (all (subL tAtN none' [] deep [.int .i64 x, .int .i64 k] [.int .i64 (.full x.val), .int .i64 (.full k.val)])) = (
  SI.val x = SI.val x ∧ SI.val k = SI.val k) := by kernel_rfl
theorem runfits (gl : List (Nat × SVal)) (x : Int) (k : Int) : (Tr.sat (plainQ (.bool (.sym (fitsM x k)))) (run (env gl []) [] (bodyOf Tryz.f129) (start [.int .i64 (.full x), .int .i64 (.full k)] 17) (ends (env gl []) Tryz.f129.results.toList))) = (
  RQ (0 ≤ k ∧ k < ((List.length [(0 : Int), (15 : Int), (255 : Int)]) : Int)) ((decide (0 ≤ x) && decide (x ≤ List.getD [(0 : Int), (15 : Int), (255 : Int)] (Int.toNat k) (RT.dflt RT.i64))) = fitsM x k)) := by kernel_rfl
theorem cfits : Con ea has gl 129 kfits := by
  refine plain_mkB Tryz.func129 17 (con := []) trivial (fun hA hr hv => ?_) (by kernel_rfl) (by kernel_rfl) Tryz.ntmps129
  unfold kfits at hr; split at hr
  · rename_i x k
    have := ret_ok hr; subst this
    replace hv := hv _ rfl
    refine ⟨_, [], rfl, rfl, .of (argfits x k) (by simp), rfl, (fun W R ρ0 own0 hown => noSums (by kernel_rfl)), .of (runfits gl x.val k.val) ?_⟩
    delta RQ
    clear hr
    generalize x.val = x at *
    generalize k.val = k at *
    have : k = 0 ∨ k = 1 ∨ k = 2 := by omega
    rcases this with rfl | rfl | rfl <;> exact ⟨by decide, fun _ => rfl⟩
  · cases hr
def kWord : List SVal → Nat → Acc ORes := fun a n => match a with | [.agg [.int .i64 op, .int .i64 a, .int .i64 b, .int .i64 c, .int .u32 imm]] => .ret ({ v := .tuple [.int .u32 (.full (wordW op.val a.val b.val c.val imm.val)), .bool (.sym (wordOk op.val a.val b.val c.val imm.val))] }) | _ => .fail "Word"
theorem argWord (op a b c imm : SI) : (all (subL tAtN none' [] deep [.agg [.int .i64 op, .int .i64 a, .int .i64 b, .int .i64 c, .int .u32 imm]] [.agg [.int .i64 (.full op.val), .int .i64 (.full a.val), .int .i64 (.full b.val), .int .i64 (.full c.val), .int .u32 (.full imm.val)]])) = (
  SI.val op = SI.val op ∧ SI.val a = SI.val a ∧ SI.val b = SI.val b ∧ SI.val c = SI.val c ∧ SI.val imm = SI.val imm) := by kernel_rfl
theorem runWord (gl : List (Nat × SVal)) (op : Int) (a : Int) (b : Int) (c : Int) (imm : Int) : (Tr.sat (plainQ (.tuple [.int .u32 (.full (wordW op a b c imm)), .bool (.sym (wordOk op a b c imm))])) (run (env gl [(67, kTables), (68, kClass), (100, kTwo), (128, koperands), (129, kfits)]) [] (bodyOf Tryz.f115) (start [.agg [.int .i64 (.full op), .int .i64 (.full a), .int .i64 (.full b), .int .i64 (.full c), .int .u32 (.full imm)]] 72) (ends (env gl [(67, kTables), (68, kClass), (100, kTwo), (128, koperands), (129, kfits)]) Tryz.f115.results.toList))) = (
  RQ ((!decide (isaClass op = 0)) = true → 0 ≤ kA op ∧ kA op ≤ 2) (RQ ((!(decide (isaClass op = 0) || !fitsM a (kA op))) = true → 0 ≤ kB op ∧ kB op ≤ 2) (RQ ((!(decide (isaClass op = 0) || !fitsM a (kA op) || !fitsM b (kB op))) = true → 0 ≤ kC op ∧ kC op ≤ 2) (IT (decide (isaClass op = 0) || !fitsM a (kA op) || !fitsM b (kB op) || !fitsM c (kC op) || !decide (imm = 0) && !isaTwo op) ((0 : Int) = wordW op a b c imm ∧ false = wordOk op a b c imm) (bits BinOp.or IntKind.u32 (bits BinOp.or IntKind.u32 (bits BinOp.or IntKind.u32 (IntKind.wrap IntKind.u32 (IntKind.wrap IntKind.u32 op * 16777216)) (IntKind.wrap IntKind.u32 (IntKind.wrap IntKind.u32 a * 65536))) (IntKind.wrap IntKind.u32 (IntKind.wrap IntKind.u32 b * 256))) (IntKind.wrap IntKind.u32 c) = wordW op a b c imm ∧ true = wordOk op a b c imm))))) := by kernel_rfl
theorem cWord : Con ea has gl 115 kWord := by
  refine plain_mkB Tryz.func115 72 (con := [(67, kTables), (68, kClass), (100, kTwo), (128, koperands), (129, kfits)]) ⟨cTables, cClass, cTwo, coperands, cfits, trivial⟩ (fun hA hr hv => ?_) (by kernel_rfl) (by kernel_rfl) Tryz.ntmps115
  unfold kWord at hr; split at hr
  · rename_i op a b c imm
    have := ret_ok hr; subst this
    refine ⟨_, [], rfl, rfl, .of (argWord op a b c imm) (by simp), rfl, (fun W R ρ0 own0 hown => noSums (by kernel_rfl)), .of (runWord gl op.val a.val b.val c.val imm.val) ?_⟩
    delta RQ IT
    clear hr
    clear hA hv
    generalize op.val = op
    generalize a.val = a
    generalize b.val = b
    generalize c.val = c
    generalize imm.val = imm
    have e : (decide (isaClass op = 0) || !fitsM a (kA op) || !fitsM b (kB op) || !fitsM c (kC op) || !decide (imm = 0) && !isaTwo op) = !wordOk op a b c imm := by
      unfold wordOk
      simp only [Bool.not_and, Bool.not_not, bne, Bool.not_or]
      rfl
    rw [e]
    have h1 := kA_in op
    have h2 := kB_in op
    have h3 := kC_in op
    refine ⟨fun _ => by omega, fun _ => ⟨fun _ => by omega, fun _ => ⟨fun _ => by omega, fun _ => ⟨fun h => ?_, fun h => ?_⟩⟩⟩⟩
    · have h : wordOk op a b c imm = false := by simpa using h
      rw [wordW, h]; exact ⟨rfl, rfl⟩
    · have h : wordOk op a b c imm = true := by simpa using h
      refine ⟨?_, h.symm⟩
      rw [wordW, if_pos h]
      have hw := h
      unfold wordOk at h
      simp only [Bool.and_eq_true, Bool.not_eq_true'] at h
      obtain ⟨⟨⟨⟨g1, g2⟩, g3⟩, g4⟩, _⟩ := h
      have := class_in g1
      simp only [IntKind.wrap_u32]
      exact word_bits (by omega) (fits_in g2) (fits_in g3) (fits_in g4)
  · cases hr
def kOf : List SVal → Nat → Acc ORes := fun a n => match a with | [.int .u32 w, .int .u32 imm] => .ret ({ v := .tuple [.agg (ofF w.val imm.val).enc, .bool (.sym (ofOk w.val))] }) | _ => .fail "Of"
theorem argOf (w imm : SI) : (all (subL tAtN none' [] deep [.int .u32 w, .int .u32 imm] [.int .u32 (.full w.val), .int .u32 (.full imm.val)])) = (
  SI.val w = SI.val w ∧ SI.val imm = SI.val imm) := by kernel_rfl
theorem runOf (gl : List (Nat × SVal)) (w : Int) (imm : Int) : (Tr.sat (plainQ (.tuple [.agg (ofF w imm).enc, .bool (.sym (ofOk w))])) (run (env gl [(67, kTables), (100, kTwo), (115, kWord)]) [] (bodyOf Tryz.f99) (start [.int .u32 (.full w), .int .u32 (.full imm)] 41) (ends (env gl [(67, kTables), (100, kTwo), (115, kWord)]) Tryz.f99.results.toList))) = (
  IT (isaTwo (w / 16777216)) (IT (!wordOk (w / 16777216) (w / 65536 % (256 : Int)) (w / 256 % (256 : Int)) (w % 256) imm) ((0 : Int) = (ofF w imm).op ∧ (0 : Int) = (ofF w imm).a ∧ (0 : Int) = (ofF w imm).b ∧ (0 : Int) = (ofF w imm).c ∧ (0 : Int) = (ofF w imm).imm ∧ false = ofOk w) (w / 16777216 = (ofF w imm).op ∧ w / 65536 % (256 : Int) = (ofF w imm).a ∧ w / 256 % (256 : Int) = (ofF w imm).b ∧ w % 256 = (ofF w imm).c ∧ imm = (ofF w imm).imm ∧ true = ofOk w)) (IT (!wordOk (w / 16777216) (w / 65536 % (256 : Int)) (w / 256 % (256 : Int)) (w % 256) (0 : Int)) ((0 : Int) = (ofF w imm).op ∧ (0 : Int) = (ofF w imm).a ∧ (0 : Int) = (ofF w imm).b ∧ (0 : Int) = (ofF w imm).c ∧ (0 : Int) = (ofF w imm).imm ∧ false = ofOk w) (w / 16777216 = (ofF w imm).op ∧ w / 65536 % (256 : Int) = (ofF w imm).a ∧ w / 256 % (256 : Int) = (ofF w imm).b ∧ w % 256 = (ofF w imm).c ∧ (0 : Int) = (ofF w imm).imm ∧ true = ofOk w))) := by kernel_rfl
theorem cOf : Con ea has gl 99 kOf := by
  refine plain_mkB Tryz.func99 41 (con := [(67, kTables), (100, kTwo), (115, kWord)]) ⟨cTables, cTwo, cWord, trivial⟩ (fun hA hr hv => ?_) (by kernel_rfl) (by kernel_rfl) Tryz.ntmps99
  unfold kOf at hr; split at hr
  · rename_i w imm
    have := ret_ok hr; subst this
    refine ⟨_, [], rfl, rfl, .of (argOf w imm) (by simp), rfl, (fun W R ρ0 own0 hown => noSums (by kernel_rfl)), .of (runOf gl w.val imm.val) ?_⟩
    delta IT
    clear hr
    clear hA hv
    generalize w.val = w
    generalize imm.val = imm
    have e : wordOk (w / 16777216) (w / 65536 % 256) (w / 256 % 256) (w % 256) 0 = ofOk w := rfl
    refine ⟨fun h => ?_, fun h => ?_⟩
    · rw [ofOk_imm h, e]; cases hk : ofOk w <;> simp [ofF, hk, ofImm, h]
    · rw [e]; cases hk : ofOk w <;> simp [ofF, hk, ofImm, h]
  · cases hr
def krClass : List SVal → Nat → Acc ORes := fun a n => match a with | [.int .i64 op] => .ret ({ v := .int .i64 (.sym (isaClass op.val) 0 4) }) | _ => .fail "rClass"
theorem argrClass (op : SI) : (all (subL tAtN none' [] deep [.int .i64 op] [.int .i64 (.full op.val)])) = (
  SI.val op = SI.val op) := by kernel_rfl
theorem runrClass (gl : List (Nat × SVal)) (op : Int) : (Tr.sat (plainQ (.int .i64 (.sym (isaClass op) 0 4))) (run (env gl []) [] (bodyOf Tryz.f75) (start [.int .i64 (.full op)] 27) (ends (env gl []) Tryz.f75.results.toList))) = (
  IT (decide ((1 : Int) ≤ op) && decide (op ≤ 24)) ((1 : Int) = isaClass op) (IT (decide ((32 : Int) ≤ op) && decide (op ≤ 44)) ((2 : Int) = isaClass op) (IT (decide ((64 : Int) ≤ op) && decide (op ≤ 67)) ((3 : Int) = isaClass op) (IT (decide (op = 96)) ((4 : Int) = isaClass op) ((0 : Int) = isaClass op))))) := by kernel_rfl
theorem crClass : Con ea has gl 75 krClass := by
  refine plain_mkB Tryz.func75 27 (con := []) trivial (fun hA hr hv => ?_) (by kernel_rfl) (by kernel_rfl) Tryz.ntmps75
  unfold krClass at hr; split at hr
  · rename_i op
    have := ret_ok hr; subst this
    refine ⟨_, [], rfl, rfl, .of (argrClass op) (by simp), rfl, (fun W R ρ0 own0 hown => noSums (by kernel_rfl)), .of (runrClass gl op.val) ?_⟩
    delta IT
    clear hr
    generalize op.val = op
    simp only [isaClass, Bool.and_eq_true, decide_eq_true_eq, Bool.and_eq_false_imp, decide_eq_false_iff_not]
    repeat (first | omega | split | intro _ | refine ⟨?_, ?_⟩)
  · cases hr
end
end Go.Proofs.YtpjccdncokamlaaGreatDoor

