/- Contracts. -/
import Derived.Test.YtpjccdncokamlaaGreatDoorQFnRef1
import Derived.Test.YtpjccdncokamlaaGreatDoorQFnMem
import Derived.Test.YtpjccdncokamlaaGreatDoorQCoreM
set_option maxHeartbeats 4000000
set_option linter.unusedVariables false
set_option linter.unusedSimpArgs false
namespace Go.Proofs.YtpjccdncokamlaaGreatDoor
open Go.RowKit Go.Sy Go.Fac
section
variable {ea : Ear} {has : Int → Prop} {gl : List (Nat × SVal)}
theorem bits32 : IntKind.bits IntKind.u32 = 32 := rfl
def kaTaken : List SVal → Nat → Acc ORes := fun a n => match a with | [.agg [.int .i64 op, .int .i64 a, .int .i64 b, .int .i64 c, .int .u32 imm], .arr .u32 16 x] => .ret ({ v := .tuple [.bool (.sym (tkB (⟨op.val, a.val, b.val, c.val, imm.val⟩ : In5) x)), .bool (.sym (tkOk (⟨op.val, a.val, b.val, c.val, imm.val⟩ : In5)))] }) | _ => .fail "aTaken"
theorem argaTaken (op a b c imm : SI) (x : List Int) : (all (subL tAtN none' [] deep [.agg [.int .i64 op, .int .i64 a, .int .i64 b, .int .i64 c, .int .u32 imm], .arr .u32 16 x] [.agg (⟨op.val, a.val, b.val, c.val, imm.val⟩ : In5).enc, .arr .u32 16 x])) = (
  SI.val op = SI.val op ∧ SI.val a = SI.val a ∧ SI.val b = SI.val b ∧ SI.val c = SI.val c ∧ SI.val imm = SI.val imm ∧ x = x) := by kernel_rfl
abbrev TaTaken (gl : List (Nat × SVal)) (i : In5) (r : List Int) : Prop := Tr.sat (plainQ (.tuple [.bool (.sym (tkB i r)), .bool (.sym (tkOk i))])) (run (env gl [(67, kTables), (117, kiJumps), (115, kWord)]) [] (bodyOf Tryz.f103) (start [.agg i.enc, .arr .u32 16 r] 43) (ends (env gl [(67, kTables), (117, kiJumps), (115, kWord)]) Tryz.f103.results.toList))
theorem runaTaken (gl : List (Nat × SVal)) (i : In5) (r : List Int) : (TaTaken gl i r) = (
  IT (!wordOk i.op i.a i.b i.c i.imm || !isaJumps i.op) (false = tkB i r ∧ false = tkOk i) (IT (decide (i.op = 17)) (RQ (0 ≤ i.a ∧ i.a < ((16 : Nat) : Int)) (decide (List.getD r (Int.toNat i.a) (RT.dflt RT.u32) = 0) = tkB i r ∧ true = tkOk i)) (IT (decide (i.op = 20)) (RQ (0 ≤ i.a ∧ i.a < ((16 : Nat) : Int)) (decide (List.getD r (Int.toNat i.a) (RT.dflt RT.u32) = 0) = tkB i r ∧ true = tkOk i)) (IT (decide (i.op = 18)) (RQ (0 ≤ i.a ∧ i.a < ((16 : Nat) : Int)) ((!decide (List.getD r (Int.toNat i.a) (RT.dflt RT.u32) = 0)) = tkB i r ∧ true = tkOk i)) (IT (decide (i.op = 21)) (RQ (0 ≤ i.a ∧ i.a < ((16 : Nat) : Int)) ((!decide (List.getD r (Int.toNat i.a) (RT.dflt RT.u32) = 0)) = tkB i r ∧ true = tkOk i)) (true = tkB i r ∧ true = tkOk i)))))) := by kernel_rfl
theorem gaTaken (i : In5) (r : List Int)  : Box (TaTaken gl i r) := by
  refine .of (runaTaken gl i r) ?_
  delta RQ IT
  have e : (!wordOk i.op i.a i.b i.c i.imm || !isaJumps i.op) = !tkOk i := by unfold tkOk In5.ok; rw [Bool.not_and]
  rw [e]
  have d0 : RT.u32.dflt = (0 : Int) := rfl
  refine ⟨fun h => ?_, fun h => ?_⟩
  · simp at h; simp [tkB, h]
  · simp at h
    have hw := h; unfold tkOk In5.ok at hw; rw [Bool.and_eq_true] at hw
    have rng := (word_rng hw.1).1
    clear hw e
    repeat' (first | (with_reducible intro _) | (with_reducible apply And.intro))
    all_goals first | omega | (simp_all [tkB, rg]; done)
theorem caTaken : Con ea has gl 103 kaTaken := by
  refine plain_mkB Tryz.func103 43 (con := [(67, kTables), (117, kiJumps), (115, kWord)]) ⟨cTables, ciJumps, cWord, trivial⟩ (fun hA hr hv => ?_) (by kernel_rfl) (by kernel_rfl) Tryz.ntmps103
  unfold kaTaken at hr; split at hr
  · rename_i op a b c imm x
    have := ret_ok hr; subst this
    exact ⟨_, [], rfl, rfl, .of (argaTaken op a b c imm x) (by simp), rfl, (fun W R ρ0 own0 hown => noSums (by kernel_rfl)), gaTaken ⟨op.val, a.val, b.val, c.val, imm.val⟩ x ⟩
  · cases hr
def krTaken : List SVal → Nat → Acc ORes := fun a n => match a with | [.agg [.int .i64 op, .int .i64 a, .int .i64 b, .int .i64 c, .int .u32 imm], .arr .u32 16 x] => .ret ({ v := .tuple [.bool (.sym (tkB (⟨op.val, a.val, b.val, c.val, imm.val⟩ : In5) x)), .bool (.sym (tkOk (⟨op.val, a.val, b.val, c.val, imm.val⟩ : In5)))] }) | _ => .fail "rTaken"
theorem argrTaken (op a b c imm : SI) (x : List Int) : (all (subL tAtN none' [] deep [.agg [.int .i64 op, .int .i64 a, .int .i64 b, .int .i64 c, .int .u32 imm], .arr .u32 16 x] [.agg (⟨op.val, a.val, b.val, c.val, imm.val⟩ : In5).enc, .arr .u32 16 x])) = (
  SI.val op = SI.val op ∧ SI.val a = SI.val a ∧ SI.val b = SI.val b ∧ SI.val c = SI.val c ∧ SI.val imm = SI.val imm ∧ x = x) := by kernel_rfl
abbrev TrTaken (gl : List (Nat × SVal)) (i : In5) (r : List Int) : Prop := Tr.sat (plainQ (.tuple [.bool (.sym (tkB i r)), .bool (.sym (tkOk i))])) (run (env gl [(112, krJumps), (111, krWord)]) [] (bodyOf Tryz.f78) (start [.agg i.enc, .arr .u32 16 r] 39) (ends (env gl [(112, krJumps), (111, krWord)]) Tryz.f78.results.toList))
theorem runrTaken (gl : List (Nat × SVal)) (i : In5) (r : List Int) : (TrTaken gl i r) = (
  IT (!wordOk i.op i.a i.b i.c i.imm || !isaJumps i.op) (false = tkB i r ∧ false = tkOk i) (IT (decide (i.op = 17)) (RQ (0 ≤ i.a ∧ i.a < ((16 : Nat) : Int)) (decide (List.getD r (Int.toNat i.a) (RT.dflt RT.u32) = 0) = tkB i r ∧ true = tkOk i)) (IT (decide (i.op = 20)) (RQ (0 ≤ i.a ∧ i.a < ((16 : Nat) : Int)) (decide (List.getD r (Int.toNat i.a) (RT.dflt RT.u32) = 0) = tkB i r ∧ true = tkOk i)) (IT (decide (i.op = 18)) (RQ (0 ≤ i.a ∧ i.a < ((16 : Nat) : Int)) ((!decide (List.getD r (Int.toNat i.a) (RT.dflt RT.u32) = 0)) = tkB i r ∧ true = tkOk i)) (IT (decide (i.op = 21)) (RQ (0 ≤ i.a ∧ i.a < ((16 : Nat) : Int)) ((!decide (List.getD r (Int.toNat i.a) (RT.dflt RT.u32) = 0)) = tkB i r ∧ true = tkOk i)) (true = tkB i r ∧ true = tkOk i)))))) := by kernel_rfl
theorem grTaken (i : In5) (r : List Int)  : Box (TrTaken gl i r) := by
  refine .of (runrTaken gl i r) ?_
  delta RQ IT
  have e : (!wordOk i.op i.a i.b i.c i.imm || !isaJumps i.op) = !tkOk i := by unfold tkOk In5.ok; rw [Bool.not_and]
  rw [e]
  have d0 : RT.u32.dflt = (0 : Int) := rfl
  refine ⟨fun h => ?_, fun h => ?_⟩
  · simp at h; simp [tkB, h]
  · simp at h
    have hw := h; unfold tkOk In5.ok at hw; rw [Bool.and_eq_true] at hw
    have rng := (word_rng hw.1).1
    clear hw e
    repeat' (first | (with_reducible intro _) | (with_reducible apply And.intro))
    all_goals first | omega | (simp_all [tkB, rg]; done)
theorem crTaken : Con ea has gl 78 krTaken := by
  refine plain_mkB Tryz.func78 39 (con := [(112, krJumps), (111, krWord)]) ⟨crJumps, crWord, trivial⟩ (fun hA hr hv => ?_) (by kernel_rfl) (by kernel_rfl) Tryz.ntmps78
  unfold krTaken at hr; split at hr
  · rename_i op a b c imm x
    have := ret_ok hr; subst this
    exact ⟨_, [], rfl, rfl, .of (argrTaken op a b c imm x) (by simp), rfl, (fun W R ρ0 own0 hown => noSums (by kernel_rfl)), grTaken ⟨op.val, a.val, b.val, c.val, imm.val⟩ x ⟩
  · cases hr
def krAlu : List SVal → Nat → Acc ORes := fun a n => match a with | [.agg [.int .i64 op, .int .i64 a, .int .i64 b, .int .i64 c, .int .u32 imm], .arr .u32 16 x] => .ret ({ v := .tuple [.arr .u32 16 (doR (⟨op.val, a.val, b.val, c.val, imm.val⟩ : In5) x), .bool (.sym (doOk (⟨op.val, a.val, b.val, c.val, imm.val⟩ : In5)))] }) | _ => .fail "rAlu"
theorem argrAlu (op a b c imm : SI) (x : List Int) : (all (subL tAtN none' [] deep [.agg [.int .i64 op, .int .i64 a, .int .i64 b, .int .i64 c, .int .u32 imm], .arr .u32 16 x] [.agg (⟨op.val, a.val, b.val, c.val, imm.val⟩ : In5).enc, .arr .u32 16 x])) = (
  SI.val op = SI.val op ∧ SI.val a = SI.val a ∧ SI.val b = SI.val b ∧ SI.val c = SI.val c ∧ SI.val imm = SI.val imm ∧ x = x) := by kernel_rfl
abbrev TrAlu (gl : List (Nat × SVal)) (i : In5) (r : List Int) : Prop := Tr.sat (plainQ (.tuple [.arr .u32 16 (doR i r), .bool (.sym (doOk i))])) (run (env gl [(111, krWord), (87, krone)]) [] (bodyOf Tryz.f79) (start [.agg i.enc, .arr .u32 16 r] 102) (ends (env gl [(111, krWord), (87, krone)]) Tryz.f79.results.toList))
theorem runrAlu (gl : List (Nat × SVal)) (i : In5) (r : List Int) : (TrAlu gl i r) = (
  IT (!wordOk i.op i.a i.b i.c i.imm) (List.replicate (16 : Nat) (0 : RT.ty RT.u32) = doR i r ∧ false = doOk i) (IT (decide (i.op = 1)) (r = doR i r ∧ true = doOk i) (RQ (0 ≤ i.b ∧ i.b < ((16 : Nat) : Int)) (RQ (0 ≤ i.c % 16 ∧ i.c % 16 < ((16 : Nat) : Int)) (IT (decide (i.op = 2)) (RQ (0 ≤ i.a ∧ i.a < ((16 : Nat) : Int)) (List.set r (Int.toNat i.a) (List.getD r (Int.toNat i.b) (RT.dflt RT.u32)) = doR i r ∧ true = doOk i)) (IT (decide (i.op = 3)) (RQ (0 ≤ i.a ∧ i.a < ((16 : Nat) : Int)) (List.set r (Int.toNat i.a) (IntKind.wrap IntKind.u32 (List.getD r (Int.toNat i.b) (RT.dflt RT.u32) + List.getD r (Int.toNat (i.c % 16)) (RT.dflt RT.u32))) = doR i r ∧ true = doOk i)) (IT (decide (i.op = 4)) (RQ (0 ≤ i.a ∧ i.a < ((16 : Nat) : Int)) (List.set r (Int.toNat i.a) (IntKind.wrap IntKind.u32 (List.getD r (Int.toNat i.b) (RT.dflt RT.u32) - List.getD r (Int.toNat (i.c % 16)) (RT.dflt RT.u32))) = doR i r ∧ true = doOk i)) (IT (decide (i.op = 5)) (RQ (0 ≤ i.a ∧ i.a < ((16 : Nat) : Int)) (List.set r (Int.toNat i.a) (bits BinOp.and IntKind.u32 (List.getD r (Int.toNat i.b) (RT.dflt RT.u32)) (List.getD r (Int.toNat (i.c % 16)) (RT.dflt RT.u32))) = doR i r ∧ true = doOk i)) (IT (decide (i.op = 6)) (RQ (0 ≤ i.a ∧ i.a < ((16 : Nat) : Int)) (List.set r (Int.toNat i.a) (bits BinOp.or IntKind.u32 (List.getD r (Int.toNat i.b) (RT.dflt RT.u32)) (List.getD r (Int.toNat (i.c % 16)) (RT.dflt RT.u32))) = doR i r ∧ true = doOk i)) (IT (decide (i.op = 7)) (RQ (0 ≤ i.a ∧ i.a < ((16 : Nat) : Int)) (List.set r (Int.toNat i.a) (bits BinOp.xor IntKind.u32 (List.getD r (Int.toNat i.b) (RT.dflt RT.u32)) (List.getD r (Int.toNat (i.c % 16)) (RT.dflt RT.u32))) = doR i r ∧ true = doOk i)) (IT (decide (i.op = 8)) (RQ (0 ≤ List.getD r (Int.toNat (i.c % 16)) (RT.dflt RT.u32) % 32) (RQ (0 ≤ i.a ∧ i.a < ((16 : Nat) : Int)) (List.set r (Int.toNat i.a) (IntKind.wrap IntKind.u32 (List.getD r (Int.toNat i.b) (RT.dflt RT.u32) * (2 : Int) ^ min (Int.toNat (List.getD r (Int.toNat (i.c % 16)) (RT.dflt RT.u32) % 32)) (IntKind.bits IntKind.u32))) = doR i r ∧ true = doOk i))) (IT (decide (i.op = 9)) (RQ (0 ≤ List.getD r (Int.toNat (i.c % 16)) (RT.dflt RT.u32) % 32) (RQ (0 ≤ i.a ∧ i.a < ((16 : Nat) : Int)) (List.set r (Int.toNat i.a) (List.getD r (Int.toNat i.b) (RT.dflt RT.u32) / (2 : Int) ^ min (Int.toNat (List.getD r (Int.toNat (i.c % 16)) (RT.dflt RT.u32) % 32)) (IntKind.bits IntKind.u32)) = doR i r ∧ true = doOk i))) (IT (decide (i.op = 10)) (RQ (0 ≤ i.a ∧ i.a < ((16 : Nat) : Int)) (List.set r (Int.toNat i.a) (if decide (List.getD r (Int.toNat i.b) (RT.dflt RT.u32) < List.getD r (Int.toNat (i.c % 16)) (RT.dflt RT.u32)) = true then (1 : Int) else (0 : Int)) = doR i r ∧ true = doOk i)) (IT (decide (i.op = 11)) (RQ (0 ≤ i.a ∧ i.a < ((16 : Nat) : Int)) (List.set r (Int.toNat i.a) (if decide (List.getD r (Int.toNat i.b) (RT.dflt RT.u32) = List.getD r (Int.toNat (i.c % 16)) (RT.dflt RT.u32)) = true then (1 : Int) else (0 : Int)) = doR i r ∧ true = doOk i)) (IT (decide (i.op = 24)) (RQ (0 ≤ i.a ∧ i.a < ((16 : Nat) : Int)) (List.set r (Int.toNat i.a) (IntKind.wrap IntKind.u32 (List.getD r (Int.toNat i.b) (RT.dflt RT.u32) * List.getD r (Int.toNat (i.c % 16)) (RT.dflt RT.u32))) = doR i r ∧ true = doOk i)) (IT (decide (i.op = 14)) (RQ (0 ≤ i.a ∧ i.a < ((16 : Nat) : Int)) (List.set r (Int.toNat i.a) i.imm = doR i r ∧ true = doOk i)) (IT (decide (i.op = 15)) (RQ (0 ≤ i.a ∧ i.a < ((16 : Nat) : Int)) (List.set r (Int.toNat i.a) i.imm = doR i r ∧ true = doOk i)) (List.replicate (16 : Nat) (0 : RT.ty RT.u32) = doR i r ∧ false = doOk i)))))))))))))))))) := by kernel_rfl
theorem grAlu (i : In5) (r : List Int)  : Box (TrAlu gl i r) := by
  refine .of (runrAlu gl i r) ?_
  delta RQ IT
  have d0 : RT.u32.dflt = (0 : Int) := rfl
  have o1 : wordOk i.op i.a i.b i.c i.imm = In5.ok i := rfl
  rw [o1]
  refine ⟨fun h => ?_, fun h => ?_⟩
  · simp at h
    have : doOk i = false := by unfold doOk; rw [h]; rfl
    simp [doR, this]
  · simp at h
    have rng := word_rng h
    clear o1
    have hk : ∀ b, aluOps i.op = b → doOk i = b := fun b hb => by unfold doOk; rw [h, hb]; rfl
    simp only [d0, bits32]
    repeat' (first | (with_reducible intro _) | (with_reducible apply And.intro))
    all_goals first | omega | skip
    all_goals (have k1 := hk true; have k2 := hk false; simp_all [doR, aluOps, aluW, rg])
    all_goals first | omega | (intro; omega)
theorem crAlu : Con ea has gl 79 krAlu := by
  refine plain_mkB Tryz.func79 102 (con := [(111, krWord), (87, krone)]) ⟨crWord, crone, trivial⟩ (fun hA hr hv => ?_) (by kernel_rfl) (by kernel_rfl) Tryz.ntmps79
  unfold krAlu at hr; split at hr
  · rename_i op a b c imm x
    have := ret_ok hr; subst this
    exact ⟨_, [], rfl, rfl, .of (argrAlu op a b c imm x) (by simp), rfl, (fun W R ρ0 own0 hown => noSums (by kernel_rfl)), grAlu ⟨op.val, a.val, b.val, c.val, imm.val⟩ x ⟩
  · cases hr
def kpfirst : List SVal → Nat → Acc ORes := fun a n => match a with | [.agg [.int .u32 b, .int .u32 c]] => .ret ({ v := .int .u32 (.full (aluW 2 b.val c.val)) }) | _ => .fail "pfirst"
theorem argpfirst (b c : SI) : (all (subL tAtN none' [] deep [.agg [.int .u32 b, .int .u32 c]] [.agg [.int .u32 (.full b.val), .int .u32 (.full c.val)]])) = (
  SI.val b = SI.val b ∧ SI.val c = SI.val c) := by kernel_rfl
theorem runpfirst (gl : List (Nat × SVal)) (b : Int) (c : Int) : (Tr.sat (plainQ (.int .u32 (.full (aluW 2 b c)))) (run (env gl []) [] (bodyOf Tryz.f131) (start [.agg [.int .u32 (.full b), .int .u32 (.full c)]] 5) (ends (env gl []) Tryz.f131.results.toList))) = (
  b = aluW (2 : Int) b c) := by kernel_rfl
theorem cpfirst : Con ea has gl 131 kpfirst := by
  refine plain_mkB Tryz.func131 5 (con := []) trivial (fun hA hr hv => ?_) (by kernel_rfl) (by kernel_rfl) Tryz.ntmps131
  unfold kpfirst at hr; split at hr
  · rename_i b c
    have := ret_ok hr; subst this
    refine ⟨_, [], rfl, rfl, .of (argpfirst b c) (by simp), rfl, (fun W R ρ0 own0 hown => noSums (by kernel_rfl)), .of (runpfirst gl b.val c.val) ?_⟩
    clear hr
    generalize b.val = b
    generalize c.val = c
    try simp only [aluW, w32, bits32]
    first | rfl | (simp; done) | (refine ⟨by omega, fun _ => ?_⟩; simp; done) | (by_cases h : b < c <;> simp [h]; done) | (by_cases h : b = c <;> simp [h]; done)
  · cases hr
def kpadd : List SVal → Nat → Acc ORes := fun a n => match a with | [.agg [.int .u32 b, .int .u32 c]] => .ret ({ v := .int .u32 (.full (aluW 3 b.val c.val)) }) | _ => .fail "padd"
theorem argpadd (b c : SI) : (all (subL tAtN none' [] deep [.agg [.int .u32 b, .int .u32 c]] [.agg [.int .u32 (.full b.val), .int .u32 (.full c.val)]])) = (
  SI.val b = SI.val b ∧ SI.val c = SI.val c) := by kernel_rfl
theorem runpadd (gl : List (Nat × SVal)) (b : Int) (c : Int) : (Tr.sat (plainQ (.int .u32 (.full (aluW 3 b c)))) (run (env gl []) [] (bodyOf Tryz.f132) (start [.agg [.int .u32 (.full b), .int .u32 (.full c)]] 8) (ends (env gl []) Tryz.f132.results.toList))) = (
  IntKind.wrap IntKind.u32 (b + c) = aluW (3 : Int) b c) := by kernel_rfl
theorem cpadd : Con ea has gl 132 kpadd := by
  refine plain_mkB Tryz.func132 8 (con := []) trivial (fun hA hr hv => ?_) (by kernel_rfl) (by kernel_rfl) Tryz.ntmps132
  unfold kpadd at hr; split at hr
  · rename_i b c
    have := ret_ok hr; subst this
    refine ⟨_, [], rfl, rfl, .of (argpadd b c) (by simp), rfl, (fun W R ρ0 own0 hown => noSums (by kernel_rfl)), .of (runpadd gl b.val c.val) ?_⟩
    clear hr
    generalize b.val = b
    generalize c.val = c
    try simp only [aluW, w32, bits32]
    first | rfl | (simp; done) | (refine ⟨by omega, fun _ => ?_⟩; simp; done) | (by_cases h : b < c <;> simp [h]; done) | (by_cases h : b = c <;> simp [h]; done)
  · cases hr
def kpsub : List SVal → Nat → Acc ORes := fun a n => match a with | [.agg [.int .u32 b, .int .u32 c]] => .ret ({ v := .int .u32 (.full (aluW 4 b.val c.val)) }) | _ => .fail "psub"
theorem argpsub (b c : SI) : (all (subL tAtN none' [] deep [.agg [.int .u32 b, .int .u32 c]] [.agg [.int .u32 (.full b.val), .int .u32 (.full c.val)]])) = (
  SI.val b = SI.val b ∧ SI.val c = SI.val c) := by kernel_rfl
theorem runpsub (gl : List (Nat × SVal)) (b : Int) (c : Int) : (Tr.sat (plainQ (.int .u32 (.full (aluW 4 b c)))) (run (env gl []) [] (bodyOf Tryz.f133) (start [.agg [.int .u32 (.full b), .int .u32 (.full c)]] 8) (ends (env gl []) Tryz.f133.results.toList))) = (
  IntKind.wrap IntKind.u32 (b - c) = aluW (4 : Int) b c) := by kernel_rfl
theorem cpsub : Con ea has gl 133 kpsub := by
  refine plain_mkB Tryz.func133 8 (con := []) trivial (fun hA hr hv => ?_) (by kernel_rfl) (by kernel_rfl) Tryz.ntmps133
  unfold kpsub at hr; split at hr
  · rename_i b c
    have := ret_ok hr; subst this
    refine ⟨_, [], rfl, rfl, .of (argpsub b c) (by simp), rfl, (fun W R ρ0 own0 hown => noSums (by kernel_rfl)), .of (runpsub gl b.val c.val) ?_⟩
    clear hr
    generalize b.val = b
    generalize c.val = c
    try simp only [aluW, w32, bits32]
    first | rfl | (simp; done) | (refine ⟨by omega, fun _ => ?_⟩; simp; done) | (by_cases h : b < c <;> simp [h]; done) | (by_cases h : b = c <;> simp [h]; done)
  · cases hr
def kpboth : List SVal → Nat → Acc ORes := fun a n => match a with | [.agg [.int .u32 b, .int .u32 c]] => .ret ({ v := .int .u32 (.full (aluW 5 b.val c.val)) }) | _ => .fail "pboth"
theorem argpboth (b c : SI) : (all (subL tAtN none' [] deep [.agg [.int .u32 b, .int .u32 c]] [.agg [.int .u32 (.full b.val), .int .u32 (.full c.val)]])) = (
  SI.val b = SI.val b ∧ SI.val c = SI.val c) := by kernel_rfl
theorem runpboth (gl : List (Nat × SVal)) (b : Int) (c : Int) : (Tr.sat (plainQ (.int .u32 (.full (aluW 5 b c)))) (run (env gl []) [] (bodyOf Tryz.f134) (start [.agg [.int .u32 (.full b), .int .u32 (.full c)]] 8) (ends (env gl []) Tryz.f134.results.toList))) = (
  bits BinOp.and IntKind.u32 b c = aluW (5 : Int) b c) := by kernel_rfl
theorem cpboth : Con ea has gl 134 kpboth := by
  refine plain_mkB Tryz.func134 8 (con := []) trivial (fun hA hr hv => ?_) (by kernel_rfl) (by kernel_rfl) Tryz.ntmps134
  unfold kpboth at hr; split at hr
  · rename_i b c
    have := ret_ok hr; subst this
    refine ⟨_, [], rfl, rfl, .of (argpboth b c) (by simp), rfl, (fun W R ρ0 own0 hown => noSums (by kernel_rfl)), .of (runpboth gl b.val c.val) ?_⟩
    clear hr
    generalize b.val = b
    generalize c.val = c
    try simp only [aluW, w32, bits32]
    first | rfl | (simp; done) | (refine ⟨by omega, fun _ => ?_⟩; simp; done) | (by_cases h : b < c <;> simp [h]; done) | (by_cases h : b = c <;> simp [h]; done)
  · cases hr
def kpeither : List SVal → Nat → Acc ORes := fun a n => match a with | [.agg [.int .u32 b, .int .u32 c]] => .ret ({ v := .int .u32 (.full (aluW 6 b.val c.val)) }) | _ => .fail "peither"
theorem argpeither (b c : SI) : (all (subL tAtN none' [] deep [.agg [.int .u32 b, .int .u32 c]] [.agg [.int .u32 (.full b.val), .int .u32 (.full c.val)]])) = (
  SI.val b = SI.val b ∧ SI.val c = SI.val c) := by kernel_rfl
theorem runpeither (gl : List (Nat × SVal)) (b : Int) (c : Int) : (Tr.sat (plainQ (.int .u32 (.full (aluW 6 b c)))) (run (env gl []) [] (bodyOf Tryz.f135) (start [.agg [.int .u32 (.full b), .int .u32 (.full c)]] 8) (ends (env gl []) Tryz.f135.results.toList))) = (
  bits BinOp.or IntKind.u32 b c = aluW (6 : Int) b c) := by kernel_rfl
theorem cpeither : Con ea has gl 135 kpeither := by
  refine plain_mkB Tryz.func135 8 (con := []) trivial (fun hA hr hv => ?_) (by kernel_rfl) (by kernel_rfl) Tryz.ntmps135
  unfold kpeither at hr; split at hr
  · rename_i b c
    have := ret_ok hr; subst this
    refine ⟨_, [], rfl, rfl, .of (argpeither b c) (by simp), rfl, (fun W R ρ0 own0 hown => noSums (by kernel_rfl)), .of (runpeither gl b.val c.val) ?_⟩
    clear hr
    generalize b.val = b
    generalize c.val = c
    try simp only [aluW, w32, bits32]
    first | rfl | (simp; done) | (refine ⟨by omega, fun _ => ?_⟩; simp; done) | (by_cases h : b < c <;> simp [h]; done) | (by_cases h : b = c <;> simp [h]; done)
  · cases hr
def kpunlike : List SVal → Nat → Acc ORes := fun a n => match a with | [.agg [.int .u32 b, .int .u32 c]] => .ret ({ v := .int .u32 (.full (aluW 7 b.val c.val)) }) | _ => .fail "punlike"
theorem argpunlike (b c : SI) : (all (subL tAtN none' [] deep [.agg [.int .u32 b, .int .u32 c]] [.agg [.int .u32 (.full b.val), .int .u32 (.full c.val)]])) = (
  SI.val b = SI.val b ∧ SI.val c = SI.val c) := by kernel_rfl
theorem runpunlike (gl : List (Nat × SVal)) (b : Int) (c : Int) : (Tr.sat (plainQ (.int .u32 (.full (aluW 7 b c)))) (run (env gl []) [] (bodyOf Tryz.f136) (start [.agg [.int .u32 (.full b), .int .u32 (.full c)]] 8) (ends (env gl []) Tryz.f136.results.toList))) = (
  bits BinOp.xor IntKind.u32 b c = aluW (7 : Int) b c) := by kernel_rfl
theorem cpunlike : Con ea has gl 136 kpunlike := by
  refine plain_mkB Tryz.func136 8 (con := []) trivial (fun hA hr hv => ?_) (by kernel_rfl) (by kernel_rfl) Tryz.ntmps136
  unfold kpunlike at hr; split at hr
  · rename_i b c
    have := ret_ok hr; subst this
    refine ⟨_, [], rfl, rfl, .of (argpunlike b c) (by simp), rfl, (fun W R ρ0 own0 hown => noSums (by kernel_rfl)), .of (runpunlike gl b.val c.val) ?_⟩
    clear hr
    generalize b.val = b
    generalize c.val = c
    try simp only [aluW, w32, bits32]
    first | rfl | (simp; done) | (refine ⟨by omega, fun _ => ?_⟩; simp; done) | (by_cases h : b < c <;> simp [h]; done) | (by_cases h : b = c <;> simp [h]; done)
  · cases hr
def kpup : List SVal → Nat → Acc ORes := fun a n => match a with | [.agg [.int .u32 b, .int .u32 c]] => .ret ({ v := .int .u32 (.full (aluW 8 b.val c.val)) }) | _ => .fail "pup"
theorem argpup (b c : SI) : (all (subL tAtN none' [] deep [.agg [.int .u32 b, .int .u32 c]] [.agg [.int .u32 (.full b.val), .int .u32 (.full c.val)]])) = (
  SI.val b = SI.val b ∧ SI.val c = SI.val c) := by kernel_rfl
theorem runpup (gl : List (Nat × SVal)) (b : Int) (c : Int) : (Tr.sat (plainQ (.int .u32 (.full (aluW 8 b c)))) (run (env gl []) [] (bodyOf Tryz.f137) (start [.agg [.int .u32 (.full b), .int .u32 (.full c)]] 9) (ends (env gl []) Tryz.f137.results.toList))) = (
  RQ (0 ≤ c % 32) (IntKind.wrap IntKind.u32 (b * (2 : Int) ^ min (Int.toNat (c % 32)) (IntKind.bits IntKind.u32)) = aluW (8 : Int) b c)) := by kernel_rfl
theorem cpup : Con ea has gl 137 kpup := by
  refine plain_mkB Tryz.func137 9 (con := []) trivial (fun hA hr hv => ?_) (by kernel_rfl) (by kernel_rfl) Tryz.ntmps137
  unfold kpup at hr; split at hr
  · rename_i b c
    have := ret_ok hr; subst this
    refine ⟨_, [], rfl, rfl, .of (argpup b c) (by simp), rfl, (fun W R ρ0 own0 hown => noSums (by kernel_rfl)), .of (runpup gl b.val c.val) ?_⟩
    delta RQ
    clear hr
    generalize b.val = b
    generalize c.val = c
    try simp only [aluW, w32, bits32]
    first | rfl | (simp; done) | (refine ⟨by omega, fun _ => ?_⟩; simp; done) | (by_cases h : b < c <;> simp [h]; done) | (by_cases h : b = c <;> simp [h]; done)
  · cases hr
def kpdown : List SVal → Nat → Acc ORes := fun a n => match a with | [.agg [.int .u32 b, .int .u32 c]] => .ret ({ v := .int .u32 (.full (aluW 9 b.val c.val)) }) | _ => .fail "pdown"
theorem argpdown (b c : SI) : (all (subL tAtN none' [] deep [.agg [.int .u32 b, .int .u32 c]] [.agg [.int .u32 (.full b.val), .int .u32 (.full c.val)]])) = (
  SI.val b = SI.val b ∧ SI.val c = SI.val c) := by kernel_rfl
theorem runpdown (gl : List (Nat × SVal)) (b : Int) (c : Int) : (Tr.sat (plainQ (.int .u32 (.full (aluW 9 b c)))) (run (env gl []) [] (bodyOf Tryz.f138) (start [.agg [.int .u32 (.full b), .int .u32 (.full c)]] 9) (ends (env gl []) Tryz.f138.results.toList))) = (
  RQ (0 ≤ c % 32) (b / (2 : Int) ^ min (Int.toNat (c % 32)) (IntKind.bits IntKind.u32) = aluW (9 : Int) b c)) := by kernel_rfl
theorem cpdown : Con ea has gl 138 kpdown := by
  refine plain_mkB Tryz.func138 9 (con := []) trivial (fun hA hr hv => ?_) (by kernel_rfl) (by kernel_rfl) Tryz.ntmps138
  unfold kpdown at hr; split at hr
  · rename_i b c
    have := ret_ok hr; subst this
    refine ⟨_, [], rfl, rfl, .of (argpdown b c) (by simp), rfl, (fun W R ρ0 own0 hown => noSums (by kernel_rfl)), .of (runpdown gl b.val c.val) ?_⟩
    delta RQ
    clear hr
    generalize b.val = b
    generalize c.val = c
    try simp only [aluW, w32, bits32]
    first | rfl | (simp; done) | (refine ⟨by omega, fun _ => ?_⟩; simp; done) | (by_cases h : b < c <;> simp [h]; done) | (by_cases h : b = c <;> simp [h]; done)
  · cases hr
def kpless : List SVal → Nat → Acc ORes := fun a n => match a with | [.agg [.int .u32 b, .int .u32 c]] => .ret ({ v := .int .u32 (.full (aluW 10 b.val c.val)) }) | _ => .fail "pless"
theorem argpless (b c : SI) : (all (subL tAtN none' [] deep [.agg [.int .u32 b, .int .u32 c]] [.agg [.int .u32 (.full b.val), .int .u32 (.full c.val)]])) = (
  SI.val b = SI.val b ∧ SI.val c = SI.val c) := by kernel_rfl
theorem runpless (gl : List (Nat × SVal)) (b : Int) (c : Int) : (Tr.sat (plainQ (.int .u32 (.full (aluW 10 b c)))) (run (env gl []) [] (bodyOf Tryz.f139) (start [.agg [.int .u32 (.full b), .int .u32 (.full c)]] 8) (ends (env gl []) Tryz.f139.results.toList))) = (
  IT (decide (b < c)) ((1 : Int) = aluW (10 : Int) b c) ((0 : Int) = aluW (10 : Int) b c)) := by kernel_rfl
theorem cpless : Con ea has gl 139 kpless := by
  refine plain_mkB Tryz.func139 8 (con := []) trivial (fun hA hr hv => ?_) (by kernel_rfl) (by kernel_rfl) Tryz.ntmps139
  unfold kpless at hr; split at hr
  · rename_i b c
    have := ret_ok hr; subst this
    refine ⟨_, [], rfl, rfl, .of (argpless b c) (by simp), rfl, (fun W R ρ0 own0 hown => noSums (by kernel_rfl)), .of (runpless gl b.val c.val) ?_⟩
    delta IT
    clear hr
    generalize b.val = b
    generalize c.val = c
    try simp only [aluW, w32, bits32]
    first | rfl | (simp; done) | (refine ⟨by omega, fun _ => ?_⟩; simp; done) | (by_cases h : b < c <;> simp [h]; done) | (by_cases h : b = c <;> simp [h]; done)
  · cases hr
def kpsame : List SVal → Nat → Acc ORes := fun a n => match a with | [.agg [.int .u32 b, .int .u32 c]] => .ret ({ v := .int .u32 (.full (aluW 11 b.val c.val)) }) | _ => .fail "psame"
theorem argpsame (b c : SI) : (all (subL tAtN none' [] deep [.agg [.int .u32 b, .int .u32 c]] [.agg [.int .u32 (.full b.val), .int .u32 (.full c.val)]])) = (
  SI.val b = SI.val b ∧ SI.val c = SI.val c) := by kernel_rfl
theorem runpsame (gl : List (Nat × SVal)) (b : Int) (c : Int) : (Tr.sat (plainQ (.int .u32 (.full (aluW 11 b c)))) (run (env gl []) [] (bodyOf Tryz.f140) (start [.agg [.int .u32 (.full b), .int .u32 (.full c)]] 8) (ends (env gl []) Tryz.f140.results.toList))) = (
  IT (decide (b = c)) ((1 : Int) = aluW (11 : Int) b c) ((0 : Int) = aluW (11 : Int) b c)) := by kernel_rfl
theorem cpsame : Con ea has gl 140 kpsame := by
  refine plain_mkB Tryz.func140 8 (con := []) trivial (fun hA hr hv => ?_) (by kernel_rfl) (by kernel_rfl) Tryz.ntmps140
  unfold kpsame at hr; split at hr
  · rename_i b c
    have := ret_ok hr; subst this
    refine ⟨_, [], rfl, rfl, .of (argpsame b c) (by simp), rfl, (fun W R ρ0 own0 hown => noSums (by kernel_rfl)), .of (runpsame gl b.val c.val) ?_⟩
    delta IT
    clear hr
    generalize b.val = b
    generalize c.val = c
    try simp only [aluW, w32, bits32]
    first | rfl | (simp; done) | (refine ⟨by omega, fun _ => ?_⟩; simp; done) | (by_cases h : b < c <;> simp [h]; done) | (by_cases h : b = c <;> simp [h]; done)
  · cases hr
def kpmul : List SVal → Nat → Acc ORes := fun a n => match a with | [.agg [.int .u32 b, .int .u32 c]] => .ret ({ v := .int .u32 (.full (aluW 24 b.val c.val)) }) | _ => .fail "pmul"
theorem argpmul (b c : SI) : (all (subL tAtN none' [] deep [.agg [.int .u32 b, .int .u32 c]] [.agg [.int .u32 (.full b.val), .int .u32 (.full c.val)]])) = (
  SI.val b = SI.val b ∧ SI.val c = SI.val c) := by kernel_rfl
theorem runpmul (gl : List (Nat × SVal)) (b : Int) (c : Int) : (Tr.sat (plainQ (.int .u32 (.full (aluW 24 b c)))) (run (env gl []) [] (bodyOf Tryz.f141) (start [.agg [.int .u32 (.full b), .int .u32 (.full c)]] 8) (ends (env gl []) Tryz.f141.results.toList))) = (
  IntKind.wrap IntKind.u32 (b * c) = aluW (24 : Int) b c) := by kernel_rfl
theorem cpmul : Con ea has gl 141 kpmul := by
  refine plain_mkB Tryz.func141 8 (con := []) trivial (fun hA hr hv => ?_) (by kernel_rfl) (by kernel_rfl) Tryz.ntmps141
  unfold kpmul at hr; split at hr
  · rename_i b c
    have := ret_ok hr; subst this
    refine ⟨_, [], rfl, rfl, .of (argpmul b c) (by simp), rfl, (fun W R ρ0 own0 hown => noSums (by kernel_rfl)), .of (runpmul gl b.val c.val) ?_⟩
    clear hr
    generalize b.val = b
    generalize c.val = c
    try simp only [aluW, w32, bits32]
    first | rfl | (simp; done) | (refine ⟨by omega, fun _ => ?_⟩; simp; done) | (by_cases h : b < c <;> simp [h]; done) | (by_cases h : b = c <;> simp [h]; done)
  · cases hr
end
end Go.Proofs.YtpjccdncokamlaaGreatDoor

