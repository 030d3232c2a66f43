/- Contracts that the proofs use. -/
import Derived.Test.YtpjccdncokamlaaDoorQFnRef1
import Derived.Test.YtpjccdncokamlaaDoorQFnMem
import Derived.Test.YtpjccdncokamlaaDoorQCoreM
set_option linter.unusedVariables false
set_option linter.unusedSimpArgs false
namespace Go.Proofs.YtpjccdncokamlaaDoor
open Go.RowKit Go.Sy Go.Fac
section
variable {ea : Ear} {has : Int → Prop} {gl : List (Nat × SVal)}
theorem bits32 : IntKind.bits IntKind.u32 = 32 := rfl
def kaTaken : List SVal → Nat → Acc ORes := fun a n => match a with | [.agg [.int .i64 op, .int .i64 a, .int .i64 b, .int .i64 c, .int .u32 imm], .arr .u32 16 x] => .ret ({ v := .tuple [.bool (.sym (tkB (⟨op.val, a.val, b.val, c.val, imm.val⟩ : In5) x)), .bool (.sym (tkOk (⟨op.val, a.val, b.val, c.val, imm.val⟩ : In5)))] }) | _ => .fail "aTaken"
theorem argaTaken (op a b c imm : SI) (x : List Int) : (all (subL tAtN none' [] deep [.agg [.int .i64 op, .int .i64 a, .int .i64 b, .int .i64 c, .int .u32 imm], .arr .u32 16 x] [.agg (⟨op.val, a.val, b.val, c.val, imm.val⟩ : In5).enc, .arr .u32 16 x])) = (
  SI.val op = SI.val op ∧ SI.val a = SI.val a ∧ SI.val b = SI.val b ∧ SI.val c = SI.val c ∧ SI.val imm = SI.val imm ∧ x = x) := by kernel_rfl
theorem runaTaken (gl : List (Nat × SVal)) (i : In5) (r : List Int) : (Tr.sat (plainQ (.tuple [.bool (.sym (tkB i r)), .bool (.sym (tkOk i))])) (run (env gl [(51, kTables), (72, kiJumps), (69, kWord)]) [] (bodyOf Tryd.f62) (start [.agg i.enc, .arr .u32 16 r] 43) (ends (env gl [(51, kTables), (72, kiJumps), (69, kWord)]) Tryd.f62.results.toList))) = (
  ((!wordOk i.op i.a i.b i.c i.imm || !isaJumps i.op) = true → false = tkB i r ∧ false = tkOk i) ∧ ((!wordOk i.op i.a i.b i.c i.imm || !isaJumps i.op) = false → (decide (i.op = (17 : Int)) = true → ((0 : Int) ≤ i.a ∧ i.a < (↑(16 : Nat) : Int)) ∧ ((0 : Int) ≤ i.a ∧ i.a < (↑(16 : Nat) : Int) → decide (List.getD r (Int.toNat i.a) (RT.dflt RT.u32) = (0 : Int)) = tkB i r ∧ true = tkOk i)) ∧ (decide (i.op = (17 : Int)) = false → (decide (i.op = (20 : Int)) = true → ((0 : Int) ≤ i.a ∧ i.a < (↑(16 : Nat) : Int)) ∧ ((0 : Int) ≤ i.a ∧ i.a < (↑(16 : Nat) : Int) → decide (List.getD r (Int.toNat i.a) (RT.dflt RT.u32) = (0 : Int)) = tkB i r ∧ true = tkOk i)) ∧ (decide (i.op = (20 : Int)) = false → (decide (i.op = (18 : Int)) = true → ((0 : Int) ≤ i.a ∧ i.a < (↑(16 : Nat) : Int)) ∧ ((0 : Int) ≤ i.a ∧ i.a < (↑(16 : Nat) : Int) → (!decide (List.getD r (Int.toNat i.a) (RT.dflt RT.u32) = (0 : Int))) = tkB i r ∧ true = tkOk i)) ∧ (decide (i.op = (18 : Int)) = false → (decide (i.op = (21 : Int)) = true → ((0 : Int) ≤ i.a ∧ i.a < (↑(16 : Nat) : Int)) ∧ ((0 : Int) ≤ i.a ∧ i.a < (↑(16 : Nat) : Int) → (!decide (List.getD r (Int.toNat i.a) (RT.dflt RT.u32) = (0 : Int))) = tkB i r ∧ true = tkOk i)) ∧ (decide (i.op = (21 : Int)) = false → true = tkB i r ∧ true = tkOk i)))))) := by kernel_rfl
set_option maxHeartbeats 4000000 in
theorem gaTaken (i : In5) (r : List Int)  : Box (Tr.sat (plainQ (.tuple [.bool (.sym (tkB i r)), .bool (.sym (tkOk i))])) (run (env gl [(51, kTables), (72, kiJumps), (69, kWord)]) [] (bodyOf Tryd.f62) (start [.agg i.enc, .arr .u32 16 r] 43) (ends (env gl [(51, kTables), (72, kiJumps), (69, kWord)]) Tryd.f62.results.toList))) := by
  refine .of (runaTaken gl i r) ?_
  have e : (!wordOk i.op i.a i.b i.c i.imm || !isaJumps i.op) = !tkOk i := by unfold tkOk In5.ok; rw [Bool.not_and]
  rw [e]
  have d0 : RT.u32.dflt = (0 : Int) := rfl
  refine ⟨fun h => ?_, fun h => ?_⟩
  · simp at h; simp [tkB, h]
  · simp at h
    have hw := h; unfold tkOk In5.ok at hw; rw [Bool.and_eq_true] at hw
    have rng := (word_rng hw.1).1
    clear hw e
    repeat' (first | (with_reducible intro _) | (with_reducible apply And.intro))
    all_goals first | omega | (simp_all [tkB, rg]; done)
set_option maxHeartbeats 4000000 in
theorem caTaken : Con ea has gl 62 kaTaken := by
  refine plain_mkB Tryd.func62 43 (con := [(51, kTables), (72, kiJumps), (69, kWord)]) ⟨cTables, ciJumps, cWord, trivial⟩ (fun hA hr hv => ?_) (by kernel_rfl) (by kernel_rfl) Tryd.ntmps62
  unfold kaTaken at hr; split at hr
  · rename_i op a b c imm x
    have := ret_ok hr; subst this
    exact ⟨_, [], rfl, rfl, .of (argaTaken op a b c imm x) (by simp), rfl, (fun W R ρ0 own0 hown => noSums (by kernel_rfl)), gaTaken ⟨op.val, a.val, b.val, c.val, imm.val⟩ x ⟩
  · cases hr
def kpfirst : List SVal → Nat → Acc ORes := fun a n => match a with | [.agg [.int .u32 b, .int .u32 c]] => .ret ({ v := .int .u32 (.full (aluW 2 b.val c.val)) }) | _ => .fail "pfirst"
theorem argpfirst (b c : SI) : (all (subL tAtN none' [] deep [.agg [.int .u32 b, .int .u32 c]] [.agg [.int .u32 (.full b.val), .int .u32 (.full c.val)]])) = (
  SI.val b = SI.val b ∧ SI.val c = SI.val c) := by kernel_rfl
theorem runpfirst (gl : List (Nat × SVal)) (b : Int) (c : Int) : (Tr.sat (plainQ (.int .u32 (.full (aluW 2 b c)))) (run (env gl []) [] (bodyOf Tryd.f84) (start [.agg [.int .u32 (.full b), .int .u32 (.full c)]] 5) (ends (env gl []) Tryd.f84.results.toList))) = (
  b = aluW (2 : Int) b c) := by kernel_rfl
set_option maxHeartbeats 4000000 in
theorem cpfirst : Con ea has gl 84 kpfirst := by
  refine plain_mkB Tryd.func84 5 (con := []) trivial (fun hA hr hv => ?_) (by kernel_rfl) (by kernel_rfl) Tryd.ntmps84
  unfold kpfirst at hr; split at hr
  · rename_i b c
    have := ret_ok hr; subst this
    refine ⟨_, [], rfl, rfl, .of (argpfirst b c) (by simp), rfl, (fun W R ρ0 own0 hown => noSums (by kernel_rfl)), .of (runpfirst gl b.val c.val) ?_⟩
    clear hr
    generalize b.val = b
    generalize c.val = c
    try simp only [aluW, w32, bits32]
    first | rfl | (simp; done) | (refine ⟨by omega, fun _ => ?_⟩; simp; done) | (by_cases h : b < c <;> simp [h]; done) | (by_cases h : b = c <;> simp [h]; done)
  · cases hr
def kpadd : List SVal → Nat → Acc ORes := fun a n => match a with | [.agg [.int .u32 b, .int .u32 c]] => .ret ({ v := .int .u32 (.full (aluW 3 b.val c.val)) }) | _ => .fail "padd"
theorem argpadd (b c : SI) : (all (subL tAtN none' [] deep [.agg [.int .u32 b, .int .u32 c]] [.agg [.int .u32 (.full b.val), .int .u32 (.full c.val)]])) = (
  SI.val b = SI.val b ∧ SI.val c = SI.val c) := by kernel_rfl
theorem runpadd (gl : List (Nat × SVal)) (b : Int) (c : Int) : (Tr.sat (plainQ (.int .u32 (.full (aluW 3 b c)))) (run (env gl []) [] (bodyOf Tryd.f85) (start [.agg [.int .u32 (.full b), .int .u32 (.full c)]] 8) (ends (env gl []) Tryd.f85.results.toList))) = (
  IntKind.wrap IntKind.u32 (b + c) = aluW (3 : Int) b c) := by kernel_rfl
set_option maxHeartbeats 4000000 in
theorem cpadd : Con ea has gl 85 kpadd := by
  refine plain_mkB Tryd.func85 8 (con := []) trivial (fun hA hr hv => ?_) (by kernel_rfl) (by kernel_rfl) Tryd.ntmps85
  unfold kpadd at hr; split at hr
  · rename_i b c
    have := ret_ok hr; subst this
    refine ⟨_, [], rfl, rfl, .of (argpadd b c) (by simp), rfl, (fun W R ρ0 own0 hown => noSums (by kernel_rfl)), .of (runpadd gl b.val c.val) ?_⟩
    clear hr
    generalize b.val = b
    generalize c.val = c
    try simp only [aluW, w32, bits32]
    first | rfl | (simp; done) | (refine ⟨by omega, fun _ => ?_⟩; simp; done) | (by_cases h : b < c <;> simp [h]; done) | (by_cases h : b = c <;> simp [h]; done)
  · cases hr
def kpsub : List SVal → Nat → Acc ORes := fun a n => match a with | [.agg [.int .u32 b, .int .u32 c]] => .ret ({ v := .int .u32 (.full (aluW 4 b.val c.val)) }) | _ => .fail "psub"
theorem argpsub (b c : SI) : (all (subL tAtN none' [] deep [.agg [.int .u32 b, .int .u32 c]] [.agg [.int .u32 (.full b.val), .int .u32 (.full c.val)]])) = (
  SI.val b = SI.val b ∧ SI.val c = SI.val c) := by kernel_rfl
theorem runpsub (gl : List (Nat × SVal)) (b : Int) (c : Int) : (Tr.sat (plainQ (.int .u32 (.full (aluW 4 b c)))) (run (env gl []) [] (bodyOf Tryd.f86) (start [.agg [.int .u32 (.full b), .int .u32 (.full c)]] 8) (ends (env gl []) Tryd.f86.results.toList))) = (
  IntKind.wrap IntKind.u32 (b - c) = aluW (4 : Int) b c) := by kernel_rfl
set_option maxHeartbeats 4000000 in
theorem cpsub : Con ea has gl 86 kpsub := by
  refine plain_mkB Tryd.func86 8 (con := []) trivial (fun hA hr hv => ?_) (by kernel_rfl) (by kernel_rfl) Tryd.ntmps86
  unfold kpsub at hr; split at hr
  · rename_i b c
    have := ret_ok hr; subst this
    refine ⟨_, [], rfl, rfl, .of (argpsub b c) (by simp), rfl, (fun W R ρ0 own0 hown => noSums (by kernel_rfl)), .of (runpsub gl b.val c.val) ?_⟩
    clear hr
    generalize b.val = b
    generalize c.val = c
    try simp only [aluW, w32, bits32]
    first | rfl | (simp; done) | (refine ⟨by omega, fun _ => ?_⟩; simp; done) | (by_cases h : b < c <;> simp [h]; done) | (by_cases h : b = c <;> simp [h]; done)
  · cases hr
def kpboth : List SVal → Nat → Acc ORes := fun a n => match a with | [.agg [.int .u32 b, .int .u32 c]] => .ret ({ v := .int .u32 (.full (aluW 5 b.val c.val)) }) | _ => .fail "pboth"
theorem argpboth (b c : SI) : (all (subL tAtN none' [] deep [.agg [.int .u32 b, .int .u32 c]] [.agg [.int .u32 (.full b.val), .int .u32 (.full c.val)]])) = (
  SI.val b = SI.val b ∧ SI.val c = SI.val c) := by kernel_rfl
theorem runpboth (gl : List (Nat × SVal)) (b : Int) (c : Int) : (Tr.sat (plainQ (.int .u32 (.full (aluW 5 b c)))) (run (env gl []) [] (bodyOf Tryd.f87) (start [.agg [.int .u32 (.full b), .int .u32 (.full c)]] 8) (ends (env gl []) Tryd.f87.results.toList))) = (
  bits BinOp.and IntKind.u32 b c = aluW (5 : Int) b c) := by kernel_rfl
set_option maxHeartbeats 4000000 in
theorem cpboth : Con ea has gl 87 kpboth := by
  refine plain_mkB Tryd.func87 8 (con := []) trivial (fun hA hr hv => ?_) (by kernel_rfl) (by kernel_rfl) Tryd.ntmps87
  unfold kpboth at hr; split at hr
  · rename_i b c
    have := ret_ok hr; subst this
    refine ⟨_, [], rfl, rfl, .of (argpboth b c) (by simp), rfl, (fun W R ρ0 own0 hown => noSums (by kernel_rfl)), .of (runpboth gl b.val c.val) ?_⟩
    clear hr
    generalize b.val = b
    generalize c.val = c
    try simp only [aluW, w32, bits32]
    first | rfl | (simp; done) | (refine ⟨by omega, fun _ => ?_⟩; simp; done) | (by_cases h : b < c <;> simp [h]; done) | (by_cases h : b = c <;> simp [h]; done)
  · cases hr
def kpeither : List SVal → Nat → Acc ORes := fun a n => match a with | [.agg [.int .u32 b, .int .u32 c]] => .ret ({ v := .int .u32 (.full (aluW 6 b.val c.val)) }) | _ => .fail "peither"
theorem argpeither (b c : SI) : (all (subL tAtN none' [] deep [.agg [.int .u32 b, .int .u32 c]] [.agg [.int .u32 (.full b.val), .int .u32 (.full c.val)]])) = (
  SI.val b = SI.val b ∧ SI.val c = SI.val c) := by kernel_rfl
theorem runpeither (gl : List (Nat × SVal)) (b : Int) (c : Int) : (Tr.sat (plainQ (.int .u32 (.full (aluW 6 b c)))) (run (env gl []) [] (bodyOf Tryd.f88) (start [.agg [.int .u32 (.full b), .int .u32 (.full c)]] 8) (ends (env gl []) Tryd.f88.results.toList))) = (
  bits BinOp.or IntKind.u32 b c = aluW (6 : Int) b c) := by kernel_rfl
set_option maxHeartbeats 4000000 in
theorem cpeither : Con ea has gl 88 kpeither := by
  refine plain_mkB Tryd.func88 8 (con := []) trivial (fun hA hr hv => ?_) (by kernel_rfl) (by kernel_rfl) Tryd.ntmps88
  unfold kpeither at hr; split at hr
  · rename_i b c
    have := ret_ok hr; subst this
    refine ⟨_, [], rfl, rfl, .of (argpeither b c) (by simp), rfl, (fun W R ρ0 own0 hown => noSums (by kernel_rfl)), .of (runpeither gl b.val c.val) ?_⟩
    clear hr
    generalize b.val = b
    generalize c.val = c
    try simp only [aluW, w32, bits32]
    first | rfl | (simp; done) | (refine ⟨by omega, fun _ => ?_⟩; simp; done) | (by_cases h : b < c <;> simp [h]; done) | (by_cases h : b = c <;> simp [h]; done)
  · cases hr
def kpunlike : List SVal → Nat → Acc ORes := fun a n => match a with | [.agg [.int .u32 b, .int .u32 c]] => .ret ({ v := .int .u32 (.full (aluW 7 b.val c.val)) }) | _ => .fail "punlike"
theorem argpunlike (b c : SI) : (all (subL tAtN none' [] deep [.agg [.int .u32 b, .int .u32 c]] [.agg [.int .u32 (.full b.val), .int .u32 (.full c.val)]])) = (
  SI.val b = SI.val b ∧ SI.val c = SI.val c) := by kernel_rfl
theorem runpunlike (gl : List (Nat × SVal)) (b : Int) (c : Int) : (Tr.sat (plainQ (.int .u32 (.full (aluW 7 b c)))) (run (env gl []) [] (bodyOf Tryd.f89) (start [.agg [.int .u32 (.full b), .int .u32 (.full c)]] 8) (ends (env gl []) Tryd.f89.results.toList))) = (
  bits BinOp.xor IntKind.u32 b c = aluW (7 : Int) b c) := by kernel_rfl
set_option maxHeartbeats 4000000 in
theorem cpunlike : Con ea has gl 89 kpunlike := by
  refine plain_mkB Tryd.func89 8 (con := []) trivial (fun hA hr hv => ?_) (by kernel_rfl) (by kernel_rfl) Tryd.ntmps89
  unfold kpunlike at hr; split at hr
  · rename_i b c
    have := ret_ok hr; subst this
    refine ⟨_, [], rfl, rfl, .of (argpunlike b c) (by simp), rfl, (fun W R ρ0 own0 hown => noSums (by kernel_rfl)), .of (runpunlike gl b.val c.val) ?_⟩
    clear hr
    generalize b.val = b
    generalize c.val = c
    try simp only [aluW, w32, bits32]
    first | rfl | (simp; done) | (refine ⟨by omega, fun _ => ?_⟩; simp; done) | (by_cases h : b < c <;> simp [h]; done) | (by_cases h : b = c <;> simp [h]; done)
  · cases hr
def kpup : List SVal → Nat → Acc ORes := fun a n => match a with | [.agg [.int .u32 b, .int .u32 c]] => .ret ({ v := .int .u32 (.full (aluW 8 b.val c.val)) }) | _ => .fail "pup"
theorem argpup (b c : SI) : (all (subL tAtN none' [] deep [.agg [.int .u32 b, .int .u32 c]] [.agg [.int .u32 (.full b.val), .int .u32 (.full c.val)]])) = (
  SI.val b = SI.val b ∧ SI.val c = SI.val c) := by kernel_rfl
theorem runpup (gl : List (Nat × SVal)) (b : Int) (c : Int) : (Tr.sat (plainQ (.int .u32 (.full (aluW 8 b c)))) (run (env gl []) [] (bodyOf Tryd.f90) (start [.agg [.int .u32 (.full b), .int .u32 (.full c)]] 9) (ends (env gl []) Tryd.f90.results.toList))) = (
  (0 : Int) ≤ c % (32 : Int) ∧ ((0 : Int) ≤ c % (32 : Int) → IntKind.wrap IntKind.u32 (b * (2 : Int) ^ min (Int.toNat (c % (32 : Int))) (IntKind.bits IntKind.u32)) = aluW (8 : Int) b c)) := by kernel_rfl
set_option maxHeartbeats 4000000 in
theorem cpup : Con ea has gl 90 kpup := by
  refine plain_mkB Tryd.func90 9 (con := []) trivial (fun hA hr hv => ?_) (by kernel_rfl) (by kernel_rfl) Tryd.ntmps90
  unfold kpup at hr; split at hr
  · rename_i b c
    have := ret_ok hr; subst this
    refine ⟨_, [], rfl, rfl, .of (argpup b c) (by simp), rfl, (fun W R ρ0 own0 hown => noSums (by kernel_rfl)), .of (runpup gl b.val c.val) ?_⟩
    clear hr
    generalize b.val = b
    generalize c.val = c
    try simp only [aluW, w32, bits32]
    first | rfl | (simp; done) | (refine ⟨by omega, fun _ => ?_⟩; simp; done) | (by_cases h : b < c <;> simp [h]; done) | (by_cases h : b = c <;> simp [h]; done)
  · cases hr
def kpdown : List SVal → Nat → Acc ORes := fun a n => match a with | [.agg [.int .u32 b, .int .u32 c]] => .ret ({ v := .int .u32 (.full (aluW 9 b.val c.val)) }) | _ => .fail "pdown"
theorem argpdown (b c : SI) : (all (subL tAtN none' [] deep [.agg [.int .u32 b, .int .u32 c]] [.agg [.int .u32 (.full b.val), .int .u32 (.full c.val)]])) = (
  SI.val b = SI.val b ∧ SI.val c = SI.val c) := by kernel_rfl
theorem runpdown (gl : List (Nat × SVal)) (b : Int) (c : Int) : (Tr.sat (plainQ (.int .u32 (.full (aluW 9 b c)))) (run (env gl []) [] (bodyOf Tryd.f91) (start [.agg [.int .u32 (.full b), .int .u32 (.full c)]] 9) (ends (env gl []) Tryd.f91.results.toList))) = (
  (0 : Int) ≤ c % (32 : Int) ∧ ((0 : Int) ≤ c % (32 : Int) → b / (2 : Int) ^ min (Int.toNat (c % (32 : Int))) (IntKind.bits IntKind.u32) = aluW (9 : Int) b c)) := by kernel_rfl
set_option maxHeartbeats 4000000 in
theorem cpdown : Con ea has gl 91 kpdown := by
  refine plain_mkB Tryd.func91 9 (con := []) trivial (fun hA hr hv => ?_) (by kernel_rfl) (by kernel_rfl) Tryd.ntmps91
  unfold kpdown at hr; split at hr
  · rename_i b c
    have := ret_ok hr; subst this
    refine ⟨_, [], rfl, rfl, .of (argpdown b c) (by simp), rfl, (fun W R ρ0 own0 hown => noSums (by kernel_rfl)), .of (runpdown gl b.val c.val) ?_⟩
    clear hr
    generalize b.val = b
    generalize c.val = c
    try simp only [aluW, w32, bits32]
    first | rfl | (simp; done) | (refine ⟨by omega, fun _ => ?_⟩; simp; done) | (by_cases h : b < c <;> simp [h]; done) | (by_cases h : b = c <;> simp [h]; done)
  · cases hr
def kpless : List SVal → Nat → Acc ORes := fun a n => match a with | [.agg [.int .u32 b, .int .u32 c]] => .ret ({ v := .int .u32 (.full (aluW 10 b.val c.val)) }) | _ => .fail "pless"
theorem argpless (b c : SI) : (all (subL tAtN none' [] deep [.agg [.int .u32 b, .int .u32 c]] [.agg [.int .u32 (.full b.val), .int .u32 (.full c.val)]])) = (
  SI.val b = SI.val b ∧ SI.val c = SI.val c) := by kernel_rfl
theorem runpless (gl : List (Nat × SVal)) (b : Int) (c : Int) : (Tr.sat (plainQ (.int .u32 (.full (aluW 10 b c)))) (run (env gl []) [] (bodyOf Tryd.f92) (start [.agg [.int .u32 (.full b), .int .u32 (.full c)]] 8) (ends (env gl []) Tryd.f92.results.toList))) = (
  (decide (b < c) = true → (1 : Int) = aluW (10 : Int) b c) ∧ (decide (b < c) = false → (0 : Int) = aluW (10 : Int) b c)) := by kernel_rfl
set_option maxHeartbeats 4000000 in
theorem cpless : Con ea has gl 92 kpless := by
  refine plain_mkB Tryd.func92 8 (con := []) trivial (fun hA hr hv => ?_) (by kernel_rfl) (by kernel_rfl) Tryd.ntmps92
  unfold kpless at hr; split at hr
  · rename_i b c
    have := ret_ok hr; subst this
    refine ⟨_, [], rfl, rfl, .of (argpless b c) (by simp), rfl, (fun W R ρ0 own0 hown => noSums (by kernel_rfl)), .of (runpless gl b.val c.val) ?_⟩
    clear hr
    generalize b.val = b
    generalize c.val = c
    try simp only [aluW, w32, bits32]
    first | rfl | (simp; done) | (refine ⟨by omega, fun _ => ?_⟩; simp; done) | (by_cases h : b < c <;> simp [h]; done) | (by_cases h : b = c <;> simp [h]; done)
  · cases hr
def kpsame : List SVal → Nat → Acc ORes := fun a n => match a with | [.agg [.int .u32 b, .int .u32 c]] => .ret ({ v := .int .u32 (.full (aluW 11 b.val c.val)) }) | _ => .fail "psame"
theorem argpsame (b c : SI) : (all (subL tAtN none' [] deep [.agg [.int .u32 b, .int .u32 c]] [.agg [.int .u32 (.full b.val), .int .u32 (.full c.val)]])) = (
  SI.val b = SI.val b ∧ SI.val c = SI.val c) := by kernel_rfl
theorem runpsame (gl : List (Nat × SVal)) (b : Int) (c : Int) : (Tr.sat (plainQ (.int .u32 (.full (aluW 11 b c)))) (run (env gl []) [] (bodyOf Tryd.f93) (start [.agg [.int .u32 (.full b), .int .u32 (.full c)]] 8) (ends (env gl []) Tryd.f93.results.toList))) = (
  (decide (b = c) = true → (1 : Int) = aluW (11 : Int) b c) ∧ (decide (b = c) = false → (0 : Int) = aluW (11 : Int) b c)) := by kernel_rfl
set_option maxHeartbeats 4000000 in
theorem cpsame : Con ea has gl 93 kpsame := by
  refine plain_mkB Tryd.func93 8 (con := []) trivial (fun hA hr hv => ?_) (by kernel_rfl) (by kernel_rfl) Tryd.ntmps93
  unfold kpsame at hr; split at hr
  · rename_i b c
    have := ret_ok hr; subst this
    refine ⟨_, [], rfl, rfl, .of (argpsame b c) (by simp), rfl, (fun W R ρ0 own0 hown => noSums (by kernel_rfl)), .of (runpsame gl b.val c.val) ?_⟩
    clear hr
    generalize b.val = b
    generalize c.val = c
    try simp only [aluW, w32, bits32]
    first | rfl | (simp; done) | (refine ⟨by omega, fun _ => ?_⟩; simp; done) | (by_cases h : b < c <;> simp [h]; done) | (by_cases h : b = c <;> simp [h]; done)
  · cases hr
def kpmul : List SVal → Nat → Acc ORes := fun a n => match a with | [.agg [.int .u32 b, .int .u32 c]] => .ret ({ v := .int .u32 (.full (aluW 24 b.val c.val)) }) | _ => .fail "pmul"
theorem argpmul (b c : SI) : (all (subL tAtN none' [] deep [.agg [.int .u32 b, .int .u32 c]] [.agg [.int .u32 (.full b.val), .int .u32 (.full c.val)]])) = (
  SI.val b = SI.val b ∧ SI.val c = SI.val c) := by kernel_rfl
theorem runpmul (gl : List (Nat × SVal)) (b : Int) (c : Int) : (Tr.sat (plainQ (.int .u32 (.full (aluW 24 b c)))) (run (env gl []) [] (bodyOf Tryd.f94) (start [.agg [.int .u32 (.full b), .int .u32 (.full c)]] 8) (ends (env gl []) Tryd.f94.results.toList))) = (
  IntKind.wrap IntKind.u32 (b * c) = aluW (24 : Int) b c) := by kernel_rfl
set_option maxHeartbeats 4000000 in
theorem cpmul : Con ea has gl 94 kpmul := by
  refine plain_mkB Tryd.func94 8 (con := []) trivial (fun hA hr hv => ?_) (by kernel_rfl) (by kernel_rfl) Tryd.ntmps94
  unfold kpmul at hr; split at hr
  · rename_i b c
    have := ret_ok hr; subst this
    refine ⟨_, [], rfl, rfl, .of (argpmul b c) (by simp), rfl, (fun W R ρ0 own0 hown => noSums (by kernel_rfl)), .of (runpmul gl b.val c.val) ?_⟩
    clear hr
    generalize b.val = b
    generalize c.val = c
    try simp only [aluW, w32, bits32]
    first | rfl | (simp; done) | (refine ⟨by omega, fun _ => ?_⟩; simp; done) | (by_cases h : b < c <;> simp [h]; done) | (by_cases h : b = c <;> simp [h]; done)
  · cases hr
end
end Go.Proofs.YtpjccdncokamlaaDoor

