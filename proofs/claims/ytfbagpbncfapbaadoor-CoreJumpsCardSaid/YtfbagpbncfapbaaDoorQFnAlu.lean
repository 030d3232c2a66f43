/- Contracts that the proofs use. -/
import Derived.Test.YtfbagpbncfapbaaDoorQFnRef1
import Derived.Test.YtfbagpbncfapbaaDoorQFnMem
import Derived.Test.YtfbagpbncfapbaaDoorQCoreM
set_option linter.unusedVariables false
set_option linter.unusedSimpArgs false
namespace Go.Proofs.YtfbagpbncfapbaaDoor
open Go.RowKit Go.Sy Go.Fac
section
variable {ea : Int → Addr} {has : Int → Prop} {gl : List (Nat × SVal)}
theorem bits32 : IntKind.bits IntKind.u32 = 32 := rfl
def kaTaken : List SVal → Nat → Acc ORes := fun a n => match a with | [.agg [.int .i64 op, .int .i64 a, .int .i64 b, .int .i64 c, .int .u32 imm], .arr .u32 16 x] => .ret ({ v := .tuple [.bool (.sym (tkB (⟨op.val, a.val, b.val, c.val, imm.val⟩ : In5) x)), .bool (.sym (tkOk (⟨op.val, a.val, b.val, c.val, imm.val⟩ : In5)))] }) | _ => .fail "aTaken"
theorem argaTaken (op a b c imm : SI) (x : List Int) : (all (subL tAtN none' [] deep [.agg [.int .i64 op, .int .i64 a, .int .i64 b, .int .i64 c, .int .u32 imm], .arr .u32 16 x] [.agg (⟨op.val, a.val, b.val, c.val, imm.val⟩ : In5).enc, .arr .u32 16 x])) = (
  SI.val op = (In5.mk (SI.val op) (SI.val a) (SI.val b) (SI.val c) (SI.val imm)).op ∧ SI.val a = (In5.mk (SI.val op) (SI.val a) (SI.val b) (SI.val c) (SI.val imm)).a ∧ SI.val b = (In5.mk (SI.val op) (SI.val a) (SI.val b) (SI.val c) (SI.val imm)).b ∧ SI.val c = (In5.mk (SI.val op) (SI.val a) (SI.val b) (SI.val c) (SI.val imm)).c ∧ SI.val imm = (In5.mk (SI.val op) (SI.val a) (SI.val b) (SI.val c) (SI.val imm)).imm ∧ x = x) := by kernel_rfl
theorem runaTaken (gl : List (Nat × SVal)) (i : In5) (r : List Int) : (Tr.sat (plainQ (.tuple [.bool (.sym (tkB i r)), .bool (.sym (tkOk i))])) (run (env gl [(36, kTables), (65, kiJumps), (52, kWord)]) [] (bodyOf Tryd.f53) (start [.agg i.enc, .arr .u32 16 r] 43) (ends (env gl [(36, kTables), (65, kiJumps), (52, kWord)]) Tryd.f53.results.toList))) = (
  ((!wordOk i.op i.a i.b i.c i.imm || !isaJumps i.op) = true → false = tkB i r ∧ false = tkOk i) ∧ ((!wordOk i.op i.a i.b i.c i.imm || !isaJumps i.op) = false → (decide (i.op = (17 : Int)) = true → ((0 : Int) ≤ i.a ∧ i.a < (↑(16 : Nat) : Int)) ∧ ((0 : Int) ≤ i.a ∧ i.a < (↑(16 : Nat) : Int) → decide (List.getD r (Int.toNat i.a) (RT.dflt RT.u32) = (0 : Int)) = tkB i r ∧ true = tkOk i)) ∧ (decide (i.op = (17 : Int)) = false → (decide (i.op = (20 : Int)) = true → ((0 : Int) ≤ i.a ∧ i.a < (↑(16 : Nat) : Int)) ∧ ((0 : Int) ≤ i.a ∧ i.a < (↑(16 : Nat) : Int) → decide (List.getD r (Int.toNat i.a) (RT.dflt RT.u32) = (0 : Int)) = tkB i r ∧ true = tkOk i)) ∧ (decide (i.op = (20 : Int)) = false → (decide (i.op = (18 : Int)) = true → ((0 : Int) ≤ i.a ∧ i.a < (↑(16 : Nat) : Int)) ∧ ((0 : Int) ≤ i.a ∧ i.a < (↑(16 : Nat) : Int) → (!decide (List.getD r (Int.toNat i.a) (RT.dflt RT.u32) = (0 : Int))) = tkB i r ∧ true = tkOk i)) ∧ (decide (i.op = (18 : Int)) = false → (decide (i.op = (21 : Int)) = true → ((0 : Int) ≤ i.a ∧ i.a < (↑(16 : Nat) : Int)) ∧ ((0 : Int) ≤ i.a ∧ i.a < (↑(16 : Nat) : Int) → (!decide (List.getD r (Int.toNat i.a) (RT.dflt RT.u32) = (0 : Int))) = tkB i r ∧ true = tkOk i)) ∧ (decide (i.op = (21 : Int)) = false → true = tkB i r ∧ true = tkOk i)))))) := by kernel_rfl
set_option maxHeartbeats 4000000 in
theorem gaTaken (i : In5) (r : List Int)  : Tr.sat (plainQ (.tuple [.bool (.sym (tkB i r)), .bool (.sym (tkOk i))])) (run (env gl [(36, kTables), (65, kiJumps), (52, kWord)]) [] (bodyOf Tryd.f53) (start [.agg i.enc, .arr .u32 16 r] 43) (ends (env gl [(36, kTables), (65, kiJumps), (52, kWord)]) Tryd.f53.results.toList)) := by
  refine (runaTaken gl i r).mpr ?_
  have e : (!wordOk i.op i.a i.b i.c i.imm || !isaJumps i.op) = !tkOk i := by unfold tkOk In5.ok; rw [Bool.not_and]
  rw [e]
  have d0 : RT.u32.dflt = (0 : Int) := rfl
  refine ⟨fun h => ?_, fun h => ?_⟩
  · simp at h; simp [tkB, h]
  · simp at h
    have hw := h; unfold tkOk In5.ok at hw; rw [Bool.and_eq_true] at hw
    have rng := (word_rng hw.1).1
    clear hw e
    repeat' (first | (with_reducible intro _) | (with_reducible apply And.intro))
    all_goals first | omega | (simp_all [tkB, rg]; done)
set_option maxHeartbeats 4000000 in
theorem caTaken : Con ea has gl 53 kaTaken := by
  refine plain_mk Tryd.func53 43 (con := [(36, kTables), (65, kiJumps), (52, kWord)]) ⟨cTables, ciJumps, cWord, trivial⟩ (fun hA hr hv => ?_) (by kernel_rfl) (by kernel_rfl) Tryd.ntmps53
  unfold kaTaken at hr; split at hr
  · rename_i op a b c imm x
    have := ret_ok hr; subst this
    exact ⟨_, [], rfl, rfl, (argaTaken op a b c imm x).mpr (by simp), rfl, (fun W R ρ0 own0 hown => noSums (by kernel_rfl)), gaTaken ⟨op.val, a.val, b.val, c.val, imm.val⟩ x ⟩
  · cases hr
def krTaken : List SVal → Nat → Acc ORes := fun a n => match a with | [.agg [.int .i64 op, .int .i64 a, .int .i64 b, .int .i64 c, .int .u32 imm], .arr .u32 16 x] => .ret ({ v := .tuple [.bool (.sym (tkB (⟨op.val, a.val, b.val, c.val, imm.val⟩ : In5) x)), .bool (.sym (tkOk (⟨op.val, a.val, b.val, c.val, imm.val⟩ : In5)))] }) | _ => .fail "rTaken"
theorem argrTaken (op a b c imm : SI) (x : List Int) : (all (subL tAtN none' [] deep [.agg [.int .i64 op, .int .i64 a, .int .i64 b, .int .i64 c, .int .u32 imm], .arr .u32 16 x] [.agg (⟨op.val, a.val, b.val, c.val, imm.val⟩ : In5).enc, .arr .u32 16 x])) = (
  SI.val op = (In5.mk (SI.val op) (SI.val a) (SI.val b) (SI.val c) (SI.val imm)).op ∧ SI.val a = (In5.mk (SI.val op) (SI.val a) (SI.val b) (SI.val c) (SI.val imm)).a ∧ SI.val b = (In5.mk (SI.val op) (SI.val a) (SI.val b) (SI.val c) (SI.val imm)).b ∧ SI.val c = (In5.mk (SI.val op) (SI.val a) (SI.val b) (SI.val c) (SI.val imm)).c ∧ SI.val imm = (In5.mk (SI.val op) (SI.val a) (SI.val b) (SI.val c) (SI.val imm)).imm ∧ x = x) := by kernel_rfl
theorem runrTaken (gl : List (Nat × SVal)) (i : In5) (r : List Int) : (Tr.sat (plainQ (.tuple [.bool (.sym (tkB i r)), .bool (.sym (tkOk i))])) (run (env gl [(57, krJumps), (10, krWord)]) [] (bodyOf Tryd.f43) (start [.agg i.enc, .arr .u32 16 r] 39) (ends (env gl [(57, krJumps), (10, krWord)]) Tryd.f43.results.toList))) = (
  ((!wordOk i.op i.a i.b i.c i.imm || !isaJumps i.op) = true → false = tkB i r ∧ false = tkOk i) ∧ ((!wordOk i.op i.a i.b i.c i.imm || !isaJumps i.op) = false → (decide (i.op = (17 : Int)) = true → ((0 : Int) ≤ i.a ∧ i.a < (↑(16 : Nat) : Int)) ∧ ((0 : Int) ≤ i.a ∧ i.a < (↑(16 : Nat) : Int) → decide (List.getD r (Int.toNat i.a) (RT.dflt RT.u32) = (0 : Int)) = tkB i r ∧ true = tkOk i)) ∧ (decide (i.op = (17 : Int)) = false → (decide (i.op = (20 : Int)) = true → ((0 : Int) ≤ i.a ∧ i.a < (↑(16 : Nat) : Int)) ∧ ((0 : Int) ≤ i.a ∧ i.a < (↑(16 : Nat) : Int) → decide (List.getD r (Int.toNat i.a) (RT.dflt RT.u32) = (0 : Int)) = tkB i r ∧ true = tkOk i)) ∧ (decide (i.op = (20 : Int)) = false → (decide (i.op = (18 : Int)) = true → ((0 : Int) ≤ i.a ∧ i.a < (↑(16 : Nat) : Int)) ∧ ((0 : Int) ≤ i.a ∧ i.a < (↑(16 : Nat) : Int) → (!decide (List.getD r (Int.toNat i.a) (RT.dflt RT.u32) = (0 : Int))) = tkB i r ∧ true = tkOk i)) ∧ (decide (i.op = (18 : Int)) = false → (decide (i.op = (21 : Int)) = true → ((0 : Int) ≤ i.a ∧ i.a < (↑(16 : Nat) : Int)) ∧ ((0 : Int) ≤ i.a ∧ i.a < (↑(16 : Nat) : Int) → (!decide (List.getD r (Int.toNat i.a) (RT.dflt RT.u32) = (0 : Int))) = tkB i r ∧ true = tkOk i)) ∧ (decide (i.op = (21 : Int)) = false → true = tkB i r ∧ true = tkOk i)))))) := by kernel_rfl
set_option maxHeartbeats 4000000 in
theorem grTaken (i : In5) (r : List Int)  : Tr.sat (plainQ (.tuple [.bool (.sym (tkB i r)), .bool (.sym (tkOk i))])) (run (env gl [(57, krJumps), (10, krWord)]) [] (bodyOf Tryd.f43) (start [.agg i.enc, .arr .u32 16 r] 39) (ends (env gl [(57, krJumps), (10, krWord)]) Tryd.f43.results.toList)) := by
  refine (runrTaken gl i r).mpr ?_
  have e : (!wordOk i.op i.a i.b i.c i.imm || !isaJumps i.op) = !tkOk i := by unfold tkOk In5.ok; rw [Bool.not_and]
  rw [e]
  have d0 : RT.u32.dflt = (0 : Int) := rfl
  refine ⟨fun h => ?_, fun h => ?_⟩
  · simp at h; simp [tkB, h]
  · simp at h
    have hw := h; unfold tkOk In5.ok at hw; rw [Bool.and_eq_true] at hw
    have rng := (word_rng hw.1).1
    clear hw e
    repeat' (first | (with_reducible intro _) | (with_reducible apply And.intro))
    all_goals first | omega | (simp_all [tkB, rg]; done)
set_option maxHeartbeats 4000000 in
theorem crTaken : Con ea has gl 43 krTaken := by
  refine plain_mk Tryd.func43 39 (con := [(57, krJumps), (10, krWord)]) ⟨crJumps, crWord, trivial⟩ (fun hA hr hv => ?_) (by kernel_rfl) (by kernel_rfl) Tryd.ntmps43
  unfold krTaken at hr; split at hr
  · rename_i op a b c imm x
    have := ret_ok hr; subst this
    exact ⟨_, [], rfl, rfl, (argrTaken op a b c imm x).mpr (by simp), rfl, (fun W R ρ0 own0 hown => noSums (by kernel_rfl)), grTaken ⟨op.val, a.val, b.val, c.val, imm.val⟩ x ⟩
  · cases hr
def krAlu : List SVal → Nat → Acc ORes := fun a n => match a with | [.agg [.int .i64 op, .int .i64 a, .int .i64 b, .int .i64 c, .int .u32 imm], .arr .u32 16 x] => .ret ({ v := .tuple [.arr .u32 16 (doR (⟨op.val, a.val, b.val, c.val, imm.val⟩ : In5) x), .bool (.sym (doOk (⟨op.val, a.val, b.val, c.val, imm.val⟩ : In5)))] }) | _ => .fail "rAlu"
theorem argrAlu (op a b c imm : SI) (x : List Int) : (all (subL tAtN none' [] deep [.agg [.int .i64 op, .int .i64 a, .int .i64 b, .int .i64 c, .int .u32 imm], .arr .u32 16 x] [.agg (⟨op.val, a.val, b.val, c.val, imm.val⟩ : In5).enc, .arr .u32 16 x])) = (
  SI.val op = (In5.mk (SI.val op) (SI.val a) (SI.val b) (SI.val c) (SI.val imm)).op ∧ SI.val a = (In5.mk (SI.val op) (SI.val a) (SI.val b) (SI.val c) (SI.val imm)).a ∧ SI.val b = (In5.mk (SI.val op) (SI.val a) (SI.val b) (SI.val c) (SI.val imm)).b ∧ SI.val c = (In5.mk (SI.val op) (SI.val a) (SI.val b) (SI.val c) (SI.val imm)).c ∧ SI.val imm = (In5.mk (SI.val op) (SI.val a) (SI.val b) (SI.val c) (SI.val imm)).imm ∧ x = x) := by kernel_rfl
theorem runrAlu (gl : List (Nat × SVal)) (i : In5) (r : List Int) : (Tr.sat (plainQ (.tuple [.arr .u32 16 (doR i r), .bool (.sym (doOk i))])) (run (env gl [(10, krWord), (58, krone)]) [] (bodyOf Tryd.f44) (start [.agg i.enc, .arr .u32 16 r] 102) (ends (env gl [(10, krWord), (58, krone)]) Tryd.f44.results.toList))) = (
  ((!wordOk i.op i.a i.b i.c i.imm) = true → List.replicate (16 : Nat) (0 : RT.ty RT.u32) = doR i r ∧ false = doOk i) ∧ ((!wordOk i.op i.a i.b i.c i.imm) = false → (decide (i.op = (1 : Int)) = true → r = doR i r ∧ true = doOk i) ∧ (decide (i.op = (1 : Int)) = false → ((0 : Int) ≤ i.b ∧ i.b < (↑(16 : Nat) : Int)) ∧ ((0 : Int) ≤ i.b ∧ i.b < (↑(16 : Nat) : Int) → ((0 : Int) ≤ i.c % (16 : Int) ∧ i.c % (16 : Int) < (↑(16 : Nat) : Int)) ∧ ((0 : Int) ≤ i.c % (16 : Int) ∧ i.c % (16 : Int) < (↑(16 : Nat) : Int) → (decide (i.op = (2 : Int)) = true → ((0 : Int) ≤ i.a ∧ i.a < (↑(16 : Nat) : Int)) ∧ ((0 : Int) ≤ i.a ∧ i.a < (↑(16 : Nat) : Int) → List.set r (Int.toNat i.a) (List.getD r (Int.toNat i.b) (RT.dflt RT.u32)) = doR i r ∧ true = doOk i)) ∧ (decide (i.op = (2 : Int)) = false → (decide (i.op = (3 : Int)) = true → ((0 : Int) ≤ i.a ∧ i.a < (↑(16 : Nat) : Int)) ∧ ((0 : Int) ≤ i.a ∧ i.a < (↑(16 : Nat) : Int) → List.set r (Int.toNat i.a) (IntKind.wrap IntKind.u32 (List.getD r (Int.toNat i.b) (RT.dflt RT.u32) + List.getD r (Int.toNat (i.c % (16 : Int))) (RT.dflt RT.u32))) = doR i r ∧ true = doOk i)) ∧ (decide (i.op = (3 : Int)) = false → (decide (i.op = (4 : Int)) = true → ((0 : Int) ≤ i.a ∧ i.a < (↑(16 : Nat) : Int)) ∧ ((0 : Int) ≤ i.a ∧ i.a < (↑(16 : Nat) : Int) → List.set r (Int.toNat i.a) (IntKind.wrap IntKind.u32 (List.getD r (Int.toNat i.b) (RT.dflt RT.u32) - List.getD r (Int.toNat (i.c % (16 : Int))) (RT.dflt RT.u32))) = doR i r ∧ true = doOk i)) ∧ (decide (i.op = (4 : Int)) = false → (decide (i.op = (5 : Int)) = true → ((0 : Int) ≤ i.a ∧ i.a < (↑(16 : Nat) : Int)) ∧ ((0 : Int) ≤ i.a ∧ i.a < (↑(16 : Nat) : Int) → List.set r (Int.toNat i.a) (bits BinOp.and IntKind.u32 (List.getD r (Int.toNat i.b) (RT.dflt RT.u32)) (List.getD r (Int.toNat (i.c % (16 : Int))) (RT.dflt RT.u32))) = doR i r ∧ true = doOk i)) ∧ (decide (i.op = (5 : Int)) = false → (decide (i.op = (6 : Int)) = true → ((0 : Int) ≤ i.a ∧ i.a < (↑(16 : Nat) : Int)) ∧ ((0 : Int) ≤ i.a ∧ i.a < (↑(16 : Nat) : Int) → List.set r (Int.toNat i.a) (bits BinOp.or IntKind.u32 (List.getD r (Int.toNat i.b) (RT.dflt RT.u32)) (List.getD r (Int.toNat (i.c % (16 : Int))) (RT.dflt RT.u32))) = doR i r ∧ true = doOk i)) ∧ (decide (i.op = (6 : Int)) = false → (decide (i.op = (7 : Int)) = true → ((0 : Int) ≤ i.a ∧ i.a < (↑(16 : Nat) : Int)) ∧ ((0 : Int) ≤ i.a ∧ i.a < (↑(16 : Nat) : Int) → List.set r (Int.toNat i.a) (bits BinOp.xor IntKind.u32 (List.getD r (Int.toNat i.b) (RT.dflt RT.u32)) (List.getD r (Int.toNat (i.c % (16 : Int))) (RT.dflt RT.u32))) = doR i r ∧ true = doOk i)) ∧ (decide (i.op = (7 : Int)) = false → (decide (i.op = (8 : Int)) = true → (0 : Int) ≤ List.getD r (Int.toNat (i.c % (16 : Int))) (RT.dflt RT.u32) % (32 : Int) ∧ ((0 : Int) ≤ List.getD r (Int.toNat (i.c % (16 : Int))) (RT.dflt RT.u32) % (32 : Int) → ((0 : Int) ≤ i.a ∧ i.a < (↑(16 : Nat) : Int)) ∧ ((0 : Int) ≤ i.a ∧ i.a < (↑(16 : Nat) : Int) → List.set r (Int.toNat i.a) (IntKind.wrap IntKind.u32 (List.getD r (Int.toNat i.b) (RT.dflt RT.u32) * (2 : Int) ^ min (Int.toNat (List.getD r (Int.toNat (i.c % (16 : Int))) (RT.dflt RT.u32) % (32 : Int))) (IntKind.bits IntKind.u32))) = doR i r ∧ true = doOk i))) ∧ (decide (i.op = (8 : Int)) = false → (decide (i.op = (9 : Int)) = true → (0 : Int) ≤ List.getD r (Int.toNat (i.c % (16 : Int))) (RT.dflt RT.u32) % (32 : Int) ∧ ((0 : Int) ≤ List.getD r (Int.toNat (i.c % (16 : Int))) (RT.dflt RT.u32) % (32 : Int) → ((0 : Int) ≤ i.a ∧ i.a < (↑(16 : Nat) : Int)) ∧ ((0 : Int) ≤ i.a ∧ i.a < (↑(16 : Nat) : Int) → List.set r (Int.toNat i.a) (List.getD r (Int.toNat i.b) (RT.dflt RT.u32) / (2 : Int) ^ min (Int.toNat (List.getD r (Int.toNat (i.c % (16 : Int))) (RT.dflt RT.u32) % (32 : Int))) (IntKind.bits IntKind.u32)) = doR i r ∧ true = doOk i))) ∧ (decide (i.op = (9 : Int)) = false → (decide (i.op = (10 : Int)) = true → ((0 : Int) ≤ i.a ∧ i.a < (↑(16 : Nat) : Int)) ∧ ((0 : Int) ≤ i.a ∧ i.a < (↑(16 : Nat) : Int) → List.set r (Int.toNat i.a) (if decide (List.getD r (Int.toNat i.b) (RT.dflt RT.u32) < List.getD r (Int.toNat (i.c % (16 : Int))) (RT.dflt RT.u32)) = true then (1 : Int) else (0 : Int)) = doR i r ∧ true = doOk i)) ∧ (decide (i.op = (10 : Int)) = false → (decide (i.op = (11 : Int)) = true → ((0 : Int) ≤ i.a ∧ i.a < (↑(16 : Nat) : Int)) ∧ ((0 : Int) ≤ i.a ∧ i.a < (↑(16 : Nat) : Int) → List.set r (Int.toNat i.a) (if decide (List.getD r (Int.toNat i.b) (RT.dflt RT.u32) = List.getD r (Int.toNat (i.c % (16 : Int))) (RT.dflt RT.u32)) = true then (1 : Int) else (0 : Int)) = doR i r ∧ true = doOk i)) ∧ (decide (i.op = (11 : Int)) = false → (decide (i.op = (24 : Int)) = true → ((0 : Int) ≤ i.a ∧ i.a < (↑(16 : Nat) : Int)) ∧ ((0 : Int) ≤ i.a ∧ i.a < (↑(16 : Nat) : Int) → List.set r (Int.toNat i.a) (IntKind.wrap IntKind.u32 (List.getD r (Int.toNat i.b) (RT.dflt RT.u32) * List.getD r (Int.toNat (i.c % (16 : Int))) (RT.dflt RT.u32))) = doR i r ∧ true = doOk i)) ∧ (decide (i.op = (24 : Int)) = false → (decide (i.op = (14 : Int)) = true → ((0 : Int) ≤ i.a ∧ i.a < (↑(16 : Nat) : Int)) ∧ ((0 : Int) ≤ i.a ∧ i.a < (↑(16 : Nat) : Int) → List.set r (Int.toNat i.a) i.imm = doR i r ∧ true = doOk i)) ∧ (decide (i.op = (14 : Int)) = false → (decide (i.op = (15 : Int)) = true → ((0 : Int) ≤ i.a ∧ i.a < (↑(16 : Nat) : Int)) ∧ ((0 : Int) ≤ i.a ∧ i.a < (↑(16 : Nat) : Int) → List.set r (Int.toNat i.a) i.imm = doR i r ∧ true = doOk i)) ∧ (decide (i.op = (15 : Int)) = false → List.replicate (16 : Nat) (0 : RT.ty RT.u32) = doR i r ∧ false = doOk i)))))))))))))))))) := by kernel_rfl
set_option maxHeartbeats 4000000 in
theorem grAlu (i : In5) (r : List Int)  : Tr.sat (plainQ (.tuple [.arr .u32 16 (doR i r), .bool (.sym (doOk i))])) (run (env gl [(10, krWord), (58, krone)]) [] (bodyOf Tryd.f44) (start [.agg i.enc, .arr .u32 16 r] 102) (ends (env gl [(10, krWord), (58, krone)]) Tryd.f44.results.toList)) := by
  refine (runrAlu gl i r).mpr ?_
  have d0 : RT.u32.dflt = (0 : Int) := rfl
  have o1 : wordOk i.op i.a i.b i.c i.imm = In5.ok i := rfl
  rw [o1]
  refine ⟨fun h => ?_, fun h => ?_⟩
  · simp at h
    have : doOk i = false := by unfold doOk; rw [h]; rfl
    simp [doR, this]
  · simp at h
    have rng := word_rng h
    clear o1
    have hk : ∀ b, aluOps i.op = b → doOk i = b := fun b hb => by unfold doOk; rw [h, hb]; rfl
    simp only [d0, bits32]
    repeat' (first | (with_reducible intro _) | (with_reducible apply And.intro))
    all_goals first | omega | skip
    all_goals (have k1 := hk true; have k2 := hk false; simp_all [doR, aluOps, aluW, rg])
    all_goals first | omega | (intro; omega)
set_option maxHeartbeats 4000000 in
theorem crAlu : Con ea has gl 44 krAlu := by
  refine plain_mk Tryd.func44 102 (con := [(10, krWord), (58, krone)]) ⟨crWord, crone, trivial⟩ (fun hA hr hv => ?_) (by kernel_rfl) (by kernel_rfl) Tryd.ntmps44
  unfold krAlu at hr; split at hr
  · rename_i op a b c imm x
    have := ret_ok hr; subst this
    exact ⟨_, [], rfl, rfl, (argrAlu op a b c imm x).mpr (by simp), rfl, (fun W R ρ0 own0 hown => noSums (by kernel_rfl)), grAlu ⟨op.val, a.val, b.val, c.val, imm.val⟩ x ⟩
  · cases hr
def kpfirst : List SVal → Nat → Acc ORes := fun a n => match a with | [.agg [.int .u32 b, .int .u32 c]] => .ret ({ v := .int .u32 (.full (aluW 2 b.val c.val)) }) | _ => .fail "pfirst"
theorem argpfirst (b c : SI) : (all (subL tAtN none' [] deep [.agg [.int .u32 b, .int .u32 c]] [.agg [.int .u32 (.full b.val), .int .u32 (.full c.val)]])) = (
  SI.val b = SI.val b ∧ SI.val c = SI.val c) := by kernel_rfl
theorem runpfirst (gl : List (Nat × SVal)) (b : Int) (c : Int) : (Tr.sat (plainQ (.int .u32 (.full (aluW 2 b c)))) (run (env gl []) [] (bodyOf Tryd.f70) (start [.agg [.int .u32 (.full b), .int .u32 (.full c)]] 5) (ends (env gl []) Tryd.f70.results.toList))) = (
  b = aluW (2 : Int) b c) := by kernel_rfl
set_option maxHeartbeats 4000000 in
theorem cpfirst : Con ea has gl 70 kpfirst := by
  refine plain_mk Tryd.func70 5 (con := []) trivial (fun hA hr hv => ?_) (by kernel_rfl) (by kernel_rfl) Tryd.ntmps70
  unfold kpfirst at hr; split at hr
  · rename_i b c
    have := ret_ok hr; subst this
    refine ⟨_, [], rfl, rfl, (argpfirst b c).mpr (by simp), rfl, (fun W R ρ0 own0 hown => noSums (by kernel_rfl)), (runpfirst gl b.val c.val).mpr ?_⟩
    clear hr
    generalize b.val = b
    generalize c.val = c
    try simp only [aluW, w32, bits32]
    first | rfl | (simp; done) | (refine ⟨by omega, fun _ => ?_⟩; simp; done) | (by_cases h : b < c <;> simp [h]; done) | (by_cases h : b = c <;> simp [h]; done)
  · cases hr
def kpadd : List SVal → Nat → Acc ORes := fun a n => match a with | [.agg [.int .u32 b, .int .u32 c]] => .ret ({ v := .int .u32 (.full (aluW 3 b.val c.val)) }) | _ => .fail "padd"
theorem argpadd (b c : SI) : (all (subL tAtN none' [] deep [.agg [.int .u32 b, .int .u32 c]] [.agg [.int .u32 (.full b.val), .int .u32 (.full c.val)]])) = (
  SI.val b = SI.val b ∧ SI.val c = SI.val c) := by kernel_rfl
theorem runpadd (gl : List (Nat × SVal)) (b : Int) (c : Int) : (Tr.sat (plainQ (.int .u32 (.full (aluW 3 b c)))) (run (env gl []) [] (bodyOf Tryd.f71) (start [.agg [.int .u32 (.full b), .int .u32 (.full c)]] 8) (ends (env gl []) Tryd.f71.results.toList))) = (
  IntKind.wrap IntKind.u32 (b + c) = aluW (3 : Int) b c) := by kernel_rfl
set_option maxHeartbeats 4000000 in
theorem cpadd : Con ea has gl 71 kpadd := by
  refine plain_mk Tryd.func71 8 (con := []) trivial (fun hA hr hv => ?_) (by kernel_rfl) (by kernel_rfl) Tryd.ntmps71
  unfold kpadd at hr; split at hr
  · rename_i b c
    have := ret_ok hr; subst this
    refine ⟨_, [], rfl, rfl, (argpadd b c).mpr (by simp), rfl, (fun W R ρ0 own0 hown => noSums (by kernel_rfl)), (runpadd gl b.val c.val).mpr ?_⟩
    clear hr
    generalize b.val = b
    generalize c.val = c
    try simp only [aluW, w32, bits32]
    first | rfl | (simp; done) | (refine ⟨by omega, fun _ => ?_⟩; simp; done) | (by_cases h : b < c <;> simp [h]; done) | (by_cases h : b = c <;> simp [h]; done)
  · cases hr
def kpsub : List SVal → Nat → Acc ORes := fun a n => match a with | [.agg [.int .u32 b, .int .u32 c]] => .ret ({ v := .int .u32 (.full (aluW 4 b.val c.val)) }) | _ => .fail "psub"
theorem argpsub (b c : SI) : (all (subL tAtN none' [] deep [.agg [.int .u32 b, .int .u32 c]] [.agg [.int .u32 (.full b.val), .int .u32 (.full c.val)]])) = (
  SI.val b = SI.val b ∧ SI.val c = SI.val c) := by kernel_rfl
theorem runpsub (gl : List (Nat × SVal)) (b : Int) (c : Int) : (Tr.sat (plainQ (.int .u32 (.full (aluW 4 b c)))) (run (env gl []) [] (bodyOf Tryd.f72) (start [.agg [.int .u32 (.full b), .int .u32 (.full c)]] 8) (ends (env gl []) Tryd.f72.results.toList))) = (
  IntKind.wrap IntKind.u32 (b - c) = aluW (4 : Int) b c) := by kernel_rfl
set_option maxHeartbeats 4000000 in
theorem cpsub : Con ea has gl 72 kpsub := by
  refine plain_mk Tryd.func72 8 (con := []) trivial (fun hA hr hv => ?_) (by kernel_rfl) (by kernel_rfl) Tryd.ntmps72
  unfold kpsub at hr; split at hr
  · rename_i b c
    have := ret_ok hr; subst this
    refine ⟨_, [], rfl, rfl, (argpsub b c).mpr (by simp), rfl, (fun W R ρ0 own0 hown => noSums (by kernel_rfl)), (runpsub gl b.val c.val).mpr ?_⟩
    clear hr
    generalize b.val = b
    generalize c.val = c
    try simp only [aluW, w32, bits32]
    first | rfl | (simp; done) | (refine ⟨by omega, fun _ => ?_⟩; simp; done) | (by_cases h : b < c <;> simp [h]; done) | (by_cases h : b = c <;> simp [h]; done)
  · cases hr
def kpboth : List SVal → Nat → Acc ORes := fun a n => match a with | [.agg [.int .u32 b, .int .u32 c]] => .ret ({ v := .int .u32 (.full (aluW 5 b.val c.val)) }) | _ => .fail "pboth"
theorem argpboth (b c : SI) : (all (subL tAtN none' [] deep [.agg [.int .u32 b, .int .u32 c]] [.agg [.int .u32 (.full b.val), .int .u32 (.full c.val)]])) = (
  SI.val b = SI.val b ∧ SI.val c = SI.val c) := by kernel_rfl
theorem runpboth (gl : List (Nat × SVal)) (b : Int) (c : Int) : (Tr.sat (plainQ (.int .u32 (.full (aluW 5 b c)))) (run (env gl []) [] (bodyOf Tryd.f73) (start [.agg [.int .u32 (.full b), .int .u32 (.full c)]] 8) (ends (env gl []) Tryd.f73.results.toList))) = (
  bits BinOp.and IntKind.u32 b c = aluW (5 : Int) b c) := by kernel_rfl
set_option maxHeartbeats 4000000 in
theorem cpboth : Con ea has gl 73 kpboth := by
  refine plain_mk Tryd.func73 8 (con := []) trivial (fun hA hr hv => ?_) (by kernel_rfl) (by kernel_rfl) Tryd.ntmps73
  unfold kpboth at hr; split at hr
  · rename_i b c
    have := ret_ok hr; subst this
    refine ⟨_, [], rfl, rfl, (argpboth b c).mpr (by simp), rfl, (fun W R ρ0 own0 hown => noSums (by kernel_rfl)), (runpboth gl b.val c.val).mpr ?_⟩
    clear hr
    generalize b.val = b
    generalize c.val = c
    try simp only [aluW, w32, bits32]
    first | rfl | (simp; done) | (refine ⟨by omega, fun _ => ?_⟩; simp; done) | (by_cases h : b < c <;> simp [h]; done) | (by_cases h : b = c <;> simp [h]; done)
  · cases hr
def kpeither : List SVal → Nat → Acc ORes := fun a n => match a with | [.agg [.int .u32 b, .int .u32 c]] => .ret ({ v := .int .u32 (.full (aluW 6 b.val c.val)) }) | _ => .fail "peither"
theorem argpeither (b c : SI) : (all (subL tAtN none' [] deep [.agg [.int .u32 b, .int .u32 c]] [.agg [.int .u32 (.full b.val), .int .u32 (.full c.val)]])) = (
  SI.val b = SI.val b ∧ SI.val c = SI.val c) := by kernel_rfl
theorem runpeither (gl : List (Nat × SVal)) (b : Int) (c : Int) : (Tr.sat (plainQ (.int .u32 (.full (aluW 6 b c)))) (run (env gl []) [] (bodyOf Tryd.f74) (start [.agg [.int .u32 (.full b), .int .u32 (.full c)]] 8) (ends (env gl []) Tryd.f74.results.toList))) = (
  bits BinOp.or IntKind.u32 b c = aluW (6 : Int) b c) := by kernel_rfl
set_option maxHeartbeats 4000000 in
theorem cpeither : Con ea has gl 74 kpeither := by
  refine plain_mk Tryd.func74 8 (con := []) trivial (fun hA hr hv => ?_) (by kernel_rfl) (by kernel_rfl) Tryd.ntmps74
  unfold kpeither at hr; split at hr
  · rename_i b c
    have := ret_ok hr; subst this
    refine ⟨_, [], rfl, rfl, (argpeither b c).mpr (by simp), rfl, (fun W R ρ0 own0 hown => noSums (by kernel_rfl)), (runpeither gl b.val c.val).mpr ?_⟩
    clear hr
    generalize b.val = b
    generalize c.val = c
    try simp only [aluW, w32, bits32]
    first | rfl | (simp; done) | (refine ⟨by omega, fun _ => ?_⟩; simp; done) | (by_cases h : b < c <;> simp [h]; done) | (by_cases h : b = c <;> simp [h]; done)
  · cases hr
def kpunlike : List SVal → Nat → Acc ORes := fun a n => match a with | [.agg [.int .u32 b, .int .u32 c]] => .ret ({ v := .int .u32 (.full (aluW 7 b.val c.val)) }) | _ => .fail "punlike"
theorem argpunlike (b c : SI) : (all (subL tAtN none' [] deep [.agg [.int .u32 b, .int .u32 c]] [.agg [.int .u32 (.full b.val), .int .u32 (.full c.val)]])) = (
  SI.val b = SI.val b ∧ SI.val c = SI.val c) := by kernel_rfl
theorem runpunlike (gl : List (Nat × SVal)) (b : Int) (c : Int) : (Tr.sat (plainQ (.int .u32 (.full (aluW 7 b c)))) (run (env gl []) [] (bodyOf Tryd.f75) (start [.agg [.int .u32 (.full b), .int .u32 (.full c)]] 8) (ends (env gl []) Tryd.f75.results.toList))) = (
  bits BinOp.xor IntKind.u32 b c = aluW (7 : Int) b c) := by kernel_rfl
set_option maxHeartbeats 4000000 in
theorem cpunlike : Con ea has gl 75 kpunlike := by
  refine plain_mk Tryd.func75 8 (con := []) trivial (fun hA hr hv => ?_) (by kernel_rfl) (by kernel_rfl) Tryd.ntmps75
  unfold kpunlike at hr; split at hr
  · rename_i b c
    have := ret_ok hr; subst this
    refine ⟨_, [], rfl, rfl, (argpunlike b c).mpr (by simp), rfl, (fun W R ρ0 own0 hown => noSums (by kernel_rfl)), (runpunlike gl b.val c.val).mpr ?_⟩
    clear hr
    generalize b.val = b
    generalize c.val = c
    try simp only [aluW, w32, bits32]
    first | rfl | (simp; done) | (refine ⟨by omega, fun _ => ?_⟩; simp; done) | (by_cases h : b < c <;> simp [h]; done) | (by_cases h : b = c <;> simp [h]; done)
  · cases hr
def kpup : List SVal → Nat → Acc ORes := fun a n => match a with | [.agg [.int .u32 b, .int .u32 c]] => .ret ({ v := .int .u32 (.full (aluW 8 b.val c.val)) }) | _ => .fail "pup"
theorem argpup (b c : SI) : (all (subL tAtN none' [] deep [.agg [.int .u32 b, .int .u32 c]] [.agg [.int .u32 (.full b.val), .int .u32 (.full c.val)]])) = (
  SI.val b = SI.val b ∧ SI.val c = SI.val c) := by kernel_rfl
theorem runpup (gl : List (Nat × SVal)) (b : Int) (c : Int) : (Tr.sat (plainQ (.int .u32 (.full (aluW 8 b c)))) (run (env gl []) [] (bodyOf Tryd.f76) (start [.agg [.int .u32 (.full b), .int .u32 (.full c)]] 9) (ends (env gl []) Tryd.f76.results.toList))) = (
  (0 : Int) ≤ c % (32 : Int) ∧ ((0 : Int) ≤ c % (32 : Int) → IntKind.wrap IntKind.u32 (b * (2 : Int) ^ min (Int.toNat (c % (32 : Int))) (IntKind.bits IntKind.u32)) = aluW (8 : Int) b c)) := by kernel_rfl
set_option maxHeartbeats 4000000 in
theorem cpup : Con ea has gl 76 kpup := by
  refine plain_mk Tryd.func76 9 (con := []) trivial (fun hA hr hv => ?_) (by kernel_rfl) (by kernel_rfl) Tryd.ntmps76
  unfold kpup at hr; split at hr
  · rename_i b c
    have := ret_ok hr; subst this
    refine ⟨_, [], rfl, rfl, (argpup b c).mpr (by simp), rfl, (fun W R ρ0 own0 hown => noSums (by kernel_rfl)), (runpup gl b.val c.val).mpr ?_⟩
    clear hr
    generalize b.val = b
    generalize c.val = c
    try simp only [aluW, w32, bits32]
    first | rfl | (simp; done) | (refine ⟨by omega, fun _ => ?_⟩; simp; done) | (by_cases h : b < c <;> simp [h]; done) | (by_cases h : b = c <;> simp [h]; done)
  · cases hr
def kpdown : List SVal → Nat → Acc ORes := fun a n => match a with | [.agg [.int .u32 b, .int .u32 c]] => .ret ({ v := .int .u32 (.full (aluW 9 b.val c.val)) }) | _ => .fail "pdown"
theorem argpdown (b c : SI) : (all (subL tAtN none' [] deep [.agg [.int .u32 b, .int .u32 c]] [.agg [.int .u32 (.full b.val), .int .u32 (.full c.val)]])) = (
  SI.val b = SI.val b ∧ SI.val c = SI.val c) := by kernel_rfl
theorem runpdown (gl : List (Nat × SVal)) (b : Int) (c : Int) : (Tr.sat (plainQ (.int .u32 (.full (aluW 9 b c)))) (run (env gl []) [] (bodyOf Tryd.f77) (start [.agg [.int .u32 (.full b), .int .u32 (.full c)]] 9) (ends (env gl []) Tryd.f77.results.toList))) = (
  (0 : Int) ≤ c % (32 : Int) ∧ ((0 : Int) ≤ c % (32 : Int) → b / (2 : Int) ^ min (Int.toNat (c % (32 : Int))) (IntKind.bits IntKind.u32) = aluW (9 : Int) b c)) := by kernel_rfl
set_option maxHeartbeats 4000000 in
theorem cpdown : Con ea has gl 77 kpdown := by
  refine plain_mk Tryd.func77 9 (con := []) trivial (fun hA hr hv => ?_) (by kernel_rfl) (by kernel_rfl) Tryd.ntmps77
  unfold kpdown at hr; split at hr
  · rename_i b c
    have := ret_ok hr; subst this
    refine ⟨_, [], rfl, rfl, (argpdown b c).mpr (by simp), rfl, (fun W R ρ0 own0 hown => noSums (by kernel_rfl)), (runpdown gl b.val c.val).mpr ?_⟩
    clear hr
    generalize b.val = b
    generalize c.val = c
    try simp only [aluW, w32, bits32]
    first | rfl | (simp; done) | (refine ⟨by omega, fun _ => ?_⟩; simp; done) | (by_cases h : b < c <;> simp [h]; done) | (by_cases h : b = c <;> simp [h]; done)
  · cases hr
def kpless : List SVal → Nat → Acc ORes := fun a n => match a with | [.agg [.int .u32 b, .int .u32 c]] => .ret ({ v := .int .u32 (.full (aluW 10 b.val c.val)) }) | _ => .fail "pless"
theorem argpless (b c : SI) : (all (subL tAtN none' [] deep [.agg [.int .u32 b, .int .u32 c]] [.agg [.int .u32 (.full b.val), .int .u32 (.full c.val)]])) = (
  SI.val b = SI.val b ∧ SI.val c = SI.val c) := by kernel_rfl
theorem runpless (gl : List (Nat × SVal)) (b : Int) (c : Int) : (Tr.sat (plainQ (.int .u32 (.full (aluW 10 b c)))) (run (env gl []) [] (bodyOf Tryd.f78) (start [.agg [.int .u32 (.full b), .int .u32 (.full c)]] 8) (ends (env gl []) Tryd.f78.results.toList))) = (
  (decide (b < c) = true → (1 : Int) = aluW (10 : Int) b c) ∧ (decide (b < c) = false → (0 : Int) = aluW (10 : Int) b c)) := by kernel_rfl
set_option maxHeartbeats 4000000 in
theorem cpless : Con ea has gl 78 kpless := by
  refine plain_mk Tryd.func78 8 (con := []) trivial (fun hA hr hv => ?_) (by kernel_rfl) (by kernel_rfl) Tryd.ntmps78
  unfold kpless at hr; split at hr
  · rename_i b c
    have := ret_ok hr; subst this
    refine ⟨_, [], rfl, rfl, (argpless b c).mpr (by simp), rfl, (fun W R ρ0 own0 hown => noSums (by kernel_rfl)), (runpless gl b.val c.val).mpr ?_⟩
    clear hr
    generalize b.val = b
    generalize c.val = c
    try simp only [aluW, w32, bits32]
    first | rfl | (simp; done) | (refine ⟨by omega, fun _ => ?_⟩; simp; done) | (by_cases h : b < c <;> simp [h]; done) | (by_cases h : b = c <;> simp [h]; done)
  · cases hr
def kpsame : List SVal → Nat → Acc ORes := fun a n => match a with | [.agg [.int .u32 b, .int .u32 c]] => .ret ({ v := .int .u32 (.full (aluW 11 b.val c.val)) }) | _ => .fail "psame"
theorem argpsame (b c : SI) : (all (subL tAtN none' [] deep [.agg [.int .u32 b, .int .u32 c]] [.agg [.int .u32 (.full b.val), .int .u32 (.full c.val)]])) = (
  SI.val b = SI.val b ∧ SI.val c = SI.val c) := by kernel_rfl
theorem runpsame (gl : List (Nat × SVal)) (b : Int) (c : Int) : (Tr.sat (plainQ (.int .u32 (.full (aluW 11 b c)))) (run (env gl []) [] (bodyOf Tryd.f79) (start [.agg [.int .u32 (.full b), .int .u32 (.full c)]] 8) (ends (env gl []) Tryd.f79.results.toList))) = (
  (decide (b = c) = true → (1 : Int) = aluW (11 : Int) b c) ∧ (decide (b = c) = false → (0 : Int) = aluW (11 : Int) b c)) := by kernel_rfl
set_option maxHeartbeats 4000000 in
theorem cpsame : Con ea has gl 79 kpsame := by
  refine plain_mk Tryd.func79 8 (con := []) trivial (fun hA hr hv => ?_) (by kernel_rfl) (by kernel_rfl) Tryd.ntmps79
  unfold kpsame at hr; split at hr
  · rename_i b c
    have := ret_ok hr; subst this
    refine ⟨_, [], rfl, rfl, (argpsame b c).mpr (by simp), rfl, (fun W R ρ0 own0 hown => noSums (by kernel_rfl)), (runpsame gl b.val c.val).mpr ?_⟩
    clear hr
    generalize b.val = b
    generalize c.val = c
    try simp only [aluW, w32, bits32]
    first | rfl | (simp; done) | (refine ⟨by omega, fun _ => ?_⟩; simp; done) | (by_cases h : b < c <;> simp [h]; done) | (by_cases h : b = c <;> simp [h]; done)
  · cases hr
def kpmul : List SVal → Nat → Acc ORes := fun a n => match a with | [.agg [.int .u32 b, .int .u32 c]] => .ret ({ v := .int .u32 (.full (aluW 24 b.val c.val)) }) | _ => .fail "pmul"
theorem argpmul (b c : SI) : (all (subL tAtN none' [] deep [.agg [.int .u32 b, .int .u32 c]] [.agg [.int .u32 (.full b.val), .int .u32 (.full c.val)]])) = (
  SI.val b = SI.val b ∧ SI.val c = SI.val c) := by kernel_rfl
theorem runpmul (gl : List (Nat × SVal)) (b : Int) (c : Int) : (Tr.sat (plainQ (.int .u32 (.full (aluW 24 b c)))) (run (env gl []) [] (bodyOf Tryd.f80) (start [.agg [.int .u32 (.full b), .int .u32 (.full c)]] 8) (ends (env gl []) Tryd.f80.results.toList))) = (
  IntKind.wrap IntKind.u32 (b * c) = aluW (24 : Int) b c) := by kernel_rfl
set_option maxHeartbeats 4000000 in
theorem cpmul : Con ea has gl 80 kpmul := by
  refine plain_mk Tryd.func80 8 (con := []) trivial (fun hA hr hv => ?_) (by kernel_rfl) (by kernel_rfl) Tryd.ntmps80
  unfold kpmul at hr; split at hr
  · rename_i b c
    have := ret_ok hr; subst this
    refine ⟨_, [], rfl, rfl, (argpmul b c).mpr (by simp), rfl, (fun W R ρ0 own0 hown => noSums (by kernel_rfl)), (runpmul gl b.val c.val).mpr ?_⟩
    clear hr
    generalize b.val = b
    generalize c.val = c
    try simp only [aluW, w32, bits32]
    first | rfl | (simp; done) | (refine ⟨by omega, fun _ => ?_⟩; simp; done) | (by_cases h : b < c <;> simp [h]; done) | (by_cases h : b = c <;> simp [h]; done)
  · cases hr
end
end Go.Proofs.YtfbagpbncfapbaaDoor

