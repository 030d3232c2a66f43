/- Contracts that the proofs use. -/
import Derived.Test.YtpjccdncokamlaaDoorQFnDo
set_option linter.unusedVariables false
set_option linter.unusedSimpArgs false
namespace Go.Proofs.YtpjccdncokamlaaDoor
open Go.RowKit Go.Sy Go.Fac
section
variable {ea : Ear} {has : Int → Prop} {gl : List (Nat × SVal)}
def kmread : List SVal → Nat → Acc ORes := fun a n => match a with | [.rop [.ro .u32 l], .int .i64 r, .int .u32 a, .bool u] => .ret ({ v := .tuple [.int .u32 (.full (rdW l r.val a.val u.val)), .bool (.sym (rdOk l r.val a.val u.val))] }) | _ => .fail "mread"
theorem argmread (l : List Int) (r a : SI) (u : SB) : (all (subL tAtN none' [] deep [.rop [.ro .u32 l], .int .i64 r, .int .u32 a, .bool u] [.rop [.ro .u32 l], .int .i64 (.full r.val), .int .u32 (.full a.val), .bool (.sym u.val)])) = (
  l = l ∧ SI.val r = SI.val r ∧ SI.val a = SI.val a ∧ SB.val u = SB.val u) := by kernel_rfl
theorem runmread (gl : List (Nat × SVal)) (l : List Int) (r : Int) (a : Int) (u : Bool) : (Tr.sat (plainQ (.tuple [.int .u32 (.full (rdW l r a u)), .bool (.sym (rdOk l r a u))])) (run (env gl [(61, kmWalk), (18, kmRead)]) [] (bodyOf Tryd.f58) (start [.rop [.ro .u32 l], .int .i64 (.full r), .int .u32 (.full a), .bool (.sym u)] 27) (ends (env gl [(61, kmWalk), (18, kmRead)]) Tryd.f58.results.toList))) = (
  ((!wkOk l r a false u) = true → (0 : Int) = rdW l r a u ∧ false = rdOk l r a u) ∧ ((!wkOk l r a false u) = false → rd l (wkA l r a false u) = rdW l r a u ∧ inM l (wkA l r a false u) = rdOk l r a u)) := by kernel_rfl
set_option maxHeartbeats 4000000 in
theorem cmread : Con ea has gl 58 kmread := by
  refine plain_mkB Tryd.func58 27 (con := [(61, kmWalk), (18, kmRead)]) ⟨cmWalk, cmRead, trivial⟩ (fun hA hr hv => ?_) (by kernel_rfl) (by kernel_rfl) Tryd.ntmps58
  unfold kmread at hr; split at hr
  · rename_i l r a u
    have := ret_ok hr; subst this
    refine ⟨_, [], rfl, rfl, .of (argmread l r a u) (by simp), rfl, (fun W R ρ0 own0 hown => noSums (by kernel_rfl)), .of (runmread gl l r.val a.val u.val) ?_⟩
    clear hr
    obtain ⟨h1, hw⟩ := mem_fact hA
    obtain ⟨us, hB⟩ := DenA.tl hA
    obtain ⟨us, hC⟩ := DenA.tl hB
    have ha : 0 ≤ a.val := (DenA.i0 hC).lo
    clear hA hv hB hC
    refine ⟨fun h => ?_, fun h => ?_⟩
    · simp at h; simp [rdW, rdOk, h]
    · simp at h
      have k1 := wkA_lt hw ha h
      have k2 := (wkA_in hw r.val a.val false u.val ha).1
      have := inM_iff.2 ⟨k2, k1⟩
      simp [rdW, rdOk, h, this]
  · cases hr
def kmFetch : List SVal → Nat → Acc ORes := fun a n => match a with | [.rop [.ro .u32 l], .int .i64 r, .int .u32 a, .bool u] => .ret ({ v := .tuple [.agg (fetchS l r.val a.val u.val).i.enc, .agg (fetchS l r.val a.val u.val).enc] }) | _ => .fail "mFetch"
theorem argmFetch (l : List Int) (r a : SI) (u : SB) : (all (subL tAtN none' [] deep [.rop [.ro .u32 l], .int .i64 r, .int .u32 a, .bool u] [.rop [.ro .u32 l], .int .i64 (.full r.val), .int .u32 (.full a.val), .bool (.sym u.val)])) = (
  l = l ∧ SI.val r = SI.val r ∧ SI.val a = SI.val a ∧ SB.val u = SB.val u) := by kernel_rfl
theorem runmFetch (gl : List (Nat × SVal)) (l : List Int) (r : Int) (a : Int) (u : Bool) : (Tr.sat (plainQ (.tuple [.agg (fetchS l r a u).i.enc, .agg (fetchS l r a u).enc])) (run (env gl [(58, kmread), (59, kOf), (51, kTables), (60, kTwo)]) [] (bodyOf Tryd.f50) (start [.rop [.ro .u32 l], .int .i64 (.full r), .int .u32 (.full a), .bool (.sym u)] 62) (ends (env gl [(58, kmread), (59, kOf), (51, kTables), (60, kTwo)]) Tryd.f50.results.toList))) = (
  ((!rdOk l r a u) = true → (0 : Int) = (fetchS l r a u).i.op ∧ (0 : Int) = (fetchS l r a u).i.a ∧ (0 : Int) = (fetchS l r a u).i.b ∧ (0 : Int) = (fetchS l r a u).i.c ∧ (0 : Int) = (fetchS l r a u).i.imm ∧ (1 : Int) = (fetchS l r a u).cause ∧ a = (fetchS l r a u).addr ∧ (0 : Int) = (fetchS l r a u).i.op ∧ (0 : Int) = (fetchS l r a u).i.a ∧ (0 : Int) = (fetchS l r a u).i.b ∧ (0 : Int) = (fetchS l r a u).i.c ∧ (0 : Int) = (fetchS l r a u).i.imm ∧ (0 : Int) = (fetchS l r a u).len) ∧ ((!rdOk l r a u) = false → ((!ofOk (rdW l r a u)) = true → (0 : Int) = (fetchS l r a u).i.op ∧ (0 : Int) = (fetchS l r a u).i.a ∧ (0 : Int) = (fetchS l r a u).i.b ∧ (0 : Int) = (fetchS l r a u).i.c ∧ (0 : Int) = (fetchS l r a u).i.imm ∧ (4 : Int) = (fetchS l r a u).cause ∧ (0 : Int) = (fetchS l r a u).addr ∧ (0 : Int) = (fetchS l r a u).i.op ∧ (0 : Int) = (fetchS l r a u).i.a ∧ (0 : Int) = (fetchS l r a u).i.b ∧ (0 : Int) = (fetchS l r a u).i.c ∧ (0 : Int) = (fetchS l r a u).i.imm ∧ (0 : Int) = (fetchS l r a u).len) ∧ ((!ofOk (rdW l r a u)) = false → ((!isaTwo (ofF (rdW l r a u) (0 : Int)).op) = true → (ofF (rdW l r a u) (0 : Int)).op = (fetchS l r a u).i.op ∧ (ofF (rdW l r a u) (0 : Int)).a = (fetchS l r a u).i.a ∧ (ofF (rdW l r a u) (0 : Int)).b = (fetchS l r a u).i.b ∧ (ofF (rdW l r a u) (0 : Int)).c = (fetchS l r a u).i.c ∧ (ofF (rdW l r a u) (0 : Int)).imm = (fetchS l r a u).i.imm ∧ (0 : Int) = (fetchS l r a u).cause ∧ (0 : Int) = (fetchS l r a u).addr ∧ (ofF (rdW l r a u) (0 : Int)).op = (fetchS l r a u).i.op ∧ (ofF (rdW l r a u) (0 : Int)).a = (fetchS l r a u).i.a ∧ (ofF (rdW l r a u) (0 : Int)).b = (fetchS l r a u).i.b ∧ (ofF (rdW l r a u) (0 : Int)).c = (fetchS l r a u).i.c ∧ (ofF (rdW l r a u) (0 : Int)).imm = (fetchS l r a u).i.imm ∧ (1 : Int) = (fetchS l r a u).len) ∧ ((!isaTwo (ofF (rdW l r a u) (0 : Int)).op) = false → ((!rdOk l r (IntKind.wrap IntKind.u32 (a + (1 : Int))) u) = true → (0 : Int) = (fetchS l r a u).i.op ∧ (0 : Int) = (fetchS l r a u).i.a ∧ (0 : Int) = (fetchS l r a u).i.b ∧ (0 : Int) = (fetchS l r a u).i.c ∧ (0 : Int) = (fetchS l r a u).i.imm ∧ (1 : Int) = (fetchS l r a u).cause ∧ IntKind.wrap IntKind.u32 (a + (1 : Int)) = (fetchS l r a u).addr ∧ (0 : Int) = (fetchS l r a u).i.op ∧ (0 : Int) = (fetchS l r a u).i.a ∧ (0 : Int) = (fetchS l r a u).i.b ∧ (0 : Int) = (fetchS l r a u).i.c ∧ (0 : Int) = (fetchS l r a u).i.imm ∧ (0 : Int) = (fetchS l r a u).len) ∧ ((!rdOk l r (IntKind.wrap IntKind.u32 (a + (1 : Int))) u) = false → (ofF (rdW l r a u) (0 : Int)).op = (fetchS l r a u).i.op ∧ (ofF (rdW l r a u) (0 : Int)).a = (fetchS l r a u).i.a ∧ (ofF (rdW l r a u) (0 : Int)).b = (fetchS l r a u).i.b ∧ (ofF (rdW l r a u) (0 : Int)).c = (fetchS l r a u).i.c ∧ rdW l r (IntKind.wrap IntKind.u32 (a + (1 : Int))) u = (fetchS l r a u).i.imm ∧ (0 : Int) = (fetchS l r a u).cause ∧ (0 : Int) = (fetchS l r a u).addr ∧ (ofF (rdW l r a u) (0 : Int)).op = (fetchS l r a u).i.op ∧ (ofF (rdW l r a u) (0 : Int)).a = (fetchS l r a u).i.a ∧ (ofF (rdW l r a u) (0 : Int)).b = (fetchS l r a u).i.b ∧ (ofF (rdW l r a u) (0 : Int)).c = (fetchS l r a u).i.c ∧ rdW l r (IntKind.wrap IntKind.u32 (a + (1 : Int))) u = (fetchS l r a u).i.imm ∧ (2 : Int) = (fetchS l r a u).len))))) := by kernel_rfl
set_option maxHeartbeats 4000000 in
theorem cmFetch : Con ea has gl 50 kmFetch := by
  refine plain_mkB Tryd.func50 62 (con := [(58, kmread), (59, kOf), (51, kTables), (60, kTwo)]) ⟨cmread, cOf, cTables, cTwo, trivial⟩ (fun hA hr hv => ?_) (by kernel_rfl) (by kernel_rfl) Tryd.ntmps50
  unfold kmFetch at hr; split at hr
  · rename_i l r a u
    have := ret_ok hr; subst this
    refine ⟨_, [], rfl, rfl, .of (argmFetch l r a u) (by simp), rfl, (fun W R ρ0 own0 hown => noSums (by kernel_rfl)), .of (runmFetch gl l r.val a.val u.val) ?_⟩
    clear hr
    clear hA hv
    cases e1 : rdOk l r.val a.val u.val <;> cases e2 : ofOk (rdW l r.val a.val u.val) <;> cases e3 : isaTwo (ofF (rdW l r.val a.val u.val) 0).op <;> cases e4 : rdOk l r.val (IntKind.u32.wrap (a.val + 1)) u.val <;> simp [fetchS_def, e1, e2, e3, e4, In5.nul]
  · cases hr
def kmjump : List SVal → Nat → Acc ORes := fun a n => match a with | [.agg [.arr .u32 16 x, .int .u32 pc, .bool ie, .bool eie, .int .u32 epc, .int .u32 tv, .int .u32 ca, .int .u32 ad], .agg [.int .i64 ss, .int .u32 sa, .int .i64 op, .int .i64 a, .int .i64 b, .int .i64 c, .int .u32 imm, .int .u32 sl], .bool tk] => .ret ({ v := .agg (jumpC (⟨x, pc.val, ie.val, eie.val, epc.val, tv.val, ca.val, ad.val⟩ : Cpu) (⟨ss.val, sa.val, ⟨op.val, a.val, b.val, c.val, imm.val⟩, sl.val⟩ : Stp) tk.val).enc, vc := some (0 ≤ (⟨ss.val, sa.val, ⟨op.val, a.val, b.val, c.val, imm.val⟩, sl.val⟩ : Stp).i.a ∧ (⟨ss.val, sa.val, ⟨op.val, a.val, b.val, c.val, imm.val⟩, sl.val⟩ : Stp).i.a < 16) }) | _ => .fail "mjump"
theorem argmjump (x : List Int) (pc : SI) (ie eie : SB) (epc tv ca ad ss sa op a b c imm sl : SI) (tk : SB) : (all (subL tAtN none' [] deep [.agg [.arr .u32 16 x, .int .u32 pc, .bool ie, .bool eie, .int .u32 epc, .int .u32 tv, .int .u32 ca, .int .u32 ad], .agg [.int .i64 ss, .int .u32 sa, .int .i64 op, .int .i64 a, .int .i64 b, .int .i64 c, .int .u32 imm, .int .u32 sl], .bool tk] [.agg (⟨x, pc.val, ie.val, eie.val, epc.val, tv.val, ca.val, ad.val⟩ : Cpu).enc, .agg (⟨ss.val, sa.val, ⟨op.val, a.val, b.val, c.val, imm.val⟩, sl.val⟩ : Stp).enc, .bool (.sym tk.val)])) = (
  x = x ∧ SI.val pc = SI.val pc ∧ SB.val ie = SB.val ie ∧ SB.val eie = SB.val eie ∧ SI.val epc = SI.val epc ∧ SI.val tv = SI.val tv ∧ SI.val ca = SI.val ca ∧ SI.val ad = SI.val ad ∧ SI.val ss = SI.val ss ∧ SI.val sa = SI.val sa ∧ SI.val op = SI.val op ∧ SI.val a = SI.val a ∧ SI.val b = SI.val b ∧ SI.val c = SI.val c ∧ SI.val imm = SI.val imm ∧ SI.val sl = SI.val sl ∧ SB.val tk = SB.val tk) := by kernel_rfl
theorem runmjump (gl : List (Nat × SVal)) (p : Cpu) (s : Stp) (tk : Bool) : (Tr.sat (plainQ (.agg (jumpC p s tk).enc)) (run (env gl [(73, kiDisp)]) [] (bodyOf Tryd.f63) (start [.agg p.enc, .agg s.enc, .bool (.sym tk)] 63) (ends (env gl [(73, kiDisp)]) Tryd.f63.results.toList))) = (
  ((!tk) = true → (decide (s.i.op = (22 : Int)) = true → ((0 : Int) ≤ (15 : Int) ∧ (15 : Int) < (↑(16 : Nat) : Int)) ∧ ((0 : Int) ≤ (15 : Int) ∧ (15 : Int) < (↑(16 : Nat) : Int) → List.set p.r (Int.toNat (15 : Int)) (IntKind.wrap IntKind.u32 (p.pc + s.len)) = (jumpC p s tk).r ∧ IntKind.wrap IntKind.u32 (p.pc + s.len) = (jumpC p s tk).pc ∧ p.ie = (jumpC p s tk).ie ∧ p.eie = (jumpC p s tk).eie ∧ p.epc = (jumpC p s tk).epc ∧ p.tv = (jumpC p s tk).tv ∧ p.cause = (jumpC p s tk).cause ∧ p.addr = (jumpC p s tk).addr)) ∧ (decide (s.i.op = (22 : Int)) = false → p.r = (jumpC p s tk).r ∧ IntKind.wrap IntKind.u32 (p.pc + s.len) = (jumpC p s tk).pc ∧ p.ie = (jumpC p s tk).ie ∧ p.eie = (jumpC p s tk).eie ∧ p.epc = (jumpC p s tk).epc ∧ p.tv = (jumpC p s tk).tv ∧ p.cause = (jumpC p s tk).cause ∧ p.addr = (jumpC p s tk).addr)) ∧ ((!tk) = false → (decide (s.i.op = (23 : Int)) = true → ((0 : Int) ≤ s.i.a ∧ s.i.a < (↑(16 : Nat) : Int)) ∧ ((0 : Int) ≤ s.i.a ∧ s.i.a < (↑(16 : Nat) : Int) → (decide (s.i.op = (22 : Int)) = true → ((0 : Int) ≤ (15 : Int) ∧ (15 : Int) < (↑(16 : Nat) : Int)) ∧ ((0 : Int) ≤ (15 : Int) ∧ (15 : Int) < (↑(16 : Nat) : Int) → List.set p.r (Int.toNat (15 : Int)) (IntKind.wrap IntKind.u32 (p.pc + s.len)) = (jumpC p s tk).r ∧ List.getD p.r (Int.toNat s.i.a) (RT.dflt RT.u32) = (jumpC p s tk).pc ∧ p.ie = (jumpC p s tk).ie ∧ p.eie = (jumpC p s tk).eie ∧ p.epc = (jumpC p s tk).epc ∧ p.tv = (jumpC p s tk).tv ∧ p.cause = (jumpC p s tk).cause ∧ p.addr = (jumpC p s tk).addr)) ∧ (decide (s.i.op = (22 : Int)) = false → p.r = (jumpC p s tk).r ∧ List.getD p.r (Int.toNat s.i.a) (RT.dflt RT.u32) = (jumpC p s tk).pc ∧ p.ie = (jumpC p s tk).ie ∧ p.eie = (jumpC p s tk).eie ∧ p.epc = (jumpC p s tk).epc ∧ p.tv = (jumpC p s tk).tv ∧ p.cause = (jumpC p s tk).cause ∧ p.addr = (jumpC p s tk).addr))) ∧ (decide (s.i.op = (23 : Int)) = false → ((decide (s.i.op = (16 : Int)) || decide (s.i.op = (17 : Int)) || decide (s.i.op = (18 : Int))) = true → (decide (s.i.op = (22 : Int)) = true → ((0 : Int) ≤ (15 : Int) ∧ (15 : Int) < (↑(16 : Nat) : Int)) ∧ ((0 : Int) ≤ (15 : Int) ∧ (15 : Int) < (↑(16 : Nat) : Int) → List.set p.r (Int.toNat (15 : Int)) (IntKind.wrap IntKind.u32 (p.pc + s.len)) = (jumpC p s tk).r ∧ IntKind.wrap IntKind.u32 (p.pc + IntKind.wrap IntKind.u32 (dispM s.i.c)) = (jumpC p s tk).pc ∧ p.ie = (jumpC p s tk).ie ∧ p.eie = (jumpC p s tk).eie ∧ p.epc = (jumpC p s tk).epc ∧ p.tv = (jumpC p s tk).tv ∧ p.cause = (jumpC p s tk).cause ∧ p.addr = (jumpC p s tk).addr)) ∧ (decide (s.i.op = (22 : Int)) = false → p.r = (jumpC p s tk).r ∧ IntKind.wrap IntKind.u32 (p.pc + IntKind.wrap IntKind.u32 (dispM s.i.c)) = (jumpC p s tk).pc ∧ p.ie = (jumpC p s tk).ie ∧ p.eie = (jumpC p s tk).eie ∧ p.epc = (jumpC p s tk).epc ∧ p.tv = (jumpC p s tk).tv ∧ p.cause = (jumpC p s tk).cause ∧ p.addr = (jumpC p s tk).addr)) ∧ ((decide (s.i.op = (16 : Int)) || decide (s.i.op = (17 : Int)) || decide (s.i.op = (18 : Int))) = false → (decide (s.i.op = (22 : Int)) = true → ((0 : Int) ≤ (15 : Int) ∧ (15 : Int) < (↑(16 : Nat) : Int)) ∧ ((0 : Int) ≤ (15 : Int) ∧ (15 : Int) < (↑(16 : Nat) : Int) → List.set p.r (Int.toNat (15 : Int)) (IntKind.wrap IntKind.u32 (p.pc + s.len)) = (jumpC p s tk).r ∧ s.i.imm = (jumpC p s tk).pc ∧ p.ie = (jumpC p s tk).ie ∧ p.eie = (jumpC p s tk).eie ∧ p.epc = (jumpC p s tk).epc ∧ p.tv = (jumpC p s tk).tv ∧ p.cause = (jumpC p s tk).cause ∧ p.addr = (jumpC p s tk).addr)) ∧ (decide (s.i.op = (22 : Int)) = false → p.r = (jumpC p s tk).r ∧ s.i.imm = (jumpC p s tk).pc ∧ p.ie = (jumpC p s tk).ie ∧ p.eie = (jumpC p s tk).eie ∧ p.epc = (jumpC p s tk).epc ∧ p.tv = (jumpC p s tk).tv ∧ p.cause = (jumpC p s tk).cause ∧ p.addr = (jumpC p s tk).addr))))) := by kernel_rfl
set_option maxHeartbeats 4000000 in
theorem gmjump (p : Cpu) (s : Stp) (tk : Bool)  (hv : 0 ≤ s.i.a ∧ s.i.a < 16) : Box (Tr.sat (plainQ (.agg (jumpC p s tk).enc)) (run (env gl [(73, kiDisp)]) [] (bodyOf Tryd.f63) (start [.agg p.enc, .agg s.enc, .bool (.sym tk)] 63) (ends (env gl [(73, kiDisp)]) Tryd.f63.results.toList))) := by
  refine .of (runmjump gl p s tk) ?_
  have d0 : RT.u32.dflt = (0 : Int) := rfl
  have t15 : Int.toNat 15 = 15 := rfl
  cases tk <;> by_cases h22 : s.i.op = 22 <;> by_cases h23 : s.i.op = 23 <;> by_cases h16 : s.i.op = 16 ∨ s.i.op = 17 ∨ s.i.op = 18 <;> simp [jumpC, h22, h23, h16, d0, rg, hv, or_assoc] <;> omega
set_option maxHeartbeats 4000000 in
theorem cmjump : Con ea has gl 63 kmjump := by
  refine plain_mkB Tryd.func63 63 (con := [(73, kiDisp)]) ⟨ciDisp, trivial⟩ (fun hA hr hv => ?_) (by kernel_rfl) (by kernel_rfl) Tryd.ntmps63
  unfold kmjump at hr; split at hr
  · rename_i x pc ie eie epc tv ca ad ss sa op a b c imm sl tk
    have := ret_ok hr; subst this
    replace hv := hv _ rfl
    exact ⟨_, [], rfl, rfl, .of (argmjump x pc ie eie epc tv ca ad ss sa op a b c imm sl tk) (by simp), rfl, (fun W R ρ0 own0 hown => noSums (by kernel_rfl)), gmjump ⟨x, pc.val, ie.val, eie.val, epc.val, tv.val, ca.val, ad.val⟩ ⟨ss.val, sa.val, ⟨op.val, a.val, b.val, c.val, imm.val⟩, sl.val⟩ tk.val  hv⟩
  · cases hr
end
end Go.Proofs.YtpjccdncokamlaaDoor

