/- Contracts. -/
import Derived.Test.YtpjccdncokamlaaGreatDoorQFnDo
set_option maxHeartbeats 4000000
set_option linter.unusedVariables false
set_option linter.unusedSimpArgs false
namespace Go.Proofs.YtpjccdncokamlaaGreatDoor
open Go.RowKit Go.Sy Go.Fac
section
variable {ea : Ear} {has : Int → Prop} {gl : List (Nat × SVal)}
def kmread : List SVal → Nat → Acc ORes := fun a n => match a with | [.rop [.ro .u32 l], .int .i64 r, .int .u32 a, .bool u] => .ret ({ v := .tuple [.int .u32 (.full (rdW l r.val a.val u.val)), .bool (.sym (rdOk l r.val a.val u.val))] }) | _ => .fail "mread"
theorem argmread (l : List Int) (r a : SI) (u : SB) : (all (subL tAtN none' [] deep [.rop [.ro .u32 l], .int .i64 r, .int .u32 a, .bool u] [.rop [.ro .u32 l], .int .i64 (.full r.val), .int .u32 (.full a.val), .bool (.sym u.val)])) = (
  l = l ∧ SI.val r = SI.val r ∧ SI.val a = SI.val a ∧ SB.val u = SB.val u) := by kernel_rfl
theorem runmread (gl : List (Nat × SVal)) (l : List Int) (r : Int) (a : Int) (u : Bool) : (Tr.sat (plainQ (.tuple [.int .u32 (.full (rdW l r a u)), .bool (.sym (rdOk l r a u))])) (run (env gl [(101, kmWalk), (102, kmRead)]) [] (bodyOf Tryz.f98) (start [.rop [.ro .u32 l], .int .i64 (.full r), .int .u32 (.full a), .bool (.sym u)] 27) (ends (env gl [(101, kmWalk), (102, kmRead)]) Tryz.f98.results.toList))) = (
  IT (!wkOk l r a false u) ((0 : Int) = rdW l r a u ∧ false = rdOk l r a u) (rd l (wkA l r a false u) = rdW l r a u ∧ inM l (wkA l r a false u) = rdOk l r a u)) := by kernel_rfl
theorem cmread : Con ea has gl 98 kmread := by
  refine plain_mkB Tryz.func98 27 (con := [(101, kmWalk), (102, kmRead)]) ⟨cmWalk, cmRead, trivial⟩ (fun hA hr hv => ?_) (by kernel_rfl) (by kernel_rfl) Tryz.ntmps98
  unfold kmread at hr; split at hr
  · rename_i l r a u
    have := ret_ok hr; subst this
    refine ⟨_, [], rfl, rfl, .of (argmread l r a u) (by simp), rfl, (fun W R ρ0 own0 hown => noSums (by kernel_rfl)), .of (runmread gl l r.val a.val u.val) ?_⟩
    delta IT
    clear hr
    obtain ⟨h1, hw⟩ := mem_fact hA
    obtain ⟨us, hB⟩ := DenA.tl hA
    obtain ⟨us, hC⟩ := DenA.tl hB
    have ha : 0 ≤ a.val := (DenA.i0 hC).lo
    clear hA hv hB hC
    refine ⟨fun h => ?_, fun h => ?_⟩
    · simp at h; simp [rdW, rdOk, h]
    · simp at h
      have k1 := wkA_lt hw ha h
      have k2 := (wkA_in hw r.val a.val false u.val ha).1
      have := inM_iff.2 ⟨k2, k1⟩
      simp [rdW, rdOk, h, this]
  · cases hr
def kmFetch : List SVal → Nat → Acc ORes := fun a n => match a with | [.rop [.ro .u32 l], .int .i64 r, .int .u32 a, .bool u] => .ret ({ v := .tuple [.agg (fetchS l r.val a.val u.val).i.enc, .agg (fetchS l r.val a.val u.val).enc] }) | _ => .fail "mFetch"
theorem argmFetch (l : List Int) (r a : SI) (u : SB) : (all (subL tAtN none' [] deep [.rop [.ro .u32 l], .int .i64 r, .int .u32 a, .bool u] [.rop [.ro .u32 l], .int .i64 (.full r.val), .int .u32 (.full a.val), .bool (.sym u.val)])) = (
  l = l ∧ SI.val r = SI.val r ∧ SI.val a = SI.val a ∧ SB.val u = SB.val u) := by kernel_rfl
theorem runmFetch (gl : List (Nat × SVal)) (l : List Int) (r : Int) (a : Int) (u : Bool) : (Tr.sat (plainQ (.tuple [.agg (fetchS l r a u).i.enc, .agg (fetchS l r a u).enc])) (run (env gl [(98, kmread), (99, kOf), (67, kTables), (100, kTwo)]) [] (bodyOf Tryz.f66) (start [.rop [.ro .u32 l], .int .i64 (.full r), .int .u32 (.full a), .bool (.sym u)] 62) (ends (env gl [(98, kmread), (99, kOf), (67, kTables), (100, kTwo)]) Tryz.f66.results.toList))) = (
  IT (!rdOk l r a u) ((0 : Int) = (fetchS l r a u).i.op ∧ (0 : Int) = (fetchS l r a u).i.a ∧ (0 : Int) = (fetchS l r a u).i.b ∧ (0 : Int) = (fetchS l r a u).i.c ∧ (0 : Int) = (fetchS l r a u).i.imm ∧ (1 : Int) = (fetchS l r a u).cause ∧ a = (fetchS l r a u).addr ∧ (0 : Int) = (fetchS l r a u).i.op ∧ (0 : Int) = (fetchS l r a u).i.a ∧ (0 : Int) = (fetchS l r a u).i.b ∧ (0 : Int) = (fetchS l r a u).i.c ∧ (0 : Int) = (fetchS l r a u).i.imm ∧ (0 : Int) = (fetchS l r a u).len) (IT (!ofOk (rdW l r a u)) ((0 : Int) = (fetchS l r a u).i.op ∧ (0 : Int) = (fetchS l r a u).i.a ∧ (0 : Int) = (fetchS l r a u).i.b ∧ (0 : Int) = (fetchS l r a u).i.c ∧ (0 : Int) = (fetchS l r a u).i.imm ∧ (4 : Int) = (fetchS l r a u).cause ∧ (0 : Int) = (fetchS l r a u).addr ∧ (0 : Int) = (fetchS l r a u).i.op ∧ (0 : Int) = (fetchS l r a u).i.a ∧ (0 : Int) = (fetchS l r a u).i.b ∧ (0 : Int) = (fetchS l r a u).i.c ∧ (0 : Int) = (fetchS l r a u).i.imm ∧ (0 : Int) = (fetchS l r a u).len) (IT (!isaTwo (ofF (rdW l r a u) (0 : Int)).op) ((ofF (rdW l r a u) (0 : Int)).op = (fetchS l r a u).i.op ∧ (ofF (rdW l r a u) (0 : Int)).a = (fetchS l r a u).i.a ∧ (ofF (rdW l r a u) (0 : Int)).b = (fetchS l r a u).i.b ∧ (ofF (rdW l r a u) (0 : Int)).c = (fetchS l r a u).i.c ∧ (ofF (rdW l r a u) (0 : Int)).imm = (fetchS l r a u).i.imm ∧ (0 : Int) = (fetchS l r a u).cause ∧ (0 : Int) = (fetchS l r a u).addr ∧ (ofF (rdW l r a u) (0 : Int)).op = (fetchS l r a u).i.op ∧ (ofF (rdW l r a u) (0 : Int)).a = (fetchS l r a u).i.a ∧ (ofF (rdW l r a u) (0 : Int)).b = (fetchS l r a u).i.b ∧ (ofF (rdW l r a u) (0 : Int)).c = (fetchS l r a u).i.c ∧ (ofF (rdW l r a u) (0 : Int)).imm = (fetchS l r a u).i.imm ∧ (1 : Int) = (fetchS l r a u).len) (IT (!rdOk l r (IntKind.wrap IntKind.u32 (a + 1)) u) ((0 : Int) = (fetchS l r a u).i.op ∧ (0 : Int) = (fetchS l r a u).i.a ∧ (0 : Int) = (fetchS l r a u).i.b ∧ (0 : Int) = (fetchS l r a u).i.c ∧ (0 : Int) = (fetchS l r a u).i.imm ∧ (1 : Int) = (fetchS l r a u).cause ∧ IntKind.wrap IntKind.u32 (a + 1) = (fetchS l r a u).addr ∧ (0 : Int) = (fetchS l r a u).i.op ∧ (0 : Int) = (fetchS l r a u).i.a ∧ (0 : Int) = (fetchS l r a u).i.b ∧ (0 : Int) = (fetchS l r a u).i.c ∧ (0 : Int) = (fetchS l r a u).i.imm ∧ (0 : Int) = (fetchS l r a u).len) ((ofF (rdW l r a u) (0 : Int)).op = (fetchS l r a u).i.op ∧ (ofF (rdW l r a u) (0 : Int)).a = (fetchS l r a u).i.a ∧ (ofF (rdW l r a u) (0 : Int)).b = (fetchS l r a u).i.b ∧ (ofF (rdW l r a u) (0 : Int)).c = (fetchS l r a u).i.c ∧ rdW l r (IntKind.wrap IntKind.u32 (a + 1)) u = (fetchS l r a u).i.imm ∧ (0 : Int) = (fetchS l r a u).cause ∧ (0 : Int) = (fetchS l r a u).addr ∧ (ofF (rdW l r a u) (0 : Int)).op = (fetchS l r a u).i.op ∧ (ofF (rdW l r a u) (0 : Int)).a = (fetchS l r a u).i.a ∧ (ofF (rdW l r a u) (0 : Int)).b = (fetchS l r a u).i.b ∧ (ofF (rdW l r a u) (0 : Int)).c = (fetchS l r a u).i.c ∧ rdW l r (IntKind.wrap IntKind.u32 (a + 1)) u = (fetchS l r a u).i.imm ∧ (2 : Int) = (fetchS l r a u).len))))) := by kernel_rfl
theorem cmFetch : Con ea has gl 66 kmFetch := by
  refine plain_mkB Tryz.func66 62 (con := [(98, kmread), (99, kOf), (67, kTables), (100, kTwo)]) ⟨cmread, cOf, cTables, cTwo, trivial⟩ (fun hA hr hv => ?_) (by kernel_rfl) (by kernel_rfl) Tryz.ntmps66
  unfold kmFetch at hr; split at hr
  · rename_i l r a u
    have := ret_ok hr; subst this
    refine ⟨_, [], rfl, rfl, .of (argmFetch l r a u) (by simp), rfl, (fun W R ρ0 own0 hown => noSums (by kernel_rfl)), .of (runmFetch gl l r.val a.val u.val) ?_⟩
    delta IT
    clear hr
    clear hA hv
    cases e1 : rdOk l r.val a.val u.val <;> cases e2 : ofOk (rdW l r.val a.val u.val) <;> cases e3 : isaTwo (ofF (rdW l r.val a.val u.val) 0).op <;> cases e4 : rdOk l r.val (IntKind.u32.wrap (a.val + 1)) u.val <;> simp [fetchS_def, e1, e2, e3, e4, In5.nul]
  · cases hr
def krFetch : List SVal → Nat → Acc ORes := fun a n => match a with | [.rop [.ro .u32 l], .int .i64 r, .int .u32 a, .bool u] => .ret ({ v := .tuple [.agg (fetchS l r.val a.val u.val).i.enc, .agg (fetchS l r.val a.val u.val).enc] }) | _ => .fail "rFetch"
theorem argrFetch (l : List Int) (r a : SI) (u : SB) : (all (subL tAtN none' [] deep [.rop [.ro .u32 l], .int .i64 r, .int .u32 a, .bool u] [.rop [.ro .u32 l], .int .i64 (.full r.val), .int .u32 (.full a.val), .bool (.sym u.val)])) = (
  l = l ∧ SI.val r = SI.val r ∧ SI.val a = SI.val a ∧ SB.val u = SB.val u) := by kernel_rfl
theorem runrFetch (gl : List (Nat × SVal)) (l : List Int) (r : Int) (a : Int) (u : Bool) : (Tr.sat (plainQ (.tuple [.agg (fetchS l r a u).i.enc, .agg (fetchS l r a u).enc])) (run (env gl [(76, krWalk), (77, krRead), (93, krOf), (94, krTwo)]) [] (bodyOf Tryz.f49) (start [.rop [.ro .u32 l], .int .i64 (.full r), .int .u32 (.full a), .bool (.sym u)] 81) (ends (env gl [(76, krWalk), (77, krRead), (93, krOf), (94, krTwo)]) Tryz.f49.results.toList))) = (
  IT (!wkOk l r a false u) ((0 : Int) = (fetchS l r a u).i.op ∧ (0 : Int) = (fetchS l r a u).i.a ∧ (0 : Int) = (fetchS l r a u).i.b ∧ (0 : Int) = (fetchS l r a u).i.c ∧ (0 : Int) = (fetchS l r a u).i.imm ∧ (1 : Int) = (fetchS l r a u).cause ∧ a = (fetchS l r a u).addr ∧ (0 : Int) = (fetchS l r a u).i.op ∧ (0 : Int) = (fetchS l r a u).i.a ∧ (0 : Int) = (fetchS l r a u).i.b ∧ (0 : Int) = (fetchS l r a u).i.c ∧ (0 : Int) = (fetchS l r a u).i.imm ∧ (0 : Int) = (fetchS l r a u).len) (IT (!ofOk (rd l (wkA l r a false u))) ((0 : Int) = (fetchS l r a u).i.op ∧ (0 : Int) = (fetchS l r a u).i.a ∧ (0 : Int) = (fetchS l r a u).i.b ∧ (0 : Int) = (fetchS l r a u).i.c ∧ (0 : Int) = (fetchS l r a u).i.imm ∧ (4 : Int) = (fetchS l r a u).cause ∧ (0 : Int) = (fetchS l r a u).addr ∧ (0 : Int) = (fetchS l r a u).i.op ∧ (0 : Int) = (fetchS l r a u).i.a ∧ (0 : Int) = (fetchS l r a u).i.b ∧ (0 : Int) = (fetchS l r a u).i.c ∧ (0 : Int) = (fetchS l r a u).i.imm ∧ (0 : Int) = (fetchS l r a u).len) (IT (!isaTwo (ofF (rd l (wkA l r a false u)) (0 : Int)).op) ((ofF (rd l (wkA l r a false u)) (0 : Int)).op = (fetchS l r a u).i.op ∧ (ofF (rd l (wkA l r a false u)) (0 : Int)).a = (fetchS l r a u).i.a ∧ (ofF (rd l (wkA l r a false u)) (0 : Int)).b = (fetchS l r a u).i.b ∧ (ofF (rd l (wkA l r a false u)) (0 : Int)).c = (fetchS l r a u).i.c ∧ (ofF (rd l (wkA l r a false u)) (0 : Int)).imm = (fetchS l r a u).i.imm ∧ (0 : Int) = (fetchS l r a u).cause ∧ (0 : Int) = (fetchS l r a u).addr ∧ (ofF (rd l (wkA l r a false u)) (0 : Int)).op = (fetchS l r a u).i.op ∧ (ofF (rd l (wkA l r a false u)) (0 : Int)).a = (fetchS l r a u).i.a ∧ (ofF (rd l (wkA l r a false u)) (0 : Int)).b = (fetchS l r a u).i.b ∧ (ofF (rd l (wkA l r a false u)) (0 : Int)).c = (fetchS l r a u).i.c ∧ (ofF (rd l (wkA l r a false u)) (0 : Int)).imm = (fetchS l r a u).i.imm ∧ (1 : Int) = (fetchS l r a u).len) (IT (!wkOk l r (IntKind.wrap IntKind.u32 (a + 1)) false u) ((0 : Int) = (fetchS l r a u).i.op ∧ (0 : Int) = (fetchS l r a u).i.a ∧ (0 : Int) = (fetchS l r a u).i.b ∧ (0 : Int) = (fetchS l r a u).i.c ∧ (0 : Int) = (fetchS l r a u).i.imm ∧ (1 : Int) = (fetchS l r a u).cause ∧ IntKind.wrap IntKind.u32 (a + 1) = (fetchS l r a u).addr ∧ (0 : Int) = (fetchS l r a u).i.op ∧ (0 : Int) = (fetchS l r a u).i.a ∧ (0 : Int) = (fetchS l r a u).i.b ∧ (0 : Int) = (fetchS l r a u).i.c ∧ (0 : Int) = (fetchS l r a u).i.imm ∧ (0 : Int) = (fetchS l r a u).len) ((ofF (rd l (wkA l r a false u)) (0 : Int)).op = (fetchS l r a u).i.op ∧ (ofF (rd l (wkA l r a false u)) (0 : Int)).a = (fetchS l r a u).i.a ∧ (ofF (rd l (wkA l r a false u)) (0 : Int)).b = (fetchS l r a u).i.b ∧ (ofF (rd l (wkA l r a false u)) (0 : Int)).c = (fetchS l r a u).i.c ∧ rd l (wkA l r (IntKind.wrap IntKind.u32 (a + 1)) false u) = (fetchS l r a u).i.imm ∧ (0 : Int) = (fetchS l r a u).cause ∧ (0 : Int) = (fetchS l r a u).addr ∧ (ofF (rd l (wkA l r a false u)) (0 : Int)).op = (fetchS l r a u).i.op ∧ (ofF (rd l (wkA l r a false u)) (0 : Int)).a = (fetchS l r a u).i.a ∧ (ofF (rd l (wkA l r a false u)) (0 : Int)).b = (fetchS l r a u).i.b ∧ (ofF (rd l (wkA l r a false u)) (0 : Int)).c = (fetchS l r a u).i.c ∧ rd l (wkA l r (IntKind.wrap IntKind.u32 (a + 1)) false u) = (fetchS l r a u).i.imm ∧ (2 : Int) = (fetchS l r a u).len))))) := by kernel_rfl
theorem crFetch : Con ea has gl 49 krFetch := by
  refine plain_mkB Tryz.func49 81 (con := [(76, krWalk), (77, krRead), (93, krOf), (94, krTwo)]) ⟨crWalk, crRead, crOf, crTwo, trivial⟩ (fun hA hr hv => ?_) (by kernel_rfl) (by kernel_rfl) Tryz.ntmps49
  unfold krFetch at hr; split at hr
  · rename_i l r a u
    have := ret_ok hr; subst this
    refine ⟨_, [], rfl, rfl, .of (argrFetch l r a u) (by simp), rfl, (fun W R ρ0 own0 hown => noSums (by kernel_rfl)), .of (runrFetch gl l r.val a.val u.val) ?_⟩
    delta IT
    clear hr
    clear hA hv
    have q : ∀ a, rdOk l r.val a u.val = true → rdW l r.val a u.val = rd l (wkA l r.val a false u.val) := fun a h => by unfold rdW; rw [if_pos h]
    have o : ∀ a, wkOk l r.val a false u.val = rdOk l r.val a u.val := fun a => rfl
    simp only [o]
    have q1 := q a.val
    have q2 := q (IntKind.u32.wrap (a.val + 1))
    cases e1 : rdOk l r.val a.val u.val
    · simp [fetchS_def, e1, In5.nul]
    · rw [e1] at q1; rw [← q1 rfl]
      cases e4 : rdOk l r.val (IntKind.u32.wrap (a.val + 1)) u.val
      · cases e2 : ofOk (rdW l r.val a.val u.val) <;> cases e3 : isaTwo (ofF (rdW l r.val a.val u.val) 0).op <;> simp [fetchS_def, e1, e2, e3, e4, In5.nul]
      · rw [e4] at q2; rw [← q2 rfl]
        cases e2 : ofOk (rdW l r.val a.val u.val) <;> cases e3 : isaTwo (ofF (rdW l r.val a.val u.val) 0).op <;> simp [fetchS_def, e1, e2, e3, e4, In5.nul]
  · cases hr
def kmjump : List SVal → Nat → Acc ORes := fun a n => match a with | [.agg [.arr .u32 16 x, .int .u32 pc, .bool ie, .bool eie, .int .u32 epc, .int .u32 tv, .int .u32 ca, .int .u32 ad], .agg [.int .i64 ss, .int .u32 sa, .int .i64 op, .int .i64 a, .int .i64 b, .int .i64 c, .int .u32 imm, .int .u32 sl], .bool tk] => .ret ({ v := .agg (jumpC (⟨x, pc.val, ie.val, eie.val, epc.val, tv.val, ca.val, ad.val⟩ : Cpu) (⟨ss.val, sa.val, ⟨op.val, a.val, b.val, c.val, imm.val⟩, sl.val⟩ : Stp) tk.val).enc, vc := some (0 ≤ (⟨ss.val, sa.val, ⟨op.val, a.val, b.val, c.val, imm.val⟩, sl.val⟩ : Stp).i.a ∧ (⟨ss.val, sa.val, ⟨op.val, a.val, b.val, c.val, imm.val⟩, sl.val⟩ : Stp).i.a < 16) }) | _ => .fail "mjump"
theorem argmjump (x : List Int) (pc : SI) (ie eie : SB) (epc tv ca ad ss sa op a b c imm sl : SI) (tk : SB) : (all (subL tAtN none' [] deep [.agg [.arr .u32 16 x, .int .u32 pc, .bool ie, .bool eie, .int .u32 epc, .int .u32 tv, .int .u32 ca, .int .u32 ad], .agg [.int .i64 ss, .int .u32 sa, .int .i64 op, .int .i64 a, .int .i64 b, .int .i64 c, .int .u32 imm, .int .u32 sl], .bool tk] [.agg (⟨x, pc.val, ie.val, eie.val, epc.val, tv.val, ca.val, ad.val⟩ : Cpu).enc, .agg (⟨ss.val, sa.val, ⟨op.val, a.val, b.val, c.val, imm.val⟩, sl.val⟩ : Stp).enc, .bool (.sym tk.val)])) = (
  x = x ∧ SI.val pc = SI.val pc ∧ SB.val ie = SB.val ie ∧ SB.val eie = SB.val eie ∧ SI.val epc = SI.val epc ∧ SI.val tv = SI.val tv ∧ SI.val ca = SI.val ca ∧ SI.val ad = SI.val ad ∧ SI.val ss = SI.val ss ∧ SI.val sa = SI.val sa ∧ SI.val op = SI.val op ∧ SI.val a = SI.val a ∧ SI.val b = SI.val b ∧ SI.val c = SI.val c ∧ SI.val imm = SI.val imm ∧ SI.val sl = SI.val sl ∧ SB.val tk = SB.val tk) := by kernel_rfl
abbrev Tmjump (gl : List (Nat × SVal)) (p : Cpu) (s : Stp) (tk : Bool) : Prop := Tr.sat (plainQ (.agg (jumpC p s tk).enc)) (run (env gl [(118, kiDisp)]) [] (bodyOf Tryz.f104) (start [.agg p.enc, .agg s.enc, .bool (.sym tk)] 63) (ends (env gl [(118, kiDisp)]) Tryz.f104.results.toList))
theorem runmjump (gl : List (Nat × SVal)) (p : Cpu) (s : Stp) (tk : Bool) : (Tmjump gl p s tk) = (
  IT (!tk) (IT (decide (s.i.op = 22)) (RQ ((0 : Int) ≤ (15 : Int) ∧ (15 : Int) < ((16 : Nat) : Int)) (List.set p.r (Int.toNat (15 : Int)) (IntKind.wrap IntKind.u32 (p.pc + s.len)) = (jumpC p s tk).r ∧ IntKind.wrap IntKind.u32 (p.pc + s.len) = (jumpC p s tk).pc ∧ p.ie = (jumpC p s tk).ie ∧ p.eie = (jumpC p s tk).eie ∧ p.epc = (jumpC p s tk).epc ∧ p.tv = (jumpC p s tk).tv ∧ p.cause = (jumpC p s tk).cause ∧ p.addr = (jumpC p s tk).addr)) (p.r = (jumpC p s tk).r ∧ IntKind.wrap IntKind.u32 (p.pc + s.len) = (jumpC p s tk).pc ∧ p.ie = (jumpC p s tk).ie ∧ p.eie = (jumpC p s tk).eie ∧ p.epc = (jumpC p s tk).epc ∧ p.tv = (jumpC p s tk).tv ∧ p.cause = (jumpC p s tk).cause ∧ p.addr = (jumpC p s tk).addr)) (IT (decide (s.i.op = 23)) (RQ (0 ≤ s.i.a ∧ s.i.a < ((16 : Nat) : Int)) (IT (decide (s.i.op = 22)) (RQ ((0 : Int) ≤ (15 : Int) ∧ (15 : Int) < ((16 : Nat) : Int)) (List.set p.r (Int.toNat (15 : Int)) (IntKind.wrap IntKind.u32 (p.pc + s.len)) = (jumpC p s tk).r ∧ List.getD p.r (Int.toNat s.i.a) (RT.dflt RT.u32) = (jumpC p s tk).pc ∧ p.ie = (jumpC p s tk).ie ∧ p.eie = (jumpC p s tk).eie ∧ p.epc = (jumpC p s tk).epc ∧ p.tv = (jumpC p s tk).tv ∧ p.cause = (jumpC p s tk).cause ∧ p.addr = (jumpC p s tk).addr)) (p.r = (jumpC p s tk).r ∧ List.getD p.r (Int.toNat s.i.a) (RT.dflt RT.u32) = (jumpC p s tk).pc ∧ p.ie = (jumpC p s tk).ie ∧ p.eie = (jumpC p s tk).eie ∧ p.epc = (jumpC p s tk).epc ∧ p.tv = (jumpC p s tk).tv ∧ p.cause = (jumpC p s tk).cause ∧ p.addr = (jumpC p s tk).addr))) (IT (decide (s.i.op = 16) || decide (s.i.op = 17) || decide (s.i.op = 18)) (IT (decide (s.i.op = 22)) (RQ ((0 : Int) ≤ (15 : Int) ∧ (15 : Int) < ((16 : Nat) : Int)) (List.set p.r (Int.toNat (15 : Int)) (IntKind.wrap IntKind.u32 (p.pc + s.len)) = (jumpC p s tk).r ∧ IntKind.wrap IntKind.u32 (p.pc + IntKind.wrap IntKind.u32 (dispM s.i.c)) = (jumpC p s tk).pc ∧ p.ie = (jumpC p s tk).ie ∧ p.eie = (jumpC p s tk).eie ∧ p.epc = (jumpC p s tk).epc ∧ p.tv = (jumpC p s tk).tv ∧ p.cause = (jumpC p s tk).cause ∧ p.addr = (jumpC p s tk).addr)) (p.r = (jumpC p s tk).r ∧ IntKind.wrap IntKind.u32 (p.pc + IntKind.wrap IntKind.u32 (dispM s.i.c)) = (jumpC p s tk).pc ∧ p.ie = (jumpC p s tk).ie ∧ p.eie = (jumpC p s tk).eie ∧ p.epc = (jumpC p s tk).epc ∧ p.tv = (jumpC p s tk).tv ∧ p.cause = (jumpC p s tk).cause ∧ p.addr = (jumpC p s tk).addr)) (IT (decide (s.i.op = 22)) (RQ ((0 : Int) ≤ (15 : Int) ∧ (15 : Int) < ((16 : Nat) : Int)) (List.set p.r (Int.toNat (15 : Int)) (IntKind.wrap IntKind.u32 (p.pc + s.len)) = (jumpC p s tk).r ∧ s.i.imm = (jumpC p s tk).pc ∧ p.ie = (jumpC p s tk).ie ∧ p.eie = (jumpC p s tk).eie ∧ p.epc = (jumpC p s tk).epc ∧ p.tv = (jumpC p s tk).tv ∧ p.cause = (jumpC p s tk).cause ∧ p.addr = (jumpC p s tk).addr)) (p.r = (jumpC p s tk).r ∧ s.i.imm = (jumpC p s tk).pc ∧ p.ie = (jumpC p s tk).ie ∧ p.eie = (jumpC p s tk).eie ∧ p.epc = (jumpC p s tk).epc ∧ p.tv = (jumpC p s tk).tv ∧ p.cause = (jumpC p s tk).cause ∧ p.addr = (jumpC p s tk).addr))))) := by kernel_rfl
theorem gmjump (p : Cpu) (s : Stp) (tk : Bool)  (hv : 0 ≤ s.i.a ∧ s.i.a < 16) : Box (Tmjump gl p s tk) := by
  refine .of (runmjump gl p s tk) ?_
  delta RQ IT
  have d0 : RT.u32.dflt = (0 : Int) := rfl
  have t15 : Int.toNat 15 = 15 := rfl
  cases tk <;> by_cases h22 : s.i.op = 22 <;> by_cases h23 : s.i.op = 23 <;> by_cases h16 : s.i.op = 16 ∨ s.i.op = 17 ∨ s.i.op = 18 <;> simp [jumpC, h22, h23, h16, d0, rg, hv, or_assoc] <;> omega
theorem cmjump : Con ea has gl 104 kmjump := by
  refine plain_mkB Tryz.func104 63 (con := [(118, kiDisp)]) ⟨ciDisp, trivial⟩ (fun hA hr hv => ?_) (by kernel_rfl) (by kernel_rfl) Tryz.ntmps104
  unfold kmjump at hr; split at hr
  · rename_i x pc ie eie epc tv ca ad ss sa op a b c imm sl tk
    have := ret_ok hr; subst this
    replace hv := hv _ rfl
    exact ⟨_, [], rfl, rfl, .of (argmjump x pc ie eie epc tv ca ad ss sa op a b c imm sl tk) (by simp), rfl, (fun W R ρ0 own0 hown => noSums (by kernel_rfl)), gmjump ⟨x, pc.val, ie.val, eie.val, epc.val, tv.val, ca.val, ad.val⟩ ⟨ss.val, sa.val, ⟨op.val, a.val, b.val, c.val, imm.val⟩, sl.val⟩ tk.val  hv⟩
  · cases hr
end
end Go.Proofs.YtpjccdncokamlaaGreatDoor

