/- Contracts. -/
import Derived.Test.YtpjccdncokamlaaGreatDoorQFnCore
set_option maxHeartbeats 4000000
set_option linter.unusedVariables false
set_option linter.unusedSimpArgs false
namespace Go.Proofs.YtpjccdncokamlaaGreatDoor
open Go.RowKit Go.Sy Go.Fac
section
variable {ea : Ear} {has : Int → Prop} {gl : List (Nat × SVal)}
def kmWrite : List SVal → Nat → Acc ORes := fun a n => match a with
  | [.ptr q 0, .int .i64 a, .int .u32 w] => .look q fun cc => match cc with | some (.cells [.own p]) => (.look p fun cc => match cc with | some (.recs .u32 l) => (match nodupB [q, p] with | true => .ret (genR [q, p] (gone []) n (.bool (.sym (inM l a.val))) ([(0, .cells [.own 1]), (1, .recs .u32 (wr l a.val w.val))]) 0) | false => .fail "mWrite") | _ => .fail "mWrite") | _ => .fail "mWrite"
  | _ => .fail "mWrite"
theorem fitmWrite (gl : List (Nat × SVal)) (a w : SI) (l : List Int) : (fits (envK gl [] 2) (S1 [.ptr 0 0, .int .i64 a, .int .u32 w] (numC 0 [.cells [.own 1], .recs .u32 l]) 2 25) (S1 [.ptr 0 0, .int .i64 (.full a.val), .int .u32 (.full w.val)] [(0, some (.cells [.own 1])), (1, some (.recs .u32 l))] 2 25)) = (
  SI.val a = SI.val a ∧ SI.val w = SI.val w ∧ l = l) := by kernel_rfl
abbrev TmWrite (gl : List (Nat × SVal)) (a : Int) (w : Int) (l : List Int) : Prop := Tr.sat (newQ (envK gl [] 2) (.bool (.sym (inM l a))) ([(0, .cells [.own 1]), (1, .recs .u32 (wr l a w))]) (2 + 0)) (run (envK gl [] 2) [] (bodyOf Tryz.f21) (S1 [.ptr 0 0, .int .i64 (.full a), .int .u32 (.full w)] [(0, some (.cells [.own 1])), (1, some (.recs .u32 l))] 2 25) (ends (envK gl [] 2) Tryz.f21.results.toList))
theorem runmWrite (gl : List (Nat × SVal)) (a : Int) (w : Int) (l : List Int) : (TmWrite gl a w l) = (
  IT (decide (a < 0) || decide (((List.length l) : Int) ≤ a)) (false = inM l a ∧ l = wr l a w) (RQ (0 ≤ a ∧ a < ((List.length l) : Int)) (true = inM l a ∧ List.set l (Int.toNat a) w = wr l a w))) := by kernel_rfl
theorem gmWrite (a : Int) (w : Int) (l : List Int)  : Box (TmWrite gl a w l) := by
  refine .of (runmWrite gl a w l) ?_
  delta RQ IT
  refine ⟨fun h => ?_, fun h => ?_⟩
  · simp at h
    have e : inM l a = false := by
      cases hi : inM l a with
      | false => rfl
      | true => rw [inM_iff] at hi; omega
    rw [wr, e]; exact ⟨rfl, rfl⟩
  · simp at h
    have e : inM l a = true := inM_iff.2 (by omega)
    rw [wr, e, if_pos rfl]
    exact ⟨⟨h.1, by omega⟩, fun _ => ⟨rfl, rfl⟩⟩
theorem cmWrite : Con ea has gl 21 kmWrite := by
  refine gen_mk Tryz.func21 25 2 (con := []) trivial (fun hA hr hv => ?_) (by kernel_rfl) (by kernel_rfl) Tryz.ntmps21
  unfold kmWrite at hr; split at hr
  · rename_i q a w
    simp only [Acc.run] at hr
    split at hr
    · rename_i p hq
      simp only [Acc.run] at hr
      split at hr
      · rename_i l hp
        split at hr
        · rename_i hnd
          have := ret_ok hr; subst this
          refine ⟨[q, p], [], [.cells [.own 1], .recs .u32 l], [.ptr 0 0, .int .i64 a, .int .u32 w], (S1 [.ptr 0 0, .int .i64 (.full a.val), .int .u32 (.full w.val)] [(0, some (.cells [.own 1])), (1, some (.recs .u32 l))] 2 25), [], .bool (.sym (inM l a.val)), [(0, .cells [.own 1]), (1, .recs .u32 (wr l a.val w.val))], 0, rfl, rfl, ⟨rfl, rfl, rfl⟩, hnd, ⟨hq, hp, trivial⟩, rfl, rfl, .of (fitmWrite gl a w l) (by simp [nilR]), rfl, (fun W R ρ0 own0 hown => noSums (by kernel_rfl)), gmWrite a.val w.val l⟩
        · cases hr
      · cases hr
    · cases hr
  · cases hr
def krWrite : List SVal → Nat → Acc ORes := fun a n => match a with
  | [.ptr q 0, .int .i64 a, .int .u32 w] => .look q fun cc => match cc with | some (.cells [.own p]) => (.look p fun cc => match cc with | some (.recs .u32 l) => (match nodupB [q, p] with | true => .ret (genR [q, p] (gone []) n (.bool (.sym (inM l a.val))) ([(0, .cells [.own 1]), (1, .recs .u32 (wr l a.val w.val))]) 0) | false => .fail "rWrite") | _ => .fail "rWrite") | _ => .fail "rWrite"
  | _ => .fail "rWrite"
theorem fitrWrite (gl : List (Nat × SVal)) (a w : SI) (l : List Int) : (fits (envK gl [] 2) (S1 [.ptr 0 0, .int .i64 a, .int .u32 w] (numC 0 [.cells [.own 1], .recs .u32 l]) 2 25) (S1 [.ptr 0 0, .int .i64 (.full a.val), .int .u32 (.full w.val)] [(0, some (.cells [.own 1])), (1, some (.recs .u32 l))] 2 25)) = (
  SI.val a = SI.val a ∧ SI.val w = SI.val w ∧ l = l) := by kernel_rfl
abbrev TrWrite (gl : List (Nat × SVal)) (a : Int) (w : Int) (l : List Int) : Prop := Tr.sat (newQ (envK gl [] 2) (.bool (.sym (inM l a))) ([(0, .cells [.own 1]), (1, .recs .u32 (wr l a w))]) (2 + 0)) (run (envK gl [] 2) [] (bodyOf Tryz.f22) (S1 [.ptr 0 0, .int .i64 (.full a), .int .u32 (.full w)] [(0, some (.cells [.own 1])), (1, some (.recs .u32 l))] 2 25) (ends (envK gl [] 2) Tryz.f22.results.toList))
theorem runrWrite (gl : List (Nat × SVal)) (a : Int) (w : Int) (l : List Int) : (TrWrite gl a w l) = (
  IT (decide (a < 0) || decide (((List.length l) : Int) ≤ a)) (false = inM l a ∧ l = wr l a w) (RQ (0 ≤ a ∧ a < ((List.length l) : Int)) (true = inM l a ∧ List.set l (Int.toNat a) w = wr l a w))) := by kernel_rfl
theorem grWrite (a : Int) (w : Int) (l : List Int)  : Box (TrWrite gl a w l) := by
  refine .of (runrWrite gl a w l) ?_
  delta RQ IT
  refine ⟨fun h => ?_, fun h => ?_⟩
  · simp at h
    have e : inM l a = false := by
      cases hi : inM l a with
      | false => rfl
      | true => rw [inM_iff] at hi; omega
    rw [wr, e]; exact ⟨rfl, rfl⟩
  · simp at h
    have e : inM l a = true := inM_iff.2 (by omega)
    rw [wr, e, if_pos rfl]
    exact ⟨⟨h.1, by omega⟩, fun _ => ⟨rfl, rfl⟩⟩
theorem crWrite : Con ea has gl 22 krWrite := by
  refine gen_mk Tryz.func22 25 2 (con := []) trivial (fun hA hr hv => ?_) (by kernel_rfl) (by kernel_rfl) Tryz.ntmps22
  unfold krWrite at hr; split at hr
  · rename_i q a w
    simp only [Acc.run] at hr
    split at hr
    · rename_i p hq
      simp only [Acc.run] at hr
      split at hr
      · rename_i l hp
        split at hr
        · rename_i hnd
          have := ret_ok hr; subst this
          refine ⟨[q, p], [], [.cells [.own 1], .recs .u32 l], [.ptr 0 0, .int .i64 a, .int .u32 w], (S1 [.ptr 0 0, .int .i64 (.full a.val), .int .u32 (.full w.val)] [(0, some (.cells [.own 1])), (1, some (.recs .u32 l))] 2 25), [], .bool (.sym (inM l a.val)), [(0, .cells [.own 1]), (1, .recs .u32 (wr l a.val w.val))], 0, rfl, rfl, ⟨rfl, rfl, rfl⟩, hnd, ⟨hq, hp, trivial⟩, rfl, rfl, .of (fitrWrite gl a w l) (by simp [nilR]), rfl, (fun W R ρ0 own0 hown => noSums (by kernel_rfl)), grWrite a.val w.val l⟩
        · cases hr
      · cases hr
    · cases hr
  · cases hr
abbrev kmWalkB := bor [.box [.ro .u32], .any, .any, .any, .any] kmWalk
theorem cmWalkB : Con ea has gl 101 kmWalkB := bor_ok cmWalk _
abbrev krWalkB := bor [.box [.ro .u32], .any, .any, .any, .any] krWalk
theorem crWalkB : Con ea has gl 76 krWalkB := bor_ok crWalk _
abbrev kmReadB := bor [.box [.ro .u32], .any] kmRead
theorem cmReadB : Con ea has gl 102 kmReadB := bor_ok cmRead _
abbrev krReadB := bor [.box [.ro .u32], .any] krRead
theorem crReadB : Con ea has gl 77 krReadB := bor_ok crRead _
abbrev kmFetchB := bor [.box [.ro .u32], .any, .any, .any] kmFetch
theorem cmFetchB : Con ea has gl 66 kmFetchB := bor_ok cmFetch _
abbrev krFetchB := bor [.box [.ro .u32], .any, .any, .any] krFetch
theorem crFetchB : Con ea has gl 49 krFetchB := bor_ok crFetch _
def kplain : List SVal → Nat → Acc ORes := fun a n => match a with
  | [.ptr q 0, .int .i64 r, .agg [.arr .u32 16 x, .int .u32 pc, .bool ie, .bool eie, .int .u32 epc, .int .u32 tv, .int .u32 ca, .int .u32 ad], .bool u, .agg [.int .i64 ss, .int .u32 sa, .int .i64 op, .int .i64 a, .int .i64 b, .int .i64 c, .int .u32 imm, .int .u32 sl]] => .look q fun cc => match cc with | some (.cells [.own p]) => (.look p fun cc => match cc with | some (.recs .u32 l) => (match nodupB [q, p] with | true => .ret (genR [q, p] (gone []) n (.tuple [.agg (plainC l r.val (⟨x, pc.val, ie.val, eie.val, epc.val, tv.val, ca.val, ad.val⟩ : Cpu) u.val (⟨ss.val, sa.val, ⟨op.val, a.val, b.val, c.val, imm.val⟩, sl.val⟩ : Stp)).enc, .agg (plainS l r.val (⟨x, pc.val, ie.val, eie.val, epc.val, tv.val, ca.val, ad.val⟩ : Cpu) u.val (⟨ss.val, sa.val, ⟨op.val, a.val, b.val, c.val, imm.val⟩, sl.val⟩ : Stp)).enc]) ([(0, .cells [.own 1]), (1, .recs .u32 (plainL l r.val (⟨x, pc.val, ie.val, eie.val, epc.val, tv.val, ca.val, ad.val⟩ : Cpu) u.val (⟨ss.val, sa.val, ⟨op.val, a.val, b.val, c.val, imm.val⟩, sl.val⟩ : Stp)))]) 0 (some (In5.ok (⟨ss.val, sa.val, ⟨op.val, a.val, b.val, c.val, imm.val⟩, sl.val⟩ : Stp).i = true))) | false => .fail "plain") | _ => .fail "plain") | _ => .fail "plain"
  | _ => .fail "plain"
theorem fitplain (gl : List (Nat × SVal)) (r : SI) (x : List Int) (pc : SI) (ie eie : SB) (epc tv ca ad : SI) (u : SB) (ss sa op a b c imm sl : SI) (l : List Int) : (fits (envK gl [(101, kmWalkB), (102, kmReadB), (21, kmWrite), (103, kaTaken), (104, kmjump), (105, kAluDo)] 2) (S1 [.ptr 0 0, .int .i64 r, .agg [.arr .u32 16 x, .int .u32 pc, .bool ie, .bool eie, .int .u32 epc, .int .u32 tv, .int .u32 ca, .int .u32 ad], .bool u, .agg [.int .i64 ss, .int .u32 sa, .int .i64 op, .int .i64 a, .int .i64 b, .int .i64 c, .int .u32 imm, .int .u32 sl]] (numC 0 [.cells [.own 1], .recs .u32 l]) 2 113) (S1 [.ptr 0 0, .int .i64 (.full r.val), .agg (⟨x, pc.val, ie.val, eie.val, epc.val, tv.val, ca.val, ad.val⟩ : Cpu).enc, .bool (.sym u.val), .agg (⟨ss.val, sa.val, ⟨op.val, a.val, b.val, c.val, imm.val⟩, sl.val⟩ : Stp).enc] [(0, some (.cells [.own 1])), (1, some (.recs .u32 l))] 2 113)) = (
  SI.val r = SI.val r ∧ x = x ∧ SI.val pc = SI.val pc ∧ SB.val ie = SB.val ie ∧ SB.val eie = SB.val eie ∧ SI.val epc = SI.val epc ∧ SI.val tv = SI.val tv ∧ SI.val ca = SI.val ca ∧ SI.val ad = SI.val ad ∧ SB.val u = SB.val u ∧ SI.val ss = SI.val ss ∧ SI.val sa = SI.val sa ∧ SI.val op = SI.val op ∧ SI.val a = SI.val a ∧ SI.val b = SI.val b ∧ SI.val c = SI.val c ∧ SI.val imm = SI.val imm ∧ SI.val sl = SI.val sl ∧ l = l) := by kernel_rfl
abbrev Tplain (gl : List (Nat × SVal)) (r : Int) (p : Cpu) (u : Bool) (s : Stp) (l : List Int) : Prop := Tr.sat (newQ (envK gl [(101, kmWalkB), (102, kmReadB), (21, kmWrite), (103, kaTaken), (104, kmjump), (105, kAluDo)] 2) (.tuple [.agg (plainC l r p u s).enc, .agg (plainS l r p u s).enc]) ([(0, .cells [.own 1]), (1, .recs .u32 (plainL l r p u s))]) (2 + 0)) (run (envK gl [(101, kmWalkB), (102, kmReadB), (21, kmWrite), (103, kaTaken), (104, kmjump), (105, kAluDo)] 2) [] (bodyOf Tryz.f69) (S1 [.ptr 0 0, .int .i64 (.full r), .agg p.enc, .bool (.sym u), .agg s.enc] [(0, some (.cells [.own 1])), (1, some (.recs .u32 l))] 2 113) (ends (envK gl [(101, kmWalkB), (102, kmReadB), (21, kmWrite), (103, kaTaken), (104, kmjump), (105, kAluDo)] 2) Tryz.f69.results.toList))
theorem runplain (gl : List (Nat × SVal)) (r : Int) (p : Cpu) (u : Bool) (s : Stp) (l : List Int) : (Tplain gl r p u s l) = (
  IT (decide (s.i.op = 12) || decide (s.i.op = 13)) (RQ (0 ≤ s.i.b ∧ s.i.b < ((16 : Nat) : Int)) (IT (!wkOk l r (IntKind.wrap IntKind.u32 (List.getD p.r (Int.toNat s.i.b) (RT.dflt RT.u32) + IntKind.wrap IntKind.u32 s.i.c)) (decide (s.i.op = 13)) u) (p.r = (plainC l r p u s).r ∧ p.pc = (plainC l r p u s).pc ∧ p.ie = (plainC l r p u s).ie ∧ p.eie = (plainC l r p u s).eie ∧ p.epc = (plainC l r p u s).epc ∧ p.tv = (plainC l r p u s).tv ∧ p.cause = (plainC l r p u s).cause ∧ p.addr = (plainC l r p u s).addr ∧ (1 : Int) = (plainS l r p u s).cause ∧ IntKind.wrap IntKind.u32 (List.getD p.r (Int.toNat s.i.b) (RT.dflt RT.u32) + IntKind.wrap IntKind.u32 s.i.c) = (plainS l r p u s).addr ∧ s.i.op = (plainS l r p u s).i.op ∧ s.i.a = (plainS l r p u s).i.a ∧ s.i.b = (plainS l r p u s).i.b ∧ s.i.c = (plainS l r p u s).i.c ∧ s.i.imm = (plainS l r p u s).i.imm ∧ s.len = (plainS l r p u s).len ∧ l = plainL l r p u s) (IT (decide (s.i.op = 13)) (RQ (0 ≤ s.i.a ∧ s.i.a < ((16 : Nat) : Int)) (p.r = (plainC l r p u s).r ∧ IntKind.wrap IntKind.u32 (p.pc + s.len) = (plainC l r p u s).pc ∧ p.ie = (plainC l r p u s).ie ∧ p.eie = (plainC l r p u s).eie ∧ p.epc = (plainC l r p u s).epc ∧ p.tv = (plainC l r p u s).tv ∧ p.cause = (plainC l r p u s).cause ∧ p.addr = (plainC l r p u s).addr ∧ s.cause = (plainS l r p u s).cause ∧ s.addr = (plainS l r p u s).addr ∧ s.i.op = (plainS l r p u s).i.op ∧ s.i.a = (plainS l r p u s).i.a ∧ s.i.b = (plainS l r p u s).i.b ∧ s.i.c = (plainS l r p u s).i.c ∧ s.i.imm = (plainS l r p u s).i.imm ∧ s.len = (plainS l r p u s).len ∧ wr l (wkA l r (IntKind.wrap IntKind.u32 (List.getD p.r (Int.toNat s.i.b) (RT.dflt RT.u32) + IntKind.wrap IntKind.u32 s.i.c)) (decide (s.i.op = 13)) u) (List.getD p.r (Int.toNat s.i.a) (RT.dflt RT.u32)) = plainL l r p u s)) (RQ (0 ≤ s.i.a ∧ s.i.a < ((16 : Nat) : Int)) (List.set p.r (Int.toNat s.i.a) (rd l (wkA l r (IntKind.wrap IntKind.u32 (List.getD p.r (Int.toNat s.i.b) (RT.dflt RT.u32) + IntKind.wrap IntKind.u32 s.i.c)) (decide (s.i.op = 13)) u)) = (plainC l r p u s).r ∧ IntKind.wrap IntKind.u32 (p.pc + s.len) = (plainC l r p u s).pc ∧ p.ie = (plainC l r p u s).ie ∧ p.eie = (plainC l r p u s).eie ∧ p.epc = (plainC l r p u s).epc ∧ p.tv = (plainC l r p u s).tv ∧ p.cause = (plainC l r p u s).cause ∧ p.addr = (plainC l r p u s).addr ∧ s.cause = (plainS l r p u s).cause ∧ s.addr = (plainS l r p u s).addr ∧ s.i.op = (plainS l r p u s).i.op ∧ s.i.a = (plainS l r p u s).i.a ∧ s.i.b = (plainS l r p u s).i.b ∧ s.i.c = (plainS l r p u s).i.c ∧ s.i.imm = (plainS l r p u s).i.imm ∧ s.len = (plainS l r p u s).len ∧ l = plainL l r p u s))))) (IT (tkOk s.i) (RQ (0 ≤ s.i.a ∧ s.i.a < 16) ((jumpC p s (tkB s.i p.r)).r = (plainC l r p u s).r ∧ (jumpC p s (tkB s.i p.r)).pc = (plainC l r p u s).pc ∧ (jumpC p s (tkB s.i p.r)).ie = (plainC l r p u s).ie ∧ (jumpC p s (tkB s.i p.r)).eie = (plainC l r p u s).eie ∧ (jumpC p s (tkB s.i p.r)).epc = (plainC l r p u s).epc ∧ (jumpC p s (tkB s.i p.r)).tv = (plainC l r p u s).tv ∧ (jumpC p s (tkB s.i p.r)).cause = (plainC l r p u s).cause ∧ (jumpC p s (tkB s.i p.r)).addr = (plainC l r p u s).addr ∧ s.cause = (plainS l r p u s).cause ∧ s.addr = (plainS l r p u s).addr ∧ s.i.op = (plainS l r p u s).i.op ∧ s.i.a = (plainS l r p u s).i.a ∧ s.i.b = (plainS l r p u s).i.b ∧ s.i.c = (plainS l r p u s).i.c ∧ s.i.imm = (plainS l r p u s).i.imm ∧ s.len = (plainS l r p u s).len ∧ l = plainL l r p u s)) (doR s.i p.r = (plainC l r p u s).r ∧ IntKind.wrap IntKind.u32 (p.pc + s.len) = (plainC l r p u s).pc ∧ p.ie = (plainC l r p u s).ie ∧ p.eie = (plainC l r p u s).eie ∧ p.epc = (plainC l r p u s).epc ∧ p.tv = (plainC l r p u s).tv ∧ p.cause = (plainC l r p u s).cause ∧ p.addr = (plainC l r p u s).addr ∧ s.cause = (plainS l r p u s).cause ∧ s.addr = (plainS l r p u s).addr ∧ s.i.op = (plainS l r p u s).i.op ∧ s.i.a = (plainS l r p u s).i.a ∧ s.i.b = (plainS l r p u s).i.b ∧ s.i.c = (plainS l r p u s).i.c ∧ s.i.imm = (plainS l r p u s).i.imm ∧ s.len = (plainS l r p u s).len ∧ l = plainL l r p u s))) := by kernel_rfl
theorem gplain (r : Int) (p : Cpu) (u : Bool) (s : Stp) (l : List Int) (hv : In5.ok s.i = true) : Box (Tplain gl r p u s l) := by
  refine .of (runplain gl r p u s l) ?_
  delta RQ IT
  have d0 : RT.dflt RT.u32 = (0 : Int) := rfl
  obtain ⟨⟨a1, a2⟩, ⟨b1, b2⟩, _⟩ := word_rng hv
  have K : ∀ x, (!wkOk l r (IntKind.u32.wrap (p.r.getD s.i.b.toNat RT.u32.dflt + IntKind.u32.wrap s.i.c)) (decide (s.i.op = 13)) u) = x → plainOk l r p u s = !x := fun x h => by rw [← h, Bool.not_not]; rfl
  refine ⟨fun h => ⟨⟨b1, by omega⟩, fun _ => ⟨fun k => ?_, fun k => ⟨fun g => ⟨⟨a1, by omega⟩, fun _ => ?_⟩, fun g => ⟨⟨a1, by omega⟩, fun _ => ?_⟩⟩⟩⟩, fun h => ⟨fun k => ⟨⟨a1, a2⟩, fun _ => ?_⟩, fun k => ?_⟩⟩
  · have hm : plainM s.i = true := h
    have kk := K _ k
    simp [plainC_def, plainS_def, plainL_def, hm, kk, plainA, rg, d0]
  · have hm : plainM s.i = true := h
    have kk := K _ k
    simp at g
    simp [plainC_def, plainS_def, plainL_def, hm, kk, plainA, plainAt, rg, d0, g]
  · have hm : plainM s.i = true := h
    have kk := K _ k
    simp at g
    simp [plainC_def, plainS_def, plainL_def, hm, kk, plainA, plainAt, rg, d0, g]
  · have hm : plainM s.i = false := h
    have g : ¬ s.i.op = 13 := by intro g; simp [plainM, g] at hm
    simp [plainC_def, plainS_def, plainL_def, hm, k, g]
  · have hm : plainM s.i = false := h
    have g : ¬ s.i.op = 13 := by intro g; simp [plainM, g] at hm
    simp [plainC_def, plainS_def, plainL_def, hm, k, g]
theorem cplain : Con ea has gl 69 kplain := by
  refine gen_mk Tryz.func69 113 2 (con := [(101, kmWalkB), (102, kmReadB), (21, kmWrite), (103, kaTaken), (104, kmjump), (105, kAluDo)]) ⟨cmWalkB, cmReadB, cmWrite, caTaken, cmjump, cAluDo, trivial⟩ (fun hA hr hv => ?_) (by kernel_rfl) (by kernel_rfl) Tryz.ntmps69
  unfold kplain at hr; split at hr
  · rename_i q r x pc ie eie epc tv ca ad u ss sa op a b c imm sl
    simp only [Acc.run] at hr
    split at hr
    · rename_i p hq
      simp only [Acc.run] at hr
      split at hr
      · rename_i l hp
        split at hr
        · rename_i hnd
          have := ret_ok hr; subst this
          refine ⟨[q, p], [], [.cells [.own 1], .recs .u32 l], [.ptr 0 0, .int .i64 r, .agg [.arr .u32 16 x, .int .u32 pc, .bool ie, .bool eie, .int .u32 epc, .int .u32 tv, .int .u32 ca, .int .u32 ad], .bool u, .agg [.int .i64 ss, .int .u32 sa, .int .i64 op, .int .i64 a, .int .i64 b, .int .i64 c, .int .u32 imm, .int .u32 sl]], (S1 [.ptr 0 0, .int .i64 (.full r.val), .agg (⟨x, pc.val, ie.val, eie.val, epc.val, tv.val, ca.val, ad.val⟩ : Cpu).enc, .bool (.sym u.val), .agg (⟨ss.val, sa.val, ⟨op.val, a.val, b.val, c.val, imm.val⟩, sl.val⟩ : Stp).enc] [(0, some (.cells [.own 1])), (1, some (.recs .u32 l))] 2 113), [], .tuple [.agg (plainC l r.val (⟨x, pc.val, ie.val, eie.val, epc.val, tv.val, ca.val, ad.val⟩ : Cpu) u.val (⟨ss.val, sa.val, ⟨op.val, a.val, b.val, c.val, imm.val⟩, sl.val⟩ : Stp)).enc, .agg (plainS l r.val (⟨x, pc.val, ie.val, eie.val, epc.val, tv.val, ca.val, ad.val⟩ : Cpu) u.val (⟨ss.val, sa.val, ⟨op.val, a.val, b.val, c.val, imm.val⟩, sl.val⟩ : Stp)).enc], [(0, .cells [.own 1]), (1, .recs .u32 (plainL l r.val (⟨x, pc.val, ie.val, eie.val, epc.val, tv.val, ca.val, ad.val⟩ : Cpu) u.val (⟨ss.val, sa.val, ⟨op.val, a.val, b.val, c.val, imm.val⟩, sl.val⟩ : Stp)))], 0, rfl, rfl, ⟨rfl, rfl, rfl⟩, hnd, ⟨hq, hp, trivial⟩, rfl, rfl, .of (fitplain gl r x pc ie eie epc tv ca ad u ss sa op a b c imm sl l) (by simp [nilR]), rfl, (fun W R ρ0 own0 hown => noSums (by kernel_rfl)), gplain r.val ⟨x, pc.val, ie.val, eie.val, epc.val, tv.val, ca.val, ad.val⟩ u.val ⟨ss.val, sa.val, ⟨op.val, a.val, b.val, c.val, imm.val⟩, sl.val⟩ l (hv _ rfl)⟩
        · cases hr
      · cases hr
    · cases hr
  · cases hr
def kOnce : List SVal → Nat → Acc ORes := fun a n => match a with
  | [.ptr q 0, .int .i64 r, .agg [.arr .u32 16 x, .int .u32 pc, .bool ie, .bool eie, .int .u32 epc, .int .u32 tv, .int .u32 ca, .int .u32 ad], .bool u] => .look q fun cc => match cc with | some (.cells [.own p]) => (.look p fun cc => match cc with | some (.recs .u32 l) => (match nodupB [q, p] with | true => .ret (genR [q, p] (gone []) n (.tuple [.agg (onceC l r.val (⟨x, pc.val, ie.val, eie.val, epc.val, tv.val, ca.val, ad.val⟩ : Cpu) u.val).enc, .agg (onceS l r.val (⟨x, pc.val, ie.val, eie.val, epc.val, tv.val, ca.val, ad.val⟩ : Cpu) u.val).enc]) ([(0, .cells [.own 1]), (1, .recs .u32 (onceL l r.val (⟨x, pc.val, ie.val, eie.val, epc.val, tv.val, ca.val, ad.val⟩ : Cpu) u.val))]) 0) | false => .fail "Once") | _ => .fail "Once") | _ => .fail "Once"
  | _ => .fail "Once"
theorem fitOnce (gl : List (Nat × SVal)) (r : SI) (x : List Int) (pc : SI) (ie eie : SB) (epc tv ca ad : SI) (u : SB) (l : List Int) : (fits (envK gl [(66, kmFetchB), (67, kTables), (68, kClass), (69, kplain)] 2) (S1 [.ptr 0 0, .int .i64 r, .agg [.arr .u32 16 x, .int .u32 pc, .bool ie, .bool eie, .int .u32 epc, .int .u32 tv, .int .u32 ca, .int .u32 ad], .bool u] (numC 0 [.cells [.own 1], .recs .u32 l]) 2 73) (S1 [.ptr 0 0, .int .i64 (.full r.val), .agg (⟨x, pc.val, ie.val, eie.val, epc.val, tv.val, ca.val, ad.val⟩ : Cpu).enc, .bool (.sym u.val)] [(0, some (.cells [.own 1])), (1, some (.recs .u32 l))] 2 73)) = (
  SI.val r = SI.val r ∧ x = x ∧ SI.val pc = SI.val pc ∧ SB.val ie = SB.val ie ∧ SB.val eie = SB.val eie ∧ SI.val epc = SI.val epc ∧ SI.val tv = SI.val tv ∧ SI.val ca = SI.val ca ∧ SI.val ad = SI.val ad ∧ SB.val u = SB.val u ∧ l = l) := by kernel_rfl
abbrev TOnce (gl : List (Nat × SVal)) (r : Int) (p : Cpu) (u : Bool) (l : List Int) : Prop := Tr.sat (newQ (envK gl [(66, kmFetchB), (67, kTables), (68, kClass), (69, kplain)] 2) (.tuple [.agg (onceC l r p u).enc, .agg (onceS l r p u).enc]) ([(0, .cells [.own 1]), (1, .recs .u32 (onceL l r p u))]) (2 + 0)) (run (envK gl [(66, kmFetchB), (67, kTables), (68, kClass), (69, kplain)] 2) [] (bodyOf Tryz.f34) (S1 [.ptr 0 0, .int .i64 (.full r), .agg p.enc, .bool (.sym u)] [(0, some (.cells [.own 1])), (1, some (.recs .u32 l))] 2 73) (ends (envK gl [(66, kmFetchB), (67, kTables), (68, kClass), (69, kplain)] 2) Tryz.f34.results.toList))
theorem runOnce (gl : List (Nat × SVal)) (r : Int) (p : Cpu) (u : Bool) (l : List Int) : (TOnce gl r p u l) = (
  IT (!decide ((fetchS l r p.pc u).cause = 0)) (p.r = (onceC l r p u).r ∧ p.pc = (onceC l r p u).pc ∧ p.ie = (onceC l r p u).ie ∧ p.eie = (onceC l r p u).eie ∧ p.epc = (onceC l r p u).epc ∧ p.tv = (onceC l r p u).tv ∧ p.cause = (onceC l r p u).cause ∧ p.addr = (onceC l r p u).addr ∧ (fetchS l r p.pc u).cause = (onceS l r p u).cause ∧ (fetchS l r p.pc u).addr = (onceS l r p u).addr ∧ (fetchS l r p.pc u).i.op = (onceS l r p u).i.op ∧ (fetchS l r p.pc u).i.a = (onceS l r p u).i.a ∧ (fetchS l r p.pc u).i.b = (onceS l r p u).i.b ∧ (fetchS l r p.pc u).i.c = (onceS l r p u).i.c ∧ (fetchS l r p.pc u).i.imm = (onceS l r p u).i.imm ∧ (fetchS l r p.pc u).len = (onceS l r p u).len ∧ l = onceL l r p u) (IT (decide (isaClass (fetchS l r p.pc u).i.op = 2)) (p.r = (onceC l r p u).r ∧ p.pc = (onceC l r p u).pc ∧ p.ie = (onceC l r p u).ie ∧ p.eie = (onceC l r p u).eie ∧ p.epc = (onceC l r p u).epc ∧ p.tv = (onceC l r p u).tv ∧ p.cause = (onceC l r p u).cause ∧ p.addr = (onceC l r p u).addr ∧ (6 : Int) = (onceS l r p u).cause ∧ (fetchS l r p.pc u).addr = (onceS l r p u).addr ∧ (fetchS l r p.pc u).i.op = (onceS l r p u).i.op ∧ (fetchS l r p.pc u).i.a = (onceS l r p u).i.a ∧ (fetchS l r p.pc u).i.b = (onceS l r p u).i.b ∧ (fetchS l r p.pc u).i.c = (onceS l r p u).i.c ∧ (fetchS l r p.pc u).i.imm = (onceS l r p u).i.imm ∧ (fetchS l r p.pc u).len = (onceS l r p u).len ∧ l = onceL l r p u) (IT (decide (isaClass (fetchS l r p.pc u).i.op = 4)) (p.r = (onceC l r p u).r ∧ p.pc = (onceC l r p u).pc ∧ p.ie = (onceC l r p u).ie ∧ p.eie = (onceC l r p u).eie ∧ p.epc = (onceC l r p u).epc ∧ p.tv = (onceC l r p u).tv ∧ p.cause = (onceC l r p u).cause ∧ p.addr = (onceC l r p u).addr ∧ (7 : Int) = (onceS l r p u).cause ∧ (fetchS l r p.pc u).addr = (onceS l r p u).addr ∧ (fetchS l r p.pc u).i.op = (onceS l r p u).i.op ∧ (fetchS l r p.pc u).i.a = (onceS l r p u).i.a ∧ (fetchS l r p.pc u).i.b = (onceS l r p u).i.b ∧ (fetchS l r p.pc u).i.c = (onceS l r p u).i.c ∧ (fetchS l r p.pc u).i.imm = (onceS l r p u).i.imm ∧ (fetchS l r p.pc u).len = (onceS l r p u).len ∧ l = onceL l r p u) (IT (decide (isaClass (fetchS l r p.pc u).i.op = 3)) (IT (!u) (p.r = (onceC l r p u).r ∧ p.pc = (onceC l r p u).pc ∧ p.ie = (onceC l r p u).ie ∧ p.eie = (onceC l r p u).eie ∧ p.epc = (onceC l r p u).epc ∧ p.tv = (onceC l r p u).tv ∧ p.cause = (onceC l r p u).cause ∧ p.addr = (onceC l r p u).addr ∧ (6 : Int) = (onceS l r p u).cause ∧ (fetchS l r p.pc u).addr = (onceS l r p u).addr ∧ (fetchS l r p.pc u).i.op = (onceS l r p u).i.op ∧ (fetchS l r p.pc u).i.a = (onceS l r p u).i.a ∧ (fetchS l r p.pc u).i.b = (onceS l r p u).i.b ∧ (fetchS l r p.pc u).i.c = (onceS l r p u).i.c ∧ (fetchS l r p.pc u).i.imm = (onceS l r p u).i.imm ∧ (fetchS l r p.pc u).len = (onceS l r p u).len ∧ l = onceL l r p u) (IT (decide ((fetchS l r p.pc u).i.op = 66)) (RQ (0 ≤ (fetchS l r p.pc u).i.a ∧ (fetchS l r p.pc u).i.a < ((16 : Nat) : Int)) (List.set p.r (Int.toNat (fetchS l r p.pc u).i.a) (1 : Int) = (onceC l r p u).r ∧ IntKind.wrap IntKind.u32 (p.pc + (fetchS l r p.pc u).len) = (onceC l r p u).pc ∧ p.ie = (onceC l r p u).ie ∧ p.eie = (onceC l r p u).eie ∧ p.epc = (onceC l r p u).epc ∧ p.tv = (onceC l r p u).tv ∧ p.cause = (onceC l r p u).cause ∧ p.addr = (onceC l r p u).addr ∧ (fetchS l r p.pc u).cause = (onceS l r p u).cause ∧ (fetchS l r p.pc u).addr = (onceS l r p u).addr ∧ (fetchS l r p.pc u).i.op = (onceS l r p u).i.op ∧ (fetchS l r p.pc u).i.a = (onceS l r p u).i.a ∧ (fetchS l r p.pc u).i.b = (onceS l r p u).i.b ∧ (fetchS l r p.pc u).i.c = (onceS l r p u).i.c ∧ (fetchS l r p.pc u).i.imm = (onceS l r p u).i.imm ∧ (fetchS l r p.pc u).len = (onceS l r p u).len ∧ l = onceL l r p u)) (p.r = (onceC l r p u).r ∧ IntKind.wrap IntKind.u32 (p.pc + (fetchS l r p.pc u).len) = (onceC l r p u).pc ∧ p.ie = (onceC l r p u).ie ∧ p.eie = (onceC l r p u).eie ∧ p.epc = (onceC l r p u).epc ∧ p.tv = (onceC l r p u).tv ∧ p.cause = (onceC l r p u).cause ∧ p.addr = (onceC l r p u).addr ∧ (fetchS l r p.pc u).cause = (onceS l r p u).cause ∧ (fetchS l r p.pc u).addr = (onceS l r p u).addr ∧ (fetchS l r p.pc u).i.op = (onceS l r p u).i.op ∧ (fetchS l r p.pc u).i.a = (onceS l r p u).i.a ∧ (fetchS l r p.pc u).i.b = (onceS l r p u).i.b ∧ (fetchS l r p.pc u).i.c = (onceS l r p u).i.c ∧ (fetchS l r p.pc u).i.imm = (onceS l r p u).i.imm ∧ (fetchS l r p.pc u).len = (onceS l r p u).len ∧ l = onceL l r p u))) (RQ (In5.ok (fetchS l r p.pc u).i = true) ((plainC l r p u (fetchS l r p.pc u)).r = (onceC l r p u).r ∧ (plainC l r p u (fetchS l r p.pc u)).pc = (onceC l r p u).pc ∧ (plainC l r p u (fetchS l r p.pc u)).ie = (onceC l r p u).ie ∧ (plainC l r p u (fetchS l r p.pc u)).eie = (onceC l r p u).eie ∧ (plainC l r p u (fetchS l r p.pc u)).epc = (onceC l r p u).epc ∧ (plainC l r p u (fetchS l r p.pc u)).tv = (onceC l r p u).tv ∧ (plainC l r p u (fetchS l r p.pc u)).cause = (onceC l r p u).cause ∧ (plainC l r p u (fetchS l r p.pc u)).addr = (onceC l r p u).addr ∧ (plainS l r p u (fetchS l r p.pc u)).cause = (onceS l r p u).cause ∧ (plainS l r p u (fetchS l r p.pc u)).addr = (onceS l r p u).addr ∧ (plainS l r p u (fetchS l r p.pc u)).i.op = (onceS l r p u).i.op ∧ (plainS l r p u (fetchS l r p.pc u)).i.a = (onceS l r p u).i.a ∧ (plainS l r p u (fetchS l r p.pc u)).i.b = (onceS l r p u).i.b ∧ (plainS l r p u (fetchS l r p.pc u)).i.c = (onceS l r p u).i.c ∧ (plainS l r p u (fetchS l r p.pc u)).i.imm = (onceS l r p u).i.imm ∧ (plainS l r p u (fetchS l r p.pc u)).len = (onceS l r p u).len ∧ plainL l r p u (fetchS l r p.pc u) = onceL l r p u)))))) := by kernel_rfl
theorem gOnce (r : Int) (p : Cpu) (u : Bool) (l : List Int)  : Box (TOnce gl r p u l) := by
  refine .of (runOnce gl r p u l) ?_
  delta RQ IT
  have fk : (fetchS l r p.pc u).cause = 0 → In5.ok (fetchS l r p.pc u).i = true := fetch_ok
  have R : In5.ok (fetchS l r p.pc u).i = true → (0 : Int) ≤ (fetchS l r p.pc u).i.a ∧ (fetchS l r p.pc u).i.a < (↑(16 : Nat) : Int) := fun h => ⟨(word_rng h).1.1, by have := (word_rng h).1.2; omega⟩
  have C : In5.ok (fetchS l r p.pc u).i = true → isaClass (fetchS l r p.pc u).i.op = 1 ∨ isaClass (fetchS l r p.pc u).i.op = 2 ∨ isaClass (fetchS l r p.pc u).i.op = 3 ∨ isaClass (fetchS l r p.pc u).i.op = 4 := fun h => class_1234 h
  refine ⟨fun h => ?_, fun h => ?_⟩
  · have h' : ¬ (fetchS l r p.pc u).cause = 0 := by simpa using h
    have k : onceK (fetchS l r p.pc u) = 0 := by unfold onceK; rw [if_pos h']
    simp [onceC_def, onceS_def, onceL_def, k]
  have h' : (fetchS l r p.pc u).cause = 0 := by simpa using h
  have ok := fk h'
  have k : onceK (fetchS l r p.pc u) = isaClass (fetchS l r p.pc u).i.op := by unfold onceK; rw [if_neg (by simp [h'])]
  have c := C ok
  refine ⟨fun h => ?_, fun h2 => ⟨fun h => ?_, fun h4 => ⟨fun h3 => ⟨fun hu => ?_, fun hu => ⟨fun g => ⟨R ok, fun _ => ?_⟩, fun g => ?_⟩⟩, fun h3 => ⟨ok, fun _ => ?_⟩⟩⟩⟩
  · have h := of_decide_eq_true h
    rw [h] at k
    simp [onceC_def, onceS_def, onceL_def, k]
  · have h := of_decide_eq_true h
    rw [h] at k
    simp [onceC_def, onceS_def, onceL_def, k]
  · have h := of_decide_eq_true h3
    rw [h] at k
    simp at hu
    subst hu
    simp [onceC_def, onceS_def, onceL_def, k]
  · have h := of_decide_eq_true h3
    rw [h] at k
    simp at hu g
    subst hu
    simp [onceC_def, onceS_def, onceL_def, k, g]
  · have h := of_decide_eq_true h3
    rw [h] at k
    simp at hu g
    subst hu
    simp [onceC_def, onceS_def, onceL_def, k, g]
  · have h2 := of_decide_eq_false h2
    have h3 := of_decide_eq_false h3
    have h4 := of_decide_eq_false h4
    have c1 : isaClass (fetchS l r p.pc u).i.op = 1 := by
      rcases c with c | c | c | c
      · exact c
      · exact absurd c h2
      · exact absurd c h3
      · exact absurd c h4
    rw [c1] at k
    simp [onceC_def, onceS_def, onceL_def, k]
theorem cOnce : Con ea has gl 34 kOnce := by
  refine gen_mk Tryz.func34 73 2 (con := [(66, kmFetchB), (67, kTables), (68, kClass), (69, kplain)]) ⟨cmFetchB, cTables, cClass, cplain, trivial⟩ (fun hA hr hv => ?_) (by kernel_rfl) (by kernel_rfl) Tryz.ntmps34
  unfold kOnce at hr; split at hr
  · rename_i q r x pc ie eie epc tv ca ad u
    simp only [Acc.run] at hr
    split at hr
    · rename_i p hq
      simp only [Acc.run] at hr
      split at hr
      · rename_i l hp
        split at hr
        · rename_i hnd
          have := ret_ok hr; subst this
          refine ⟨[q, p], [], [.cells [.own 1], .recs .u32 l], [.ptr 0 0, .int .i64 r, .agg [.arr .u32 16 x, .int .u32 pc, .bool ie, .bool eie, .int .u32 epc, .int .u32 tv, .int .u32 ca, .int .u32 ad], .bool u], (S1 [.ptr 0 0, .int .i64 (.full r.val), .agg (⟨x, pc.val, ie.val, eie.val, epc.val, tv.val, ca.val, ad.val⟩ : Cpu).enc, .bool (.sym u.val)] [(0, some (.cells [.own 1])), (1, some (.recs .u32 l))] 2 73), [], .tuple [.agg (onceC l r.val (⟨x, pc.val, ie.val, eie.val, epc.val, tv.val, ca.val, ad.val⟩ : Cpu) u.val).enc, .agg (onceS l r.val (⟨x, pc.val, ie.val, eie.val, epc.val, tv.val, ca.val, ad.val⟩ : Cpu) u.val).enc], [(0, .cells [.own 1]), (1, .recs .u32 (onceL l r.val (⟨x, pc.val, ie.val, eie.val, epc.val, tv.val, ca.val, ad.val⟩ : Cpu) u.val))], 0, rfl, rfl, ⟨rfl, rfl, rfl⟩, hnd, ⟨hq, hp, trivial⟩, rfl, rfl, .of (fitOnce gl r x pc ie eie epc tv ca ad u l) (by simp [nilR]), rfl, (fun W R ρ0 own0 hown => noSums (by kernel_rfl)), gOnce r.val ⟨x, pc.val, ie.val, eie.val, epc.val, tv.val, ca.val, ad.val⟩ u.val l⟩
        · cases hr
      · cases hr
    · cases hr
  · cases hr
end
end Go.Proofs.YtpjccdncokamlaaGreatDoor

