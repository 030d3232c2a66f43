/- Contracts. -/
import Derived.Test.YtpjccdncokamlaaGreatDoorQFnOnceR
set_option maxHeartbeats 4000000
set_option linter.unusedVariables false
set_option linter.unusedSimpArgs false
namespace Go.Proofs.YtpjccdncokamlaaGreatDoor
open Go.RowKit Go.Sy Go.Fac
section
variable {ea : Ear} {has : Int → Prop} {gl : List (Nat × SVal)}
def kSameI : List SVal → Nat → Acc ORes := fun a n => match a with | [.agg [.int .i64 op, .int .i64 a, .int .i64 b, .int .i64 c, .int .u32 imm], .agg [.int .i64 op', .int .i64 a', .int .i64 b', .int .i64 c', .int .u32 imm']] => .ret ({ v := .bool (.lit true), vc := some ((⟨op'.val, a'.val, b'.val, c'.val, imm'.val⟩ : In5) = (⟨op.val, a.val, b.val, c.val, imm.val⟩ : In5)) }) | _ => .fail "SameI"
theorem argSameI (op a b c imm op' a' b' c' imm' : SI) : (all (subL tAtN none' [] deep [.agg [.int .i64 op, .int .i64 a, .int .i64 b, .int .i64 c, .int .u32 imm], .agg [.int .i64 op', .int .i64 a', .int .i64 b', .int .i64 c', .int .u32 imm']] [.agg (⟨op.val, a.val, b.val, c.val, imm.val⟩ : In5).enc, .agg (⟨op'.val, a'.val, b'.val, c'.val, imm'.val⟩ : In5).enc])) = (
  SI.val op = SI.val op ∧ SI.val a = SI.val a ∧ SI.val b = SI.val b ∧ SI.val c = SI.val c ∧ SI.val imm = SI.val imm ∧ SI.val op' = SI.val op' ∧ SI.val a' = SI.val a' ∧ SI.val b' = SI.val b' ∧ SI.val c' = SI.val c' ∧ SI.val imm' = SI.val imm') := by kernel_rfl
abbrev TSameI (gl : List (Nat × SVal)) (i j : In5) : Prop := Tr.sat (plainQ (.bool (.lit true))) (run (env gl []) [] (bodyOf Tryz.f50) (start [.agg i.enc, .agg j.enc] 38) (ends (env gl []) Tryz.f50.results.toList))
theorem runSameI (gl : List (Nat × SVal)) (i j : In5) : (TSameI gl i j) = (
  (decide (i.op = j.op) && decide (i.a = j.a) && decide (i.b = j.b) && decide (i.c = j.c) && decide (i.imm = j.imm)) = true) := by kernel_rfl
theorem gSameI (i j : In5)  (hv : j = i) : Box (TSameI gl i j) := by
  refine .of (runSameI gl i j) ?_
  subst hv; simp
theorem cSameI : Con ea has gl 50 kSameI := by
  refine plain_mkB Tryz.func50 38 (con := []) trivial (fun hA hr hv => ?_) (by kernel_rfl) (by kernel_rfl) Tryz.ntmps50
  unfold kSameI at hr; split at hr
  · rename_i op a b c imm op' a' b' c' imm'
    have := ret_ok hr; subst this
    replace hv := hv _ rfl
    exact ⟨_, [], rfl, rfl, .of (argSameI op a b c imm op' a' b' c' imm') (by simp), rfl, (fun W R ρ0 own0 hown => noSums (by kernel_rfl)), gSameI ⟨op.val, a.val, b.val, c.val, imm.val⟩ ⟨op'.val, a'.val, b'.val, c'.val, imm'.val⟩  hv⟩
  · cases hr
def kSameR : List SVal → Nat → Acc ORes := fun a n => match a with | [.arr .u32 16 x, .arr .u32 16 y] => .ret ({ v := .bool (.lit true), vc := some (y = x) }) | _ => .fail "SameR"
theorem argSameR (x y : List Int) : (all (subL tAtN none' [] deep [.arr .u32 16 x, .arr .u32 16 y] [.arr .u32 16 x, .arr .u32 16 y])) = (
  x = x ∧ y = y) := by kernel_rfl
abbrev TSameR (gl : List (Nat × SVal)) (x y : List Int) : Prop := Tr.sat (plainQ (.bool (.lit true))) (run (env gl []) [] (bodyOf Tryz.f89) (start [.arr .u32 16 x, .arr .u32 16 y] 17) (ends (env gl []) Tryz.f89.results.toList))
theorem runSameR (gl : List (Nat × SVal)) (x y : List Int) : (TSameR gl x y) = (
  RQ ((0 : Int) ≤ (0 : Int) ∧ 0 < ((16 : Nat) : Int)) (RQ ((0 : Int) ≤ (0 : Int) ∧ 0 < ((16 : Nat) : Int)) (IT (!decide (List.getD x (Int.toNat (0 : Int)) (RT.dflt RT.u32) = List.getD y (Int.toNat (0 : Int)) (RT.dflt RT.u32))) (false = true) (RQ ((0 : Int) ≤ (1 : Int) ∧ (1 : Int) < ((16 : Nat) : Int)) (RQ ((0 : Int) ≤ (1 : Int) ∧ (1 : Int) < ((16 : Nat) : Int)) (IT (!decide (List.getD x (Int.toNat (1 : Int)) (RT.dflt RT.u32) = List.getD y (Int.toNat (1 : Int)) (RT.dflt RT.u32))) (false = true) (RQ ((0 : Int) ≤ (2 : Int) ∧ (2 : Int) < ((16 : Nat) : Int)) (RQ ((0 : Int) ≤ (2 : Int) ∧ (2 : Int) < ((16 : Nat) : Int)) (IT (!decide (List.getD x (Int.toNat (2 : Int)) (RT.dflt RT.u32) = List.getD y (Int.toNat (2 : Int)) (RT.dflt RT.u32))) (false = true) (RQ ((0 : Int) ≤ (3 : Int) ∧ (3 : Int) < ((16 : Nat) : Int)) (RQ ((0 : Int) ≤ (3 : Int) ∧ (3 : Int) < ((16 : Nat) : Int)) (IT (!decide (List.getD x (Int.toNat (3 : Int)) (RT.dflt RT.u32) = List.getD y (Int.toNat (3 : Int)) (RT.dflt RT.u32))) (false = true) (RQ ((0 : Int) ≤ (4 : Int) ∧ (4 : Int) < ((16 : Nat) : Int)) (RQ ((0 : Int) ≤ (4 : Int) ∧ (4 : Int) < ((16 : Nat) : Int)) (IT (!decide (List.getD x (Int.toNat (4 : Int)) (RT.dflt RT.u32) = List.getD y (Int.toNat (4 : Int)) (RT.dflt RT.u32))) (false = true) (RQ ((0 : Int) ≤ (5 : Int) ∧ (5 : Int) < ((16 : Nat) : Int)) (RQ ((0 : Int) ≤ (5 : Int) ∧ (5 : Int) < ((16 : Nat) : Int)) (IT (!decide (List.getD x (Int.toNat (5 : Int)) (RT.dflt RT.u32) = List.getD y (Int.toNat (5 : Int)) (RT.dflt RT.u32))) (false = true) (RQ ((0 : Int) ≤ (6 : Int) ∧ (6 : Int) < ((16 : Nat) : Int)) (RQ ((0 : Int) ≤ (6 : Int) ∧ (6 : Int) < ((16 : Nat) : Int)) (IT (!decide (List.getD x (Int.toNat (6 : Int)) (RT.dflt RT.u32) = List.getD y (Int.toNat (6 : Int)) (RT.dflt RT.u32))) (false = true) (RQ ((0 : Int) ≤ (7 : Int) ∧ (7 : Int) < ((16 : Nat) : Int)) (RQ ((0 : Int) ≤ (7 : Int) ∧ (7 : Int) < ((16 : Nat) : Int)) (IT (!decide (List.getD x (Int.toNat (7 : Int)) (RT.dflt RT.u32) = List.getD y (Int.toNat (7 : Int)) (RT.dflt RT.u32))) (false = true) (RQ ((0 : Int) ≤ (8 : Int) ∧ (8 : Int) < ((16 : Nat) : Int)) (RQ ((0 : Int) ≤ (8 : Int) ∧ (8 : Int) < ((16 : Nat) : Int)) (IT (!decide (List.getD x (Int.toNat (8 : Int)) (RT.dflt RT.u32) = List.getD y (Int.toNat (8 : Int)) (RT.dflt RT.u32))) (false = true) (RQ ((0 : Int) ≤ (9 : Int) ∧ (9 : Int) < ((16 : Nat) : Int)) (RQ ((0 : Int) ≤ (9 : Int) ∧ (9 : Int) < ((16 : Nat) : Int)) (IT (!decide (List.getD x (Int.toNat (9 : Int)) (RT.dflt RT.u32) = List.getD y (Int.toNat (9 : Int)) (RT.dflt RT.u32))) (false = true) (RQ ((0 : Int) ≤ (10 : Int) ∧ (10 : Int) < ((16 : Nat) : Int)) (RQ ((0 : Int) ≤ (10 : Int) ∧ (10 : Int) < ((16 : Nat) : Int)) (IT (!decide (List.getD x (Int.toNat (10 : Int)) (RT.dflt RT.u32) = List.getD y (Int.toNat (10 : Int)) (RT.dflt RT.u32))) (false = true) (RQ ((0 : Int) ≤ (11 : Int) ∧ (11 : Int) < ((16 : Nat) : Int)) (RQ ((0 : Int) ≤ (11 : Int) ∧ (11 : Int) < ((16 : Nat) : Int)) (IT (!decide (List.getD x (Int.toNat (11 : Int)) (RT.dflt RT.u32) = List.getD y (Int.toNat (11 : Int)) (RT.dflt RT.u32))) (false = true) (RQ ((0 : Int) ≤ (12 : Int) ∧ (12 : Int) < ((16 : Nat) : Int)) (RQ ((0 : Int) ≤ (12 : Int) ∧ (12 : Int) < ((16 : Nat) : Int)) (IT (!decide (List.getD x (Int.toNat (12 : Int)) (RT.dflt RT.u32) = List.getD y (Int.toNat (12 : Int)) (RT.dflt RT.u32))) (false = true) (RQ ((0 : Int) ≤ (13 : Int) ∧ (13 : Int) < ((16 : Nat) : Int)) (RQ ((0 : Int) ≤ (13 : Int) ∧ (13 : Int) < ((16 : Nat) : Int)) (IT (!decide (List.getD x (Int.toNat (13 : Int)) (RT.dflt RT.u32) = List.getD y (Int.toNat (13 : Int)) (RT.dflt RT.u32))) (false = true) (RQ ((0 : Int) ≤ (14 : Int) ∧ (14 : Int) < ((16 : Nat) : Int)) (RQ ((0 : Int) ≤ (14 : Int) ∧ (14 : Int) < ((16 : Nat) : Int)) (IT (!decide (List.getD x (Int.toNat (14 : Int)) (RT.dflt RT.u32) = List.getD y (Int.toNat (14 : Int)) (RT.dflt RT.u32))) (false = true) (RQ ((0 : Int) ≤ (15 : Int) ∧ (15 : Int) < ((16 : Nat) : Int)) (RQ ((0 : Int) ≤ (15 : Int) ∧ (15 : Int) < ((16 : Nat) : Int)) (IT (!decide (List.getD x (Int.toNat (15 : Int)) (RT.dflt RT.u32) = List.getD y (Int.toNat (15 : Int)) (RT.dflt RT.u32))) (false = true) (true = true))))))))))))))))))))))))))))))))))))))))))))))))) := by kernel_rfl
theorem gSameR (x y : List Int)  (hv : y = x) : Box (TSameR gl x y) := by
  refine .of (runSameR gl x y) ?_
  delta RQ IT
  subst hv; simp
theorem cSameR : Con ea has gl 89 kSameR := by
  refine plain_mkB Tryz.func89 17 (con := []) trivial (fun hA hr hv => ?_) (by kernel_rfl) (by kernel_rfl) Tryz.ntmps89
  unfold kSameR at hr; split at hr
  · rename_i x y
    have := ret_ok hr; subst this
    replace hv := hv _ rfl
    exact ⟨_, [], rfl, rfl, .of (argSameR x y) (by simp), rfl, (fun W R ρ0 own0 hown => noSums (by kernel_rfl)), gSameR x y  hv⟩
  · cases hr
def kSameC : List SVal → Nat → Acc ORes := fun a n => match a with | [.agg [.arr .u32 16 x, .int .u32 pc, .bool ie, .bool eie, .int .u32 epc, .int .u32 tv, .int .u32 ca, .int .u32 ad], .agg [.arr .u32 16 x', .int .u32 pc', .bool ie', .bool eie', .int .u32 epc', .int .u32 tv', .int .u32 ca', .int .u32 ad']] => .ret ({ v := .bool (.lit true), vc := some ((⟨x', pc'.val, ie'.val, eie'.val, epc'.val, tv'.val, ca'.val, ad'.val⟩ : Cpu) = (⟨x, pc.val, ie.val, eie.val, epc.val, tv.val, ca.val, ad.val⟩ : Cpu)) }) | _ => .fail "SameC"
theorem argSameC (x : List Int) (pc : SI) (ie eie : SB) (epc tv ca ad : SI) (x' : List Int) (pc' : SI) (ie' eie' : SB) (epc' tv' ca' ad' : SI) : (all (subL tAtN none' [] deep [.agg [.arr .u32 16 x, .int .u32 pc, .bool ie, .bool eie, .int .u32 epc, .int .u32 tv, .int .u32 ca, .int .u32 ad], .agg [.arr .u32 16 x', .int .u32 pc', .bool ie', .bool eie', .int .u32 epc', .int .u32 tv', .int .u32 ca', .int .u32 ad']] [.agg (⟨x, pc.val, ie.val, eie.val, epc.val, tv.val, ca.val, ad.val⟩ : Cpu).enc, .agg (⟨x', pc'.val, ie'.val, eie'.val, epc'.val, tv'.val, ca'.val, ad'.val⟩ : Cpu).enc])) = (
  x = x ∧ SI.val pc = SI.val pc ∧ SB.val ie = SB.val ie ∧ SB.val eie = SB.val eie ∧ SI.val epc = SI.val epc ∧ SI.val tv = SI.val tv ∧ SI.val ca = SI.val ca ∧ SI.val ad = SI.val ad ∧ x' = x' ∧ SI.val pc' = SI.val pc' ∧ SB.val ie' = SB.val ie' ∧ SB.val eie' = SB.val eie' ∧ SI.val epc' = SI.val epc' ∧ SI.val tv' = SI.val tv' ∧ SI.val ca' = SI.val ca' ∧ SI.val ad' = SI.val ad') := by kernel_rfl
abbrev TSameC (gl : List (Nat × SVal)) (p q : Cpu) : Prop := Tr.sat (plainQ (.bool (.lit true))) (run (env gl [(89, kSameR)]) [] (bodyOf Tryz.f43) (start [.agg p.enc, .agg q.enc] 59) (ends (env gl [(89, kSameR)]) Tryz.f43.results.toList))
theorem runSameC (gl : List (Nat × SVal)) (p q : Cpu) : (TSameC gl p q) = (
  RQ (q.r = p.r) ((decide (p.pc = q.pc) && p.ie == q.ie && p.eie == q.eie && decide (p.epc = q.epc) && decide (p.tv = q.tv) && decide (p.cause = q.cause) && decide (p.addr = q.addr)) = true)) := by kernel_rfl
theorem gSameC (p q : Cpu)  (hv : q = p) : Box (TSameC gl p q) := by
  refine .of (runSameC gl p q) ?_
  delta RQ
  subst hv; simp
theorem cSameC : Con ea has gl 43 kSameC := by
  refine plain_mkB Tryz.func43 59 (con := [(89, kSameR)]) ⟨cSameR, trivial⟩ (fun hA hr hv => ?_) (by kernel_rfl) (by kernel_rfl) Tryz.ntmps43
  unfold kSameC at hr; split at hr
  · rename_i x pc ie eie epc tv ca ad x' pc' ie' eie' epc' tv' ca' ad'
    have := ret_ok hr; subst this
    replace hv := hv _ rfl
    exact ⟨_, [], rfl, rfl, .of (argSameC x pc ie eie epc tv ca ad x' pc' ie' eie' epc' tv' ca' ad') (by simp), rfl, (fun W R ρ0 own0 hown => noSums (by kernel_rfl)), gSameC ⟨x, pc.val, ie.val, eie.val, epc.val, tv.val, ca.val, ad.val⟩ ⟨x', pc'.val, ie'.val, eie'.val, epc'.val, tv'.val, ca'.val, ad'.val⟩  hv⟩
  · cases hr
def HSameW' (a b : List Int) (i : Nat) : SState := { fr := [(0, .ro .u32 a), (1, .ro .u32 b), (5, .int .i64 (.sym i 0 1000000))], hp := [], next := 0, sz := 29 }
def XSameW' (a b : List Int) : SState := { fr := [], hp := [], next := 0, sz := 29 }
def LSameW' (a b : List Int) : LSum := ⟨HSameW' a b 0, fun k => k (.exit 0) (XSameW' a b), b = a ∧ a.length ≤ 1000000⟩
theorem bSameW' (gl : List (Nat × SVal)) (a b : List Int) (i : Nat) : (Tr.sat (rnd1 (env gl []) (fun _ => True) (a.length) (HSameW' a b) 0 (XSameW' a b) i) (run (env gl []) [] (loopN (bodyOf Tryz.f55) 0) (HSameW' a b i) .leaf)) = (
  IT (decide ((i : Int) < ((List.length a) : Int))) (RQ (0 ≤ (i : Int) ∧ (i : Int) < ((List.length a) : Int)) (RQ (0 ≤ (i : Int) ∧ (i : Int) < ((List.length b) : Int)) (IT (!decide (List.getD a (Int.toNat (i : Int)) (RT.dflt RT.u32) = List.getD b (Int.toNat (i : Int)) (RT.dflt RT.u32))) False (i < List.length a ∧ True ∧ a = a ∧ b = b ∧ (i : Int) + 1 = ((i + 1) : Int) ∧ 0 ≤ ((i + 1) : Int) ∧ ((i + 1) : Int) ≤ 1000000)))) (Nat.beq (0 : Nat) (0 : Nat) = true ∧ True)) := by kernel_rfl
theorem lSameW' (a b : List Int) {W : World} {R own0 : Nat → Prop} {ρ0 : Nat → Option Value} (hown : HownOk (env gl []) own0 ρ0) : LOk Tryz.prog (env gl []) (ctx ea has) gl W R own0 ρ0 (loopN (bodyOf Tryz.f55) 0) (LSameW' a b) := by
  refine loop1_ok (J := fun _ => True) (N := a.length) (H := HSameW' a b) (X := XSameW' a b) (env_ok (con := []) trivial) hown (ls := fun i => []) (fun i => noSums (by kernel_rfl)) (fun hm i hi hj => ?_) 0 (fun hm => by first | exact Nat.zero_le _ | omega) (fun hm => trivial)
  rw [bSameW' gl a b i]
  delta RQ IT
  obtain ⟨rfl, hm⟩ := hm
  refine ⟨fun h => ?_, fun _ => ⟨rfl, trivial⟩⟩
  have h := of_decide_eq_true h
  refine ⟨by omega, fun _ => ⟨by omega, fun _ => ⟨fun h2 => ?_, fun _ => ⟨by omega, trivial, rfl, rfl, by omega, by omega, by omega⟩⟩⟩⟩
  simp at h2
def kSameW : List SVal → Nat → Acc ORes := fun a n => match a with | [.ro .u32 a, .ro .u32 b] => .ret ({ v := .bool (.lit true), vc := some (b = a ∧ a.length ≤ 1000000) }) | _ => .fail "SameW"
theorem argSameW (a b : List Int) : (all (subL tAtN none' [] deep [.ro .u32 a, .ro .u32 b] [.ro .u32 a, .ro .u32 b])) = (
  a = a ∧ b = b) := by kernel_rfl
abbrev TSameW (gl : List (Nat × SVal)) (a b : List Int) : Prop := Tr.sat (plainQ (.bool (.lit true))) (run (env gl []) [(4, LSameW' a b)] (bodyOf Tryz.f55) (start [.ro .u32 a, .ro .u32 b] 29) (ends (env gl []) Tryz.f55.results.toList))
theorem runSameW (gl : List (Nat × SVal)) (a b : List Int) : (TSameW gl a b) = (
  IT (!decide (((List.length a) : Int) = ((List.length b) : Int))) (false = true) (RQ ((b = a ∧ List.length a ≤ 1000000) ∧ a = a ∧ b = b ∧ (0 : Int) = ((0 : Nat) : Int)) (true = true))) := by kernel_rfl
theorem gSameW (a b : List Int)  (hv : b = a ∧ a.length ≤ 1000000) : Box (TSameW gl a b) := by
  refine .of (runSameW gl a b) ?_
  delta RQ IT
  obtain ⟨rfl, hm⟩ := hv
  exact ⟨fun h => by simp at h, fun _ => ⟨⟨⟨rfl, hm⟩, rfl, rfl, rfl⟩, fun _ => rfl⟩⟩
theorem cSameW : Con ea has gl 55 kSameW := by
  refine plain_mkB Tryz.func55 29 (con := []) trivial (fun hA hr hv => ?_) (by kernel_rfl) (by kernel_rfl) Tryz.ntmps55
  unfold kSameW at hr; split at hr
  · rename_i a b
    have := ret_ok hr; subst this
    replace hv := hv _ rfl
    exact ⟨_, [(4, LSameW' a b)], rfl, rfl, .of (argSameW a b) (by simp), rfl, (fun W R ρ0 own0 hown => hl1 (by kernel_rfl) (by kernel_rfl) (lSameW' a b hown)), gSameW a b  hv⟩
  · cases hr
end
end Go.Proofs.YtpjccdncokamlaaGreatDoor

