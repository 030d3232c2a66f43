/- Contracts. -/
import Derived.Test.YtpjccdncokamlaaGreatDoorQFnMem8
set_option maxHeartbeats 4000000
set_option linter.unusedVariables false
set_option linter.unusedSimpArgs false
namespace Go.Sy
def joinK (sel : List SVal → Acc Bool) (k1 k2 : List SVal → Nat → Acc ORes) : List SVal → Nat → Acc ORes := fun a n => sel a >>= fun b => match b with | true => k1 a n | false => k2 a n
theorem joinK_ok {P : Program} {C : Ctx} {gl : List (Nat × SVal)} {f : Nat} {k1 k2 : List SVal → Nat → Acc ORes} (K1 : ConOk P C gl f k1) (K2 : ConOk P C gl f k2) (sel : List SVal → Acc Bool) : ConOk P C gl f (joinK sel k1 k2) where
  call := K1.call
  does {W R ρ h args vs next r l l'} M hA hr hv hn := by
    unfold joinK at hr
    obtain ⟨b, l1, h1, h2⟩ := Acc.bind_ok hr
    cases b
    · exact K2.does M hA h2 hv hn
    · exact K1.does M hA h2 hv hn
end Go.Sy
namespace Go.Proofs.YtpjccdncokamlaaGreatDoor
open Go.RowKit Go.Sy Go.Fac
section
variable {ea : Ear} {has : Int → Prop} {gl : List (Nat × SVal)}
abbrev mHpV (b : Mc) (no : SI) (ov : SB) : List (Nat × Cont) := [(0, .cells [.ptr 1 0, .arr .u32 16 b.c.r, .int .u32 (.full b.c.pc), .bool (.sym b.c.ie), .bool (.sym b.c.eie), .int .u32 (.full b.c.epc), .int .u32 (.full b.c.tv), .int .u32 (.full b.c.cause), .int .u32 (.full b.c.addr), .ptr 2 0, .int .i64 (.full b.quota), .int .i64 no, .bool ov, .own 4]), (1, .cells [.own 3]), (2, .cells (dCells 5 6 b.d)), (3, .recs .u32 b.l), (4, .recs updT b.w), (5, .recs .u32 b.d.keys), (6, .recs seenT b.d.seen)]
def m20 : Mc := hide ⟨mem8 20 [] [536870912], ⟨List.replicate 16 0, 2048, false, false, 0, 0, 0, 0⟩, Dv.nul, 20, 0, false, []⟩
theorem m20_def : m20 = ⟨mem8 20 [] [536870912], ⟨List.replicate 16 0, 2048, false, false, 0, 0, 0, 0⟩, Dv.nul, 20, 0, false, []⟩ := hide_eq _
def h20 : Mc := hide (stepM true m20)
theorem h20_def : h20 = stepM true m20 := hide_eq _
def haltOk (b : Mc) : Prop := b = m20
theorem h20_is : h20.now = 1 ∧ h20.over = true := by
  rw [h20_def, m20_def, ← stepE_is]
  decide +kernel
theorem few_mem8 : few (mem8 20 [] [536870912]) := by unfold few; rw [mem8_len]; decide
theorem mk_ok {l : List Int} {c : Cpu} {q : Int} (h : few l) : (mcOk ⟨l, c, Dv.nul, q, 0, false, []⟩ ∧ few (⟨l, c, Dv.nul, q, 0, false, []⟩ : Mc).l) ∧ (⟨l, c, Dv.nul, q, 0, false, []⟩ : Mc).over = false :=
  ⟨⟨⟨Nat.zero_le _, Nat.zero_le _, Nat.zero_le _, by unfold updOk; simp⟩, h⟩, rfl⟩
theorem m20_ok : (mcOk m20 ∧ few m20.l) ∧ m20.over = false := by
  rw [m20_def]; exact mk_ok few_mem8
def isOver (b : Mc) : Prop := b.over = true
def selNow : List SVal → Acc Bool
  | [.ptr q 0] => .look q fun c => match c with
    | some (.cells [_, _, _, _, _, _, _, _, _, _, _, .int .i64 (.lit (.ofNat 0)), _, _]) => .ret true
    | _ => .ret false
  | _ => .ret false
def selOver : List SVal → Acc Bool
  | [.ptr q 0] => .look q fun c => match c with
    | some (.cells [_, _, _, _, _, _, _, _, _, _, _, _, .bool (.lit true), _]) => .ret true
    | _ => .ret false
  | _ => .ret false
def kbNowZ0 : List SVal → Nat → Acc ORes := fun a n => match a with | [.rop [.rop [.ro .u32 l], .arr .u32 16 x, .int .u32 pc, .bool ie, .bool eie, .int .u32 epc, .int .u32 tv, .int .u32 ca, .int .u32 ad, .rop [.ro .u32 ks, .arr .u32 16 sc, .bool on, .int .i64 at_, .ro (.flat (.int .i64) [.int .u32, .int .u32]) se], .int .i64 qu, .int .i64 (.lit (.ofNat 0)), .bool ov, .ro (.flat (.int .i64) [.int .u32]) us]] => .ret ({ v := .int .i64 (.lit (.ofNat 0)) }) | _ => .fail "bNowZ0"
theorem argbNowZ0 (l : List Int) (x : List Int) (pc : SI) (ie eie : SB) (epc tv ca ad : SI) (ks : List Int) (sc : List Int) (on : SB) (at_ : SI) (se : List (Int × Int × Int)) (qu : SI) (ov : SB) (us : List (Int × Int)) : (all (subL tAtN none' [] deep [.rop [.rop [.ro .u32 l], .arr .u32 16 x, .int .u32 pc, .bool ie, .bool eie, .int .u32 epc, .int .u32 tv, .int .u32 ca, .int .u32 ad, .rop [.ro .u32 ks, .arr .u32 16 sc, .bool on, .int .i64 at_, .ro (.flat (.int .i64) [.int .u32, .int .u32]) se], .int .i64 qu, .int .i64 (.lit (.ofNat 0)), .bool ov, .ro (.flat (.int .i64) [.int .u32]) us]] [.rop [.rop [.ro .u32 (⟨l, ⟨x, pc.val, ie.val, eie.val, epc.val, tv.val, ca.val, ad.val⟩, ⟨ks, sc, on.val, at_.val, se⟩, qu.val, 0, ov.val, us⟩ : Mc).l], .arr .u32 16 (⟨l, ⟨x, pc.val, ie.val, eie.val, epc.val, tv.val, ca.val, ad.val⟩, ⟨ks, sc, on.val, at_.val, se⟩, qu.val, 0, ov.val, us⟩ : Mc).c.r, .int .u32 (.full (⟨l, ⟨x, pc.val, ie.val, eie.val, epc.val, tv.val, ca.val, ad.val⟩, ⟨ks, sc, on.val, at_.val, se⟩, qu.val, 0, ov.val, us⟩ : Mc).c.pc), .bool (.sym (⟨l, ⟨x, pc.val, ie.val, eie.val, epc.val, tv.val, ca.val, ad.val⟩, ⟨ks, sc, on.val, at_.val, se⟩, qu.val, 0, ov.val, us⟩ : Mc).c.ie), .bool (.sym (⟨l, ⟨x, pc.val, ie.val, eie.val, epc.val, tv.val, ca.val, ad.val⟩, ⟨ks, sc, on.val, at_.val, se⟩, qu.val, 0, ov.val, us⟩ : Mc).c.eie), .int .u32 (.full (⟨l, ⟨x, pc.val, ie.val, eie.val, epc.val, tv.val, ca.val, ad.val⟩, ⟨ks, sc, on.val, at_.val, se⟩, qu.val, 0, ov.val, us⟩ : Mc).c.epc), .int .u32 (.full (⟨l, ⟨x, pc.val, ie.val, eie.val, epc.val, tv.val, ca.val, ad.val⟩, ⟨ks, sc, on.val, at_.val, se⟩, qu.val, 0, ov.val, us⟩ : Mc).c.tv), .int .u32 (.full (⟨l, ⟨x, pc.val, ie.val, eie.val, epc.val, tv.val, ca.val, ad.val⟩, ⟨ks, sc, on.val, at_.val, se⟩, qu.val, 0, ov.val, us⟩ : Mc).c.cause), .int .u32 (.full (⟨l, ⟨x, pc.val, ie.val, eie.val, epc.val, tv.val, ca.val, ad.val⟩, ⟨ks, sc, on.val, at_.val, se⟩, qu.val, 0, ov.val, us⟩ : Mc).c.addr), .rop [.ro .u32 (⟨l, ⟨x, pc.val, ie.val, eie.val, epc.val, tv.val, ca.val, ad.val⟩, ⟨ks, sc, on.val, at_.val, se⟩, qu.val, 0, ov.val, us⟩ : Mc).d.keys, .arr .u32 16 (⟨l, ⟨x, pc.val, ie.val, eie.val, epc.val, tv.val, ca.val, ad.val⟩, ⟨ks, sc, on.val, at_.val, se⟩, qu.val, 0, ov.val, us⟩ : Mc).d.sec, .bool (.sym (⟨l, ⟨x, pc.val, ie.val, eie.val, epc.val, tv.val, ca.val, ad.val⟩, ⟨ks, sc, on.val, at_.val, se⟩, qu.val, 0, ov.val, us⟩ : Mc).d.on), .int .i64 (.full (⟨l, ⟨x, pc.val, ie.val, eie.val, epc.val, tv.val, ca.val, ad.val⟩, ⟨ks, sc, on.val, at_.val, se⟩, qu.val, 0, ov.val, us⟩ : Mc).d.at_), .ro seenT (⟨l, ⟨x, pc.val, ie.val, eie.val, epc.val, tv.val, ca.val, ad.val⟩, ⟨ks, sc, on.val, at_.val, se⟩, qu.val, 0, ov.val, us⟩ : Mc).d.seen], .int .i64 (.full (⟨l, ⟨x, pc.val, ie.val, eie.val, epc.val, tv.val, ca.val, ad.val⟩, ⟨ks, sc, on.val, at_.val, se⟩, qu.val, 0, ov.val, us⟩ : Mc).quota), .int .i64 (.lit (.ofNat 0)), .bool (.sym (⟨l, ⟨x, pc.val, ie.val, eie.val, epc.val, tv.val, ca.val, ad.val⟩, ⟨ks, sc, on.val, at_.val, se⟩, qu.val, 0, ov.val, us⟩ : Mc).over), .ro updT (⟨l, ⟨x, pc.val, ie.val, eie.val, epc.val, tv.val, ca.val, ad.val⟩, ⟨ks, sc, on.val, at_.val, se⟩, qu.val, 0, ov.val, us⟩ : Mc).w]])) = (
  l = l ∧ x = x ∧ SI.val pc = SI.val pc ∧ SB.val ie = SB.val ie ∧ SB.val eie = SB.val eie ∧ SI.val epc = SI.val epc ∧ SI.val tv = SI.val tv ∧ SI.val ca = SI.val ca ∧ SI.val ad = SI.val ad ∧ ks = ks ∧ sc = sc ∧ SB.val on = SB.val on ∧ SI.val at_ = SI.val at_ ∧ se = se ∧ SI.val qu = SI.val qu ∧ (0 : Int) = Int.ofNat (0 : Nat) ∧ SB.val ov = SB.val ov ∧ us = us) := by kernel_rfl
abbrev TbNowZ0 (gl : List (Nat × SVal)) (b : Mc) : Prop := Tr.sat (plainQ (.int .i64 (.lit (.ofNat 0)))) (run (env gl []) [] (bodyOf Tryz.f15) (start [.rop [.rop [.ro .u32 b.l], .arr .u32 16 b.c.r, .int .u32 (.full b.c.pc), .bool (.sym b.c.ie), .bool (.sym b.c.eie), .int .u32 (.full b.c.epc), .int .u32 (.full b.c.tv), .int .u32 (.full b.c.cause), .int .u32 (.full b.c.addr), .rop [.ro .u32 b.d.keys, .arr .u32 16 b.d.sec, .bool (.sym b.d.on), .int .i64 (.full b.d.at_), .ro seenT b.d.seen], .int .i64 (.full b.quota), .int .i64 (.lit (.ofNat 0)), .bool (.sym b.over), .ro updT b.w]] 7) (ends (env gl []) Tryz.f15.results.toList))
theorem runbNowZ0 (gl : List (Nat × SVal)) (b : Mc) : (TbNowZ0 gl b) = (
  (0 : Int) = Int.ofNat (0 : Nat)) := by kernel_rfl
theorem gbNowZ0 (b : Mc)  : Box (TbNowZ0 gl b) := by
  refine .of (runbNowZ0 gl b) ?_
  rfl
theorem cbNowZ0 : Con ea has gl 15 kbNowZ0 := by
  refine plain_mkB Tryz.func15 7 (con := []) trivial (fun hA hr hv => ?_) (by kernel_rfl) (by kernel_rfl) Tryz.ntmps15
  unfold kbNowZ0 at hr; split at hr
  · rename_i l x pc ie eie epc tv ca ad ks sc on at_ se qu ov us
    have := ret_ok hr; subst this
    exact ⟨_, [], rfl, rfl, .of (argbNowZ0 l x pc ie eie epc tv ca ad ks sc on at_ se qu ov us) (by simp), rfl, (fun W R ρ0 own0 hown => noSums (by kernel_rfl)), gbNowZ0 ⟨l, ⟨x, pc.val, ie.val, eie.val, epc.val, tv.val, ca.val, ad.val⟩, ⟨ks, sc, on.val, at_.val, se⟩, qu.val, 0, ov.val, us⟩ ⟩
  · cases hr
abbrev kbNowJ := joinK selNow (bor [.box [.box [.ro .u32], .any, .any, .any, .any, .any, .any, .any, .any, .box [.ro .u32, .any, .any, .any, .ro seenT], .any, .any, .any, .ro updT]] kbNowZ0) kbNow
theorem cbNowJ : Con ea has gl 15 kbNowJ := joinK_ok (bor_ok cbNowZ0 _) cbNow _
def kbOverT0 : List SVal → Nat → Acc ORes := fun a n => match a with | [.rop [.rop [.ro .u32 l], .arr .u32 16 x, .int .u32 pc, .bool ie, .bool eie, .int .u32 epc, .int .u32 tv, .int .u32 ca, .int .u32 ad, .rop [.ro .u32 ks, .arr .u32 16 sc, .bool on, .int .i64 at_, .ro (.flat (.int .i64) [.int .u32, .int .u32]) se], .int .i64 qu, .int .i64 no, .bool (.lit true), .ro (.flat (.int .i64) [.int .u32]) us]] => .ret ({ v := .bool (.lit true) }) | _ => .fail "bOverT0"
theorem argbOverT0 (l : List Int) (x : List Int) (pc : SI) (ie eie : SB) (epc tv ca ad : SI) (ks : List Int) (sc : List Int) (on : SB) (at_ : SI) (se : List (Int × Int × Int)) (qu no : SI) (us : List (Int × Int)) : (all (subL tAtN none' [] deep [.rop [.rop [.ro .u32 l], .arr .u32 16 x, .int .u32 pc, .bool ie, .bool eie, .int .u32 epc, .int .u32 tv, .int .u32 ca, .int .u32 ad, .rop [.ro .u32 ks, .arr .u32 16 sc, .bool on, .int .i64 at_, .ro (.flat (.int .i64) [.int .u32, .int .u32]) se], .int .i64 qu, .int .i64 no, .bool (.lit true), .ro (.flat (.int .i64) [.int .u32]) us]] [.rop [.rop [.ro .u32 (⟨l, ⟨x, pc.val, ie.val, eie.val, epc.val, tv.val, ca.val, ad.val⟩, ⟨ks, sc, on.val, at_.val, se⟩, qu.val, no.val, true, us⟩ : Mc).l], .arr .u32 16 (⟨l, ⟨x, pc.val, ie.val, eie.val, epc.val, tv.val, ca.val, ad.val⟩, ⟨ks, sc, on.val, at_.val, se⟩, qu.val, no.val, true, us⟩ : Mc).c.r, .int .u32 (.full (⟨l, ⟨x, pc.val, ie.val, eie.val, epc.val, tv.val, ca.val, ad.val⟩, ⟨ks, sc, on.val, at_.val, se⟩, qu.val, no.val, true, us⟩ : Mc).c.pc), .bool (.sym (⟨l, ⟨x, pc.val, ie.val, eie.val, epc.val, tv.val, ca.val, ad.val⟩, ⟨ks, sc, on.val, at_.val, se⟩, qu.val, no.val, true, us⟩ : Mc).c.ie), .bool (.sym (⟨l, ⟨x, pc.val, ie.val, eie.val, epc.val, tv.val, ca.val, ad.val⟩, ⟨ks, sc, on.val, at_.val, se⟩, qu.val, no.val, true, us⟩ : Mc).c.eie), .int .u32 (.full (⟨l, ⟨x, pc.val, ie.val, eie.val, epc.val, tv.val, ca.val, ad.val⟩, ⟨ks, sc, on.val, at_.val, se⟩, qu.val, no.val, true, us⟩ : Mc).c.epc), .int .u32 (.full (⟨l, ⟨x, pc.val, ie.val, eie.val, epc.val, tv.val, ca.val, ad.val⟩, ⟨ks, sc, on.val, at_.val, se⟩, qu.val, no.val, true, us⟩ : Mc).c.tv), .int .u32 (.full (⟨l, ⟨x, pc.val, ie.val, eie.val, epc.val, tv.val, ca.val, ad.val⟩, ⟨ks, sc, on.val, at_.val, se⟩, qu.val, no.val, true, us⟩ : Mc).c.cause), .int .u32 (.full (⟨l, ⟨x, pc.val, ie.val, eie.val, epc.val, tv.val, ca.val, ad.val⟩, ⟨ks, sc, on.val, at_.val, se⟩, qu.val, no.val, true, us⟩ : Mc).c.addr), .rop [.ro .u32 (⟨l, ⟨x, pc.val, ie.val, eie.val, epc.val, tv.val, ca.val, ad.val⟩, ⟨ks, sc, on.val, at_.val, se⟩, qu.val, no.val, true, us⟩ : Mc).d.keys, .arr .u32 16 (⟨l, ⟨x, pc.val, ie.val, eie.val, epc.val, tv.val, ca.val, ad.val⟩, ⟨ks, sc, on.val, at_.val, se⟩, qu.val, no.val, true, us⟩ : Mc).d.sec, .bool (.sym (⟨l, ⟨x, pc.val, ie.val, eie.val, epc.val, tv.val, ca.val, ad.val⟩, ⟨ks, sc, on.val, at_.val, se⟩, qu.val, no.val, true, us⟩ : Mc).d.on), .int .i64 (.full (⟨l, ⟨x, pc.val, ie.val, eie.val, epc.val, tv.val, ca.val, ad.val⟩, ⟨ks, sc, on.val, at_.val, se⟩, qu.val, no.val, true, us⟩ : Mc).d.at_), .ro seenT (⟨l, ⟨x, pc.val, ie.val, eie.val, epc.val, tv.val, ca.val, ad.val⟩, ⟨ks, sc, on.val, at_.val, se⟩, qu.val, no.val, true, us⟩ : Mc).d.seen], .int .i64 (.full (⟨l, ⟨x, pc.val, ie.val, eie.val, epc.val, tv.val, ca.val, ad.val⟩, ⟨ks, sc, on.val, at_.val, se⟩, qu.val, no.val, true, us⟩ : Mc).quota), .int .i64 (.full (⟨l, ⟨x, pc.val, ie.val, eie.val, epc.val, tv.val, ca.val, ad.val⟩, ⟨ks, sc, on.val, at_.val, se⟩, qu.val, no.val, true, us⟩ : Mc).now), .bool (.lit true), .ro updT (⟨l, ⟨x, pc.val, ie.val, eie.val, epc.val, tv.val, ca.val, ad.val⟩, ⟨ks, sc, on.val, at_.val, se⟩, qu.val, no.val, true, us⟩ : Mc).w]])) = (
  l = l ∧ x = x ∧ SI.val pc = SI.val pc ∧ SB.val ie = SB.val ie ∧ SB.val eie = SB.val eie ∧ SI.val epc = SI.val epc ∧ SI.val tv = SI.val tv ∧ SI.val ca = SI.val ca ∧ SI.val ad = SI.val ad ∧ ks = ks ∧ sc = sc ∧ SB.val on = SB.val on ∧ SI.val at_ = SI.val at_ ∧ se = se ∧ SI.val qu = SI.val qu ∧ SI.val no = SI.val no ∧ true = true ∧ us = us) := by kernel_rfl
abbrev TbOverT0 (gl : List (Nat × SVal)) (b : Mc) : Prop := Tr.sat (plainQ (.bool (.lit true))) (run (env gl []) [] (bodyOf Tryz.f17) (start [.rop [.rop [.ro .u32 b.l], .arr .u32 16 b.c.r, .int .u32 (.full b.c.pc), .bool (.sym b.c.ie), .bool (.sym b.c.eie), .int .u32 (.full b.c.epc), .int .u32 (.full b.c.tv), .int .u32 (.full b.c.cause), .int .u32 (.full b.c.addr), .rop [.ro .u32 b.d.keys, .arr .u32 16 b.d.sec, .bool (.sym b.d.on), .int .i64 (.full b.d.at_), .ro seenT b.d.seen], .int .i64 (.full b.quota), .int .i64 (.full b.now), .bool (.lit true), .ro updT b.w]] 7) (ends (env gl []) Tryz.f17.results.toList))
theorem runbOverT0 (gl : List (Nat × SVal)) (b : Mc) : (TbOverT0 gl b) = (
  true = true) := by kernel_rfl
theorem gbOverT0 (b : Mc)  : Box (TbOverT0 gl b) := by
  refine .of (runbOverT0 gl b) ?_
  rfl
theorem cbOverT0 : Con ea has gl 17 kbOverT0 := by
  refine plain_mkB Tryz.func17 7 (con := []) trivial (fun hA hr hv => ?_) (by kernel_rfl) (by kernel_rfl) Tryz.ntmps17
  unfold kbOverT0 at hr; split at hr
  · rename_i l x pc ie eie epc tv ca ad ks sc on at_ se qu no us
    have := ret_ok hr; subst this
    exact ⟨_, [], rfl, rfl, .of (argbOverT0 l x pc ie eie epc tv ca ad ks sc on at_ se qu no us) (by simp), rfl, (fun W R ρ0 own0 hown => noSums (by kernel_rfl)), gbOverT0 ⟨l, ⟨x, pc.val, ie.val, eie.val, epc.val, tv.val, ca.val, ad.val⟩, ⟨ks, sc, on.val, at_.val, se⟩, qu.val, no.val, true, us⟩ ⟩
  · cases hr
abbrev kbOverJ := joinK selOver (bor [.box [.box [.ro .u32], .any, .any, .any, .any, .any, .any, .any, .any, .box [.ro .u32, .any, .any, .any, .ro seenT], .any, .any, .any, .ro updT]] kbOverT0) kbOver
theorem cbOverJ : Con ea has gl 17 kbOverJ := joinK_ok (bor_ok cbOverT0 _) cbOver _
def kbNewL : List SVal → Nat → Acc ORes := fun a n => match a with | [.rop [.ro .u32 l], .agg [.arr .u32 16 x, .int .u32 pc, .bool ie, .bool eie, .int .u32 epc, .int .u32 tv, .int .u32 ca, .int .u32 ad], .int .i64 qu] => .ret (newR n (.tuple [.ptr 0 0, .nilIface]) (mHpV ⟨l, (⟨x, pc.val, ie.val, eie.val, epc.val, tv.val, ca.val, ad.val⟩ : Cpu), Dv.nul, qu.val, 0, false, []⟩ (.lit (.ofNat 0)) (.lit false)) 7 (some ((17 ≤ qu.val ∧ qu.val ≤ 256) ∧ few l))) | _ => .fail "bNewL"
theorem argbNewL (l : List Int) (x : List Int) (pc : SI) (ie eie : SB) (epc tv ca ad : SI) (qu : SI) : (all (subL tAtN none' [] deep [.rop [.ro .u32 l], .agg [.arr .u32 16 x, .int .u32 pc, .bool ie, .bool eie, .int .u32 epc, .int .u32 tv, .int .u32 ca, .int .u32 ad], .int .i64 qu] [.rop [.ro .u32 l], .agg (⟨x, pc.val, ie.val, eie.val, epc.val, tv.val, ca.val, ad.val⟩ : Cpu).enc, .int .i64 (.full qu.val)])) = (
  l = l ∧ x = x ∧ SI.val pc = SI.val pc ∧ SB.val ie = SB.val ie ∧ SB.val eie = SB.val eie ∧ SI.val epc = SI.val epc ∧ SI.val tv = SI.val tv ∧ SI.val ca = SI.val ca ∧ SI.val ad = SI.val ad ∧ SI.val qu = SI.val qu) := by kernel_rfl
abbrev TbNewL (gl : List (Nat × SVal)) (l : List Int) (p : Cpu) (qu : Int) : Prop := Tr.sat (newQ (env gl [(24, kmClone)]) (.tuple [.ptr 0 0, .nilIface]) (mHpV ⟨l, p, Dv.nul, qu, 0, false, []⟩ (.lit (.ofNat 0)) (.lit false)) 7) (run (env gl [(24, kmClone)]) [(1000000, cutL { fr := [(0, .rop [.ro .u32 l]), (2, .int .i64 (.sym qu 17 256)), (4, .ptr 0 0)], hp := [(0, some (.cells p.enc))], next := 1, sz := 23 })] (bodyOf Tryz.f6) (start [.rop [.ro .u32 l], .agg p.enc, .int .i64 (.full qu)] 23) (ends (env gl [(24, kmClone)]) Tryz.f6.results.toList))
theorem runbNewL (gl : List (Nat × SVal)) (l : List Int) (p : Cpu) (qu : Int) : (TbNewL gl l p qu) = (
  RQ (l = l ∧ qu = qu ∧ ((17 : Int) ≤ qu ∧ qu ≤ 256) ∧ p.r = p.r ∧ p.pc = p.pc ∧ p.ie = p.ie ∧ p.eie = p.eie ∧ p.epc = p.epc ∧ p.tv = p.tv ∧ p.cause = p.cause ∧ p.addr = p.addr) (RQ (few l) (p.r = p.r ∧ p.pc = p.pc ∧ p.ie = p.ie ∧ p.eie = p.eie ∧ p.epc = p.epc ∧ p.tv = p.tv ∧ p.cause = p.cause ∧ p.addr = p.addr ∧ qu = qu ∧ (0 : Int) = Int.ofNat (0 : Nat) ∧ false = false ∧ List.replicate (16 : Nat) (0 : RT.ty RT.u32) = Dv.nul.sec ∧ false = Dv.nul.on ∧ (0 : Int) = Dv.nul.at_ ∧ l = l ∧ @List.nil (Int × Int) = @List.nil (RT.ty updT) ∧ Dv.nul.keys = @List.nil (RT.ty RT.u32) ∧ Dv.nul.seen = @List.nil (RT.ty seenT)))) := by kernel_rfl
theorem gbNewL (l : List Int) (p : Cpu) (qu : Int)  (hv : (17 ≤ qu ∧ qu ≤ 256) ∧ few l) : Box (TbNewL gl l p qu) := by
  refine .of (runbNewL gl l p qu) ?_
  exact ⟨⟨rfl, rfl, hv.1, rfl, rfl, rfl, rfl, rfl, rfl, rfl, rfl⟩, fun _ => ⟨hv.2, fun _ => ⟨rfl, rfl, rfl, rfl, rfl, rfl, rfl, rfl, rfl, rfl, rfl, rfl, rfl, rfl, rfl, rfl, rfl, rfl⟩⟩⟩
theorem cbNewL : Con ea has gl 6 kbNewL := by
  refine new_mkB Tryz.func6 23 (con := [(24, kmClone)]) ⟨cmClone, trivial⟩ (fun hA hr hv => ?_) (by kernel_rfl) (by kernel_rfl) Tryz.ntmps6
  unfold kbNewL at hr; split at hr
  · rename_i l x pc ie eie epc tv ca ad qu
    have := ret_ok hr; subst this
    replace hv := hv _ rfl
    exact ⟨_, [(1000000, cutL { fr := [(0, .rop [.ro .u32 l]), (2, .int .i64 (.sym qu.val 17 256)), (4, .ptr 0 0)], hp := [(0, some (.cells (⟨x, pc.val, ie.val, eie.val, epc.val, tv.val, ca.val, ad.val⟩ : Cpu).enc))], next := 1, sz := 23 })], _, _, _, ⟨rfl, rfl, rfl⟩, .of (argbNewL l x pc ie eie epc tv ca ad qu) (by simp), rfl, rfl, (fun W R ρ0 own0 hown => noSums (by kernel_rfl)), gbNewL l ⟨x, pc.val, ie.val, eie.val, epc.val, tv.val, ca.val, ad.val⟩ qu.val  hv⟩
  · cases hr
abbrev kbNewLB := borN [.box [.ro .u32], .any, .any] kbNewL
theorem cbNewLB : Con ea has gl 6 kbNewLB := borN_ok cbNewL _
theorem stpEH (gl : List (Nat × SVal)) (b b' : Mc) : (newQ (envK gl stepCons 4) (.bool (.lit true)) (mHpV b' (.lit (.ofNat 1)) (.lit true)) 7 .ret { fr := [(0, .bool (.lit true))], hp := (stE b).hp, next := (stE b).next, sz := 1 }) = (
  true = true ∧ b.c.r = b'.c.r ∧ b.c.pc = b'.c.pc ∧ b.c.ie = b'.c.ie ∧ b.c.eie = b'.c.eie ∧ b.c.epc = b'.c.epc ∧ b.c.tv = b'.c.tv ∧ b.c.cause = b'.c.cause ∧ b.c.addr = b'.c.addr ∧ b.quota = b'.quota ∧ b.now = Int.ofNat (1 : Nat) ∧ b.over = true ∧ b.d.sec = b'.d.sec ∧ b.d.on = b'.d.on ∧ b.d.at_ = b'.d.at_ ∧ b.l = b'.l ∧ b.w = b'.w ∧ b.d.keys = b'.d.keys ∧ b.d.seen = b'.d.seen) := by kernel_rfl
theorem stpRF (gl : List (Nat × SVal)) (b : Mc) : (newQ (envK gl stepCons 4) (.bool (.lit false)) (mHpV b (.full b.now) (.lit true)) 7 .ret { fr := [(0, .bool (.lit false))], hp := (stR b).hp, next := (stR b).next, sz := 1 }) = (
  false = false ∧ b.c.r = b.c.r ∧ b.c.pc = b.c.pc ∧ b.c.ie = b.c.ie ∧ b.c.eie = b.c.eie ∧ b.c.epc = b.c.epc ∧ b.c.tv = b.c.tv ∧ b.c.cause = b.c.cause ∧ b.c.addr = b.c.addr ∧ b.quota = b.quota ∧ b.now = b.now ∧ b.over = true ∧ b.d.sec = b.d.sec ∧ b.d.on = b.d.on ∧ b.d.at_ = b.d.at_ ∧ b.l = b.l ∧ b.w = b.w ∧ b.d.keys = b.d.keys ∧ b.d.seen = b.d.seen) := by kernel_rfl
theorem tEH (b : Mc) (hv : haltOk b) : newQ (envK gl stepCons 4) (.bool (.lit true)) (mHpV h20 (.lit (.ofNat 1)) (.lit true)) 7 .ret { fr := [(0, .bool (.lit true))], hp := (stE (tickM (stepN true b))).hp, next := (stE (tickM (stepN true b))).next, sz := 1 } ∧ True := by
  have hb : b = m20 := hv
  subst hb
  rw [stpEH gl (tickM (stepN true m20)) h20, show tickM (stepN true m20) = h20 from (stepM_N true m20_ok.2).symm.trans h20_def.symm]
  exact ⟨⟨rfl, rfl, rfl, rfl, rfl, rfl, rfl, rfl, rfl, rfl, h20_is.1, h20_is.2, rfl, rfl, rfl, rfl, rfl, rfl, rfl⟩, trivial⟩
theorem tRF (b : Mc) (hv : isOver b) : newQ (envK gl stepCons 4) (.bool (.lit false)) (mHpV b (.full b.now) (.lit true)) 7 .ret { fr := [(0, .bool (.lit false))], hp := (stR b).hp, next := (stR b).next, sz := 1 } ∧ True := by
  rw [stpRF gl b]
  exact ⟨⟨rfl, rfl, rfl, rfl, rfl, rfl, rfl, rfl, rfl, rfl, rfl, hv, rfl, rfl, rfl, rfl, rfl, rfl, rfl⟩, trivial⟩
set_option maxHeartbeats 400000 in
theorem hbStepH (b : Mc) (hv : haltOk b) {W : World} {R own0 : Nat → Prop} {ρ0 : Nat → Option Value} {R2 : Nat → Prop} {ρ2 : Nat → Option Value} {vs : List Value} (I : Inv (envK gl stepCons 4) (ctx ea has) gl W R own0 ρ0 (S1 [.ptr 0 0] (mHpO b) 7 72) ⟨vs.toArray ++ Array.replicate (72 - vs.toArray.size) undef, []⟩ W R2 ρ2) (Z : Ending → World → Prop)
    (hZ : ∀ e s v W' R1 ρ1, newQ (envK gl stepCons 4) (.bool (.lit true)) (mHpV h20 (.lit (.ofNat 1)) (.lit true)) (4 + 3) e s → Inv (envK gl stepCons 4) (ctx ea has) gl W R own0 ρ0 s ⟨#[v], []⟩ W' R1 ρ1 → Z (.returned v) W') : Calls Tryz.prog 12 vs.toArray W Z :=
  dfr_run (C := ctx ea has) (E := envK gl stepCons 4) (f := 12) (fn := Tryz.f12) (fc := 30) (fnc := Tryz.f30) (cc := bodyOf Tryz.f30) (rt := 2) (k := 1) (d := 10) (q := 7) (w := .bool (.lit true)) (wr := .bool (.lit false))
    (pN := b.over = false) (pR := b.over = true) (pM := (intrM true b).over = false) (pX := True)
    (s0 := S1 [.ptr 0 0] (mHpO b) 7 72) (sA := stA b) (sD := stA b) (sR := stR b) (sI := stA (intrM true b)) (sB := stB (stepN true b)) (sE := stE (tickM (stepN true b))) (ls := []) (ls2 := [])
    (envK_ok stepOk) rfl Tryz.func12 stp_body (by kernel_rfl) Tryz.func30 (by kernel_rfl) (by kernel_rfl) (by kernel_rfl) (by kernel_rfl)
    (inv_nt Tryz.ntmps12 I) (t0 b) (t1 b) (by kernel_rfl) rfl rfl rfl (by kernel_rfl) (by kernel_rfl) (fun ho df => t2 b (by rw [show b = m20 from hv]; exact m20_ok.1.1) ho df) (fun ho hm df => t4 (intrM true b) (intr_ok (by rw [show b = m20 from hv]; exact m20_ok.1) ho hm) df (stepN true b) (stepN_go hm))
    rfl rfl rfl rfl (fun _ => t3 (stepN true b)) (Qf := newQ (envK gl stepCons 4) (.bool (.lit true)) (mHpV h20 (.lit (.ofNat 1)) (.lit true)) 7) (fun h => by rw [show b = m20 from hv, m20_ok.2] at h; cases h) (fun h => tEH b hv) hZ
set_option maxHeartbeats 400000 in
theorem hbStepF (b : Mc) (hv : isOver b) {W : World} {R own0 : Nat → Prop} {ρ0 : Nat → Option Value} {R2 : Nat → Prop} {ρ2 : Nat → Option Value} {vs : List Value} (I : Inv (envK gl stepCons 4) (ctx ea has) gl W R own0 ρ0 (S1 [.ptr 0 0] (mHpO b) 7 72) ⟨vs.toArray ++ Array.replicate (72 - vs.toArray.size) undef, []⟩ W R2 ρ2) (Z : Ending → World → Prop)
    (hZ : ∀ e s v W' R1 ρ1, newQ (envK gl stepCons 4) (.bool (.lit false)) (mHpV b (.full b.now) (.lit true)) (4 + 3) e s → Inv (envK gl stepCons 4) (ctx ea has) gl W R own0 ρ0 s ⟨#[v], []⟩ W' R1 ρ1 → Z (.returned v) W') : Calls Tryz.prog 12 vs.toArray W Z :=
  dfr_run (C := ctx ea has) (E := envK gl stepCons 4) (f := 12) (fn := Tryz.f12) (fc := 30) (fnc := Tryz.f30) (cc := bodyOf Tryz.f30) (rt := 2) (k := 1) (d := 10) (q := 7) (w := .bool (.lit true)) (wr := .bool (.lit false))
    (pN := b.over = false) (pR := b.over = true) (pM := (intrM true b).over = false) (pX := True)
    (s0 := S1 [.ptr 0 0] (mHpO b) 7 72) (sA := stA b) (sD := stA b) (sR := stR b) (sI := stA (intrM true b)) (sB := stB (stepN true b)) (sE := stE (tickM (stepN true b))) (ls := []) (ls2 := [])
    (envK_ok stepOk) rfl Tryz.func12 stp_body (by kernel_rfl) Tryz.func30 (by kernel_rfl) (by kernel_rfl) (by kernel_rfl) (by kernel_rfl)
    (inv_nt Tryz.ntmps12 I) (t0 b) (t1 b) (by kernel_rfl) rfl rfl rfl (by kernel_rfl) (by kernel_rfl) (fun ho df => (by rw [show b.over = true from hv] at ho; cases ho)) (fun ho hm df => t4 (intrM true b) (by rw [show b.over = true from hv] at ho; cases ho) df (stepN true b) (stepN_go hm))
    rfl rfl rfl rfl (fun _ => t3 (stepN true b)) (Qf := newQ (envK gl stepCons 4) (.bool (.lit false)) (mHpV b (.full b.now) (.lit true)) 7) (fun h => tRF b hv) (fun h => by rw [show b.over = true from hv] at h; cases h) hZ
def kbStepH : List SVal → Nat → Acc ORes := fun a n => match a with
  | [.ptr q 0] => .look q fun cc => match cc with | some (.cells [.ptr m 0, .arr .u32 16 x, .int .u32 pc, .bool ie, .bool eie, .int .u32 epc, .int .u32 tv, .int .u32 ca, .int .u32 ad, .ptr d 0, .int .i64 qu, .int .i64 no, .bool (.lit false), .own w]) => (.look m fun cc => match cc with | some (.cells [.own p]) => (.look d fun cc => match cc with | some (.cells [.own k, .arr .u32 16 sc, .bool on, .int .i64 at_, .own e]) => (.look p fun cc => match cc with | some (.recs .u32 l) => (.look w fun cc => match cc with | some (.recs (.flat (.int .i64) [.int .u32]) us) => (.look k fun cc => match cc with | some (.recs .u32 ks) => (.look e fun cc => match cc with | some (.recs (.flat (.int .i64) [.int .u32, .int .u32]) se) => (match nodupB [q, m, d, p, w, k, e] with | true => .ret (genR [q, m, d, p] (gone [w, k, e]) n (.bool (.lit true)) (mHpV h20 (.lit (.ofNat 1)) (.lit true)) 3 (some (haltOk (⟨l, ⟨x, pc.val, ie.val, eie.val, epc.val, tv.val, ca.val, ad.val⟩, ⟨ks, sc, on.val, at_.val, se⟩, qu.val, no.val, false, us⟩ : Mc)))) | false => .fail "bStepH") | _ => .fail "bStepH") | _ => .fail "bStepH") | _ => .fail "bStepH") | _ => .fail "bStepH") | _ => .fail "bStepH") | _ => .fail "bStepH") | _ => .fail "bStepH"
  | _ => .fail "bStepH"
theorem fitbStepH (gl : List (Nat × SVal)) (x : List Int) (pc : SI) (ie eie : SB) (epc tv ca ad : SI) (qu no : SI) (sc : List Int) (on : SB) (at_ : SI) (l : List Int) (us : List (Int × Int)) (ks : List Int) (se : List (Int × Int × Int)) : (fits (envK gl [(31, kmWaits), (32, kmRang), (33, kbEnter), (34, kOnce), (35, kbdo)] 4) (S1 [.ptr 0 0] (numC 0 [.cells [.ptr 1 0, .arr .u32 16 x, .int .u32 pc, .bool ie, .bool eie, .int .u32 epc, .int .u32 tv, .int .u32 ca, .int .u32 ad, .ptr 2 0, .int .i64 qu, .int .i64 no, .bool (.lit false), .own 4], .cells [.own 3], .cells [.own 5, .arr .u32 16 sc, .bool on, .int .i64 at_, .own 6], .recs .u32 l, .recs (.flat (.int .i64) [.int .u32]) us, .recs .u32 ks, .recs (.flat (.int .i64) [.int .u32, .int .u32]) se]) 7 72) (S1 [.ptr 0 0] (mHpO (⟨l, ⟨x, pc.val, ie.val, eie.val, epc.val, tv.val, ca.val, ad.val⟩, ⟨ks, sc, on.val, at_.val, se⟩, qu.val, no.val, false, us⟩ : Mc)) 7 72)) = (
  x = x ∧ SI.val pc = SI.val pc ∧ SB.val ie = SB.val ie ∧ SB.val eie = SB.val eie ∧ SI.val epc = SI.val epc ∧ SI.val tv = SI.val tv ∧ SI.val ca = SI.val ca ∧ SI.val ad = SI.val ad ∧ SI.val qu = SI.val qu ∧ SI.val no = SI.val no ∧ false = false ∧ sc = sc ∧ SB.val on = SB.val on ∧ SI.val at_ = SI.val at_ ∧ l = l ∧ us = us ∧ ks = ks ∧ se = se) := by kernel_rfl
theorem cbStepH : Con ea has gl 12 kbStepH := by
  refine gen_mk0 Tryz.func12 72 4 (con := [(31, kmWaits), (32, kmRang), (33, kbEnter), (34, kOnce), (35, kbdo)]) ⟨cmWaits, cmRang, cbEnter, cOnce, cbdo, trivial⟩ (fun hA hr hv => ?_) (by kernel_rfl) (by kernel_rfl)
  unfold kbStepH at hr; split at hr
  · rename_i q
    simp only [Acc.run] at hr
    split at hr
    · rename_i m x pc ie eie epc tv ca ad d qu no w hq
      simp only [Acc.run] at hr
      split at hr
      · rename_i p hm
        simp only [Acc.run] at hr
        split at hr
        · rename_i k sc on at_ e hd
          simp only [Acc.run] at hr
          split at hr
          · rename_i l hp
            simp only [Acc.run] at hr
            split at hr
            · rename_i us hw
              simp only [Acc.run] at hr
              split at hr
              · rename_i ks hk
                simp only [Acc.run] at hr
                split at hr
                · rename_i se he
                  split at hr
                  · rename_i hnd
                    have := ret_ok hr; subst this
                    exact ⟨[q, m, d, p], [w, k, e], [.cells [.ptr 1 0, .arr .u32 16 x, .int .u32 pc, .bool ie, .bool eie, .int .u32 epc, .int .u32 tv, .int .u32 ca, .int .u32 ad, .ptr 2 0, .int .i64 qu, .int .i64 no, .bool (.lit false), .own 4], .cells [.own 3], .cells [.own 5, .arr .u32 16 sc, .bool on, .int .i64 at_, .own 6], .recs .u32 l, .recs (.flat (.int .i64) [.int .u32]) us, .recs .u32 ks, .recs (.flat (.int .i64) [.int .u32, .int .u32]) se], [.ptr 0 0], (S1 [.ptr 0 0] (mHpO (⟨l, ⟨x, pc.val, ie.val, eie.val, epc.val, tv.val, ca.val, ad.val⟩, ⟨ks, sc, on.val, at_.val, se⟩, qu.val, no.val, false, us⟩ : Mc)) 7 72), .bool (.lit true), mHpV h20 (.lit (.ofNat 1)) (.lit true), 3, rfl, rfl, ⟨rfl, rfl, rfl⟩, hnd, ⟨hq, hm, hd, hp, hw, hk, he, trivial⟩, rfl, rfl, .of (fitbStepH gl x pc ie eie epc tv ca ad qu no sc on at_ l us ks se) (by simp [nilR]), rfl, fun _ _ _ _ _ _ _ I Z hZ => hbStepH ⟨l, ⟨x, pc.val, ie.val, eie.val, epc.val, tv.val, ca.val, ad.val⟩, ⟨ks, sc, on.val, at_.val, se⟩, qu.val, no.val, false, us⟩ (hv _ rfl) I Z hZ⟩
                  · cases hr
                · cases hr
              · cases hr
            · cases hr
          · cases hr
        · cases hr
      · cases hr
    · cases hr
  · cases hr
def kbStepF : List SVal → Nat → Acc ORes := fun a n => match a with
  | [.ptr q 0] => .look q fun cc => match cc with | some (.cells [.ptr m 0, .arr .u32 16 x, .int .u32 pc, .bool ie, .bool eie, .int .u32 epc, .int .u32 tv, .int .u32 ca, .int .u32 ad, .ptr d 0, .int .i64 qu, .int .i64 no, .bool (.lit true), .own w]) => (.look m fun cc => match cc with | some (.cells [.own p]) => (.look d fun cc => match cc with | some (.cells [.own k, .arr .u32 16 sc, .bool on, .int .i64 at_, .own e]) => (.look p fun cc => match cc with | some (.recs .u32 l) => (.look w fun cc => match cc with | some (.recs (.flat (.int .i64) [.int .u32]) us) => (.look k fun cc => match cc with | some (.recs .u32 ks) => (.look e fun cc => match cc with | some (.recs (.flat (.int .i64) [.int .u32, .int .u32]) se) => (match nodupB [q, m, d, p, w, k, e] with | true => .ret (genR [q, m, d, p] (gone [w, k, e]) n (.bool (.lit false)) (mHpV (⟨l, ⟨x, pc.val, ie.val, eie.val, epc.val, tv.val, ca.val, ad.val⟩, ⟨ks, sc, on.val, at_.val, se⟩, qu.val, no.val, true, us⟩ : Mc) (.full (⟨l, ⟨x, pc.val, ie.val, eie.val, epc.val, tv.val, ca.val, ad.val⟩, ⟨ks, sc, on.val, at_.val, se⟩, qu.val, no.val, true, us⟩ : Mc).now) (.lit true)) 3 (some (isOver (⟨l, ⟨x, pc.val, ie.val, eie.val, epc.val, tv.val, ca.val, ad.val⟩, ⟨ks, sc, on.val, at_.val, se⟩, qu.val, no.val, true, us⟩ : Mc)))) | false => .fail "bStepF") | _ => .fail "bStepF") | _ => .fail "bStepF") | _ => .fail "bStepF") | _ => .fail "bStepF") | _ => .fail "bStepF") | _ => .fail "bStepF") | _ => .fail "bStepF"
  | _ => .fail "bStepF"
theorem fitbStepF (gl : List (Nat × SVal)) (x : List Int) (pc : SI) (ie eie : SB) (epc tv ca ad : SI) (qu no : SI) (sc : List Int) (on : SB) (at_ : SI) (l : List Int) (us : List (Int × Int)) (ks : List Int) (se : List (Int × Int × Int)) : (fits (envK gl [(31, kmWaits), (32, kmRang), (33, kbEnter), (34, kOnce), (35, kbdo)] 4) (S1 [.ptr 0 0] (numC 0 [.cells [.ptr 1 0, .arr .u32 16 x, .int .u32 pc, .bool ie, .bool eie, .int .u32 epc, .int .u32 tv, .int .u32 ca, .int .u32 ad, .ptr 2 0, .int .i64 qu, .int .i64 no, .bool (.lit true), .own 4], .cells [.own 3], .cells [.own 5, .arr .u32 16 sc, .bool on, .int .i64 at_, .own 6], .recs .u32 l, .recs (.flat (.int .i64) [.int .u32]) us, .recs .u32 ks, .recs (.flat (.int .i64) [.int .u32, .int .u32]) se]) 7 72) (S1 [.ptr 0 0] (mHpO (⟨l, ⟨x, pc.val, ie.val, eie.val, epc.val, tv.val, ca.val, ad.val⟩, ⟨ks, sc, on.val, at_.val, se⟩, qu.val, no.val, true, us⟩ : Mc)) 7 72)) = (
  x = x ∧ SI.val pc = SI.val pc ∧ SB.val ie = SB.val ie ∧ SB.val eie = SB.val eie ∧ SI.val epc = SI.val epc ∧ SI.val tv = SI.val tv ∧ SI.val ca = SI.val ca ∧ SI.val ad = SI.val ad ∧ SI.val qu = SI.val qu ∧ SI.val no = SI.val no ∧ true = true ∧ sc = sc ∧ SB.val on = SB.val on ∧ SI.val at_ = SI.val at_ ∧ l = l ∧ us = us ∧ ks = ks ∧ se = se) := by kernel_rfl
theorem cbStepF : Con ea has gl 12 kbStepF := by
  refine gen_mk0 Tryz.func12 72 4 (con := [(31, kmWaits), (32, kmRang), (33, kbEnter), (34, kOnce), (35, kbdo)]) ⟨cmWaits, cmRang, cbEnter, cOnce, cbdo, trivial⟩ (fun hA hr hv => ?_) (by kernel_rfl) (by kernel_rfl)
  unfold kbStepF at hr; split at hr
  · rename_i q
    simp only [Acc.run] at hr
    split at hr
    · rename_i m x pc ie eie epc tv ca ad d qu no w hq
      simp only [Acc.run] at hr
      split at hr
      · rename_i p hm
        simp only [Acc.run] at hr
        split at hr
        · rename_i k sc on at_ e hd
          simp only [Acc.run] at hr
          split at hr
          · rename_i l hp
            simp only [Acc.run] at hr
            split at hr
            · rename_i us hw
              simp only [Acc.run] at hr
              split at hr
              · rename_i ks hk
                simp only [Acc.run] at hr
                split at hr
                · rename_i se he
                  split at hr
                  · rename_i hnd
                    have := ret_ok hr; subst this
                    exact ⟨[q, m, d, p], [w, k, e], [.cells [.ptr 1 0, .arr .u32 16 x, .int .u32 pc, .bool ie, .bool eie, .int .u32 epc, .int .u32 tv, .int .u32 ca, .int .u32 ad, .ptr 2 0, .int .i64 qu, .int .i64 no, .bool (.lit true), .own 4], .cells [.own 3], .cells [.own 5, .arr .u32 16 sc, .bool on, .int .i64 at_, .own 6], .recs .u32 l, .recs (.flat (.int .i64) [.int .u32]) us, .recs .u32 ks, .recs (.flat (.int .i64) [.int .u32, .int .u32]) se], [.ptr 0 0], (S1 [.ptr 0 0] (mHpO (⟨l, ⟨x, pc.val, ie.val, eie.val, epc.val, tv.val, ca.val, ad.val⟩, ⟨ks, sc, on.val, at_.val, se⟩, qu.val, no.val, true, us⟩ : Mc)) 7 72), .bool (.lit false), mHpV (⟨l, ⟨x, pc.val, ie.val, eie.val, epc.val, tv.val, ca.val, ad.val⟩, ⟨ks, sc, on.val, at_.val, se⟩, qu.val, no.val, true, us⟩ : Mc) (.full (⟨l, ⟨x, pc.val, ie.val, eie.val, epc.val, tv.val, ca.val, ad.val⟩, ⟨ks, sc, on.val, at_.val, se⟩, qu.val, no.val, true, us⟩ : Mc).now) (.lit true), 3, rfl, rfl, ⟨rfl, rfl, rfl⟩, hnd, ⟨hq, hm, hd, hp, hw, hk, he, trivial⟩, rfl, rfl, .of (fitbStepF gl x pc ie eie epc tv ca ad qu no sc on at_ l us ks se) (by simp [nilR]), rfl, fun _ _ _ _ _ _ _ I Z hZ => hbStepF ⟨l, ⟨x, pc.val, ie.val, eie.val, epc.val, tv.val, ca.val, ad.val⟩, ⟨ks, sc, on.val, at_.val, se⟩, qu.val, no.val, true, us⟩ (hv _ rfl) I Z hZ⟩
                  · cases hr
                · cases hr
              · cases hr
            · cases hr
          · cases hr
        · cases hr
      · cases hr
    · cases hr
  · cases hr
abbrev kbStepJ := joinK selOver kbStepF kbStepH
theorem cbStepJ : Con ea has gl 12 kbStepJ := joinK_ok cbStepF cbStepH _
end
end Go.Proofs.YtpjccdncokamlaaGreatDoor

