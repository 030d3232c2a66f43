/- Contracts that the proofs use. -/
import Derived.Test.YtpjccdncokamlaaDoorQFnFst8b
set_option linter.unusedVariables false
set_option linter.unusedSimpArgs false
namespace Go.Proofs.YtpjccdncokamlaaDoor
open Go.RowKit Go.Sy Go.Fac
section
variable {ea : Ear} {has : Int → Prop} {gl : List (Nat × SVal)}
def goesOk (b : Mc) : Prop := (mcOk b ∧ few b.l) ∧ b.over = false
def selOverF : List SVal → Acc Bool
  | [.ptr q 0] => .look q fun c => match c with
    | some (.cells [_, _, _, _, _, _, _, _, _, _, _, _, .bool (.lit false), _]) => .ret true
    | _ => .ret false
  | _ => .ret false
def kbOverF0 : List SVal → Nat → Acc ORes := fun a n => match a with | [.rop [.rop [.ro .u32 l], .arr .u32 16 x, .int .u32 pc, .bool ie, .bool eie, .int .u32 epc, .int .u32 tv, .int .u32 ca, .int .u32 ad, .rop [.ro .u32 ks, .arr .u32 16 sc, .bool on, .int .i64 at_, .ro (.flat (.int .i64) [.int .u32, .int .u32]) se], .int .i64 qu, .int .i64 no, .bool (.lit false), .ro (.flat (.int .i64) [.int .u32]) us]] => .ret ({ v := .bool (.lit false) }) | _ => .fail "bOverF0"
theorem argbOverF0 (l : List Int) (x : List Int) (pc : SI) (ie eie : SB) (epc tv ca ad : SI) (ks : List Int) (sc : List Int) (on : SB) (at_ : SI) (se : List (Int × Int × Int)) (qu no : SI) (us : List (Int × Int)) : (all (subL tAtN none' [] deep [.rop [.rop [.ro .u32 l], .arr .u32 16 x, .int .u32 pc, .bool ie, .bool eie, .int .u32 epc, .int .u32 tv, .int .u32 ca, .int .u32 ad, .rop [.ro .u32 ks, .arr .u32 16 sc, .bool on, .int .i64 at_, .ro (.flat (.int .i64) [.int .u32, .int .u32]) se], .int .i64 qu, .int .i64 no, .bool (.lit false), .ro (.flat (.int .i64) [.int .u32]) us]] [.rop [.rop [.ro .u32 (⟨l, ⟨x, pc.val, ie.val, eie.val, epc.val, tv.val, ca.val, ad.val⟩, ⟨ks, sc, on.val, at_.val, se⟩, qu.val, no.val, false, us⟩ : Mc).l], .arr .u32 16 (⟨l, ⟨x, pc.val, ie.val, eie.val, epc.val, tv.val, ca.val, ad.val⟩, ⟨ks, sc, on.val, at_.val, se⟩, qu.val, no.val, false, us⟩ : Mc).c.r, .int .u32 (.full (⟨l, ⟨x, pc.val, ie.val, eie.val, epc.val, tv.val, ca.val, ad.val⟩, ⟨ks, sc, on.val, at_.val, se⟩, qu.val, no.val, false, us⟩ : Mc).c.pc), .bool (.sym (⟨l, ⟨x, pc.val, ie.val, eie.val, epc.val, tv.val, ca.val, ad.val⟩, ⟨ks, sc, on.val, at_.val, se⟩, qu.val, no.val, false, us⟩ : Mc).c.ie), .bool (.sym (⟨l, ⟨x, pc.val, ie.val, eie.val, epc.val, tv.val, ca.val, ad.val⟩, ⟨ks, sc, on.val, at_.val, se⟩, qu.val, no.val, false, us⟩ : Mc).c.eie), .int .u32 (.full (⟨l, ⟨x, pc.val, ie.val, eie.val, epc.val, tv.val, ca.val, ad.val⟩, ⟨ks, sc, on.val, at_.val, se⟩, qu.val, no.val, false, us⟩ : Mc).c.epc), .int .u32 (.full (⟨l, ⟨x, pc.val, ie.val, eie.val, epc.val, tv.val, ca.val, ad.val⟩, ⟨ks, sc, on.val, at_.val, se⟩, qu.val, no.val, false, us⟩ : Mc).c.tv), .int .u32 (.full (⟨l, ⟨x, pc.val, ie.val, eie.val, epc.val, tv.val, ca.val, ad.val⟩, ⟨ks, sc, on.val, at_.val, se⟩, qu.val, no.val, false, us⟩ : Mc).c.cause), .int .u32 (.full (⟨l, ⟨x, pc.val, ie.val, eie.val, epc.val, tv.val, ca.val, ad.val⟩, ⟨ks, sc, on.val, at_.val, se⟩, qu.val, no.val, false, us⟩ : Mc).c.addr), .rop [.ro .u32 (⟨l, ⟨x, pc.val, ie.val, eie.val, epc.val, tv.val, ca.val, ad.val⟩, ⟨ks, sc, on.val, at_.val, se⟩, qu.val, no.val, false, us⟩ : Mc).d.keys, .arr .u32 16 (⟨l, ⟨x, pc.val, ie.val, eie.val, epc.val, tv.val, ca.val, ad.val⟩, ⟨ks, sc, on.val, at_.val, se⟩, qu.val, no.val, false, us⟩ : Mc).d.sec, .bool (.sym (⟨l, ⟨x, pc.val, ie.val, eie.val, epc.val, tv.val, ca.val, ad.val⟩, ⟨ks, sc, on.val, at_.val, se⟩, qu.val, no.val, false, us⟩ : Mc).d.on), .int .i64 (.full (⟨l, ⟨x, pc.val, ie.val, eie.val, epc.val, tv.val, ca.val, ad.val⟩, ⟨ks, sc, on.val, at_.val, se⟩, qu.val, no.val, false, us⟩ : Mc).d.at_), .ro seenT (⟨l, ⟨x, pc.val, ie.val, eie.val, epc.val, tv.val, ca.val, ad.val⟩, ⟨ks, sc, on.val, at_.val, se⟩, qu.val, no.val, false, us⟩ : Mc).d.seen], .int .i64 (.full (⟨l, ⟨x, pc.val, ie.val, eie.val, epc.val, tv.val, ca.val, ad.val⟩, ⟨ks, sc, on.val, at_.val, se⟩, qu.val, no.val, false, us⟩ : Mc).quota), .int .i64 (.full (⟨l, ⟨x, pc.val, ie.val, eie.val, epc.val, tv.val, ca.val, ad.val⟩, ⟨ks, sc, on.val, at_.val, se⟩, qu.val, no.val, false, us⟩ : Mc).now), .bool (.lit false), .ro updT (⟨l, ⟨x, pc.val, ie.val, eie.val, epc.val, tv.val, ca.val, ad.val⟩, ⟨ks, sc, on.val, at_.val, se⟩, qu.val, no.val, false, us⟩ : Mc).w]])) = (
  l = l ∧ x = x ∧ SI.val pc = SI.val pc ∧ SB.val ie = SB.val ie ∧ SB.val eie = SB.val eie ∧ SI.val epc = SI.val epc ∧ SI.val tv = SI.val tv ∧ SI.val ca = SI.val ca ∧ SI.val ad = SI.val ad ∧ ks = ks ∧ sc = sc ∧ SB.val on = SB.val on ∧ SI.val at_ = SI.val at_ ∧ se = se ∧ SI.val qu = SI.val qu ∧ SI.val no = SI.val no ∧ false = false ∧ us = us) := by kernel_rfl
theorem runbOverF0 (gl : List (Nat × SVal)) (b : Mc) : (Tr.sat (plainQ (.bool (.lit false))) (run (env gl []) [] (bodyOf Tryd.f13) (start [.rop [.rop [.ro .u32 b.l], .arr .u32 16 b.c.r, .int .u32 (.full b.c.pc), .bool (.sym b.c.ie), .bool (.sym b.c.eie), .int .u32 (.full b.c.epc), .int .u32 (.full b.c.tv), .int .u32 (.full b.c.cause), .int .u32 (.full b.c.addr), .rop [.ro .u32 b.d.keys, .arr .u32 16 b.d.sec, .bool (.sym b.d.on), .int .i64 (.full b.d.at_), .ro seenT b.d.seen], .int .i64 (.full b.quota), .int .i64 (.full b.now), .bool (.lit false), .ro updT b.w]] 7) (ends (env gl []) Tryd.f13.results.toList))) = (
  false = false) := by kernel_rfl
set_option maxHeartbeats 4000000 in
theorem gbOverF0 (b : Mc)  : Box (Tr.sat (plainQ (.bool (.lit false))) (run (env gl []) [] (bodyOf Tryd.f13) (start [.rop [.rop [.ro .u32 b.l], .arr .u32 16 b.c.r, .int .u32 (.full b.c.pc), .bool (.sym b.c.ie), .bool (.sym b.c.eie), .int .u32 (.full b.c.epc), .int .u32 (.full b.c.tv), .int .u32 (.full b.c.cause), .int .u32 (.full b.c.addr), .rop [.ro .u32 b.d.keys, .arr .u32 16 b.d.sec, .bool (.sym b.d.on), .int .i64 (.full b.d.at_), .ro seenT b.d.seen], .int .i64 (.full b.quota), .int .i64 (.full b.now), .bool (.lit false), .ro updT b.w]] 7) (ends (env gl []) Tryd.f13.results.toList))) := by
  refine .of (runbOverF0 gl b) ?_
  rfl
set_option maxHeartbeats 4000000 in
theorem cbOverF0 : Con ea has gl 13 kbOverF0 := by
  refine plain_mkB Tryd.func13 7 (con := []) trivial (fun hA hr hv => ?_) (by kernel_rfl) (by kernel_rfl) Tryd.ntmps13
  unfold kbOverF0 at hr; split at hr
  · rename_i l x pc ie eie epc tv ca ad ks sc on at_ se qu no us
    have := ret_ok hr; subst this
    exact ⟨_, [], rfl, rfl, .of (argbOverF0 l x pc ie eie epc tv ca ad ks sc on at_ se qu no us) (by simp), rfl, (fun W R ρ0 own0 hown => noSums (by kernel_rfl)), gbOverF0 ⟨l, ⟨x, pc.val, ie.val, eie.val, epc.val, tv.val, ca.val, ad.val⟩, ⟨ks, sc, on.val, at_.val, se⟩, qu.val, no.val, false, us⟩ ⟩
  · cases hr
abbrev kbOverL := joinK selOverF (bor [.box [.box [.ro .u32], .any, .any, .any, .any, .any, .any, .any, .any, .box [.ro .u32, .any, .any, .any, .ro seenT], .any, .any, .any, .ro updT]] kbOverF0) kbOverJ
theorem cbOverL : Con ea has gl 13 kbOverL := joinK_ok (bor_ok cbOverF0 _) cbOverJ _
theorem stpEL (gl : List (Nat × SVal)) (b b' : Mc) : (newQ (envK gl stepCons 4) (.bool (.lit true)) (mHp b') 7 .ret { fr := [(0, .bool (.lit true))], hp := (stE b).hp, next := (stE b).next, sz := 1 }) = (
  true = true ∧ b.c.r = b'.c.r ∧ b.c.pc = b'.c.pc ∧ b.c.ie = b'.c.ie ∧ b.c.eie = b'.c.eie ∧ b.c.epc = b'.c.epc ∧ b.c.tv = b'.c.tv ∧ b.c.cause = b'.c.cause ∧ b.c.addr = b'.c.addr ∧ b.quota = b'.quota ∧ b.now = b'.now ∧ b.over = b'.over ∧ b.d.sec = b'.d.sec ∧ b.d.on = b'.d.on ∧ b.d.at_ = b'.d.at_ ∧ b.l = b'.l ∧ b.w = b'.w ∧ b.d.keys = b'.d.keys ∧ b.d.seen = b'.d.seen) := by kernel_rfl
theorem tEL (b : Mc) (ho : b.over = false) : newQ (envK gl stepCons 4) (.bool (.lit true)) (mHp (stepM true b)) 7 .ret { fr := [(0, .bool (.lit true))], hp := (stE (tickM (stepN true b))).hp, next := (stE (tickM (stepN true b))).next, sz := 1 } ∧ True := by
  rw [stpEL gl (tickM (stepN true b)) (stepM true b)]
  exact ⟨⟨rfl, mc_eq (stepM_N true ho).symm⟩, trivial⟩
set_option maxHeartbeats 400000 in
theorem hbStepL (b : Mc) (hv : goesOk b) {W : World} {R own0 : Nat → Prop} {ρ0 : Nat → Option Value} {R2 : Nat → Prop} {ρ2 : Nat → Option Value} {vs : List Value} (I : Inv (envK gl stepCons 4) (ctx ea has) gl W R own0 ρ0 (S1 [.ptr 0 0] (mHpO b) 7 72) ⟨vs.toArray ++ Array.replicate (72 - vs.toArray.size) undef, []⟩ W R2 ρ2) (Z : Ending → World → Prop)
    (hZ : ∀ e s v W' R1 ρ1, newQ (envK gl stepCons 4) (.bool (.lit true)) (mHp (stepM true b)) (4 + 3) e s → Inv (envK gl stepCons 4) (ctx ea has) gl W R own0 ρ0 s ⟨#[v], []⟩ W' R1 ρ1 → Z (.returned v) W') : Calls Tryd.prog 14 vs.toArray W Z :=
  dfr_run (C := ctx ea has) (E := envK gl stepCons 4) (f := 14) (fn := Tryd.f14) (fc := 34) (fnc := Tryd.f34) (cc := bodyOf Tryd.f34) (rt := 2) (k := 1) (d := 10) (q := 7) (w := .bool (.lit true)) (wr := .bool (.lit false))
    (pN := b.over = false) (pR := b.over = true) (pM := (intrM true b).over = false) (pX := True)
    (s0 := S1 [.ptr 0 0] (mHpO b) 7 72) (sA := stA b) (sD := stA b) (sR := stR b) (sI := stA (intrM true b)) (sB := stB (stepN true b)) (sE := stE (tickM (stepN true b))) (ls := []) (ls2 := [])
    (envK_ok stepOk) rfl Tryd.func14 stp_body (by kernel_rfl) Tryd.func34 (by kernel_rfl) (by kernel_rfl) (by kernel_rfl) (by kernel_rfl)
    (inv_nt Tryd.ntmps14 I) (t0 b) (t1 b) (by kernel_rfl) rfl rfl rfl (by kernel_rfl) (by kernel_rfl) (fun ho df => t2 b hv.1.1 ho df) (fun ho hm df => t4 (intrM true b) (intr_ok hv.1 ho hm) df (stepN true b) (stepN_go hm))
    rfl rfl rfl rfl (fun _ => t3 (stepN true b)) (Qf := newQ (envK gl stepCons 4) (.bool (.lit true)) (mHp (stepM true b)) 7) (fun h => by rw [hv.2] at h; cases h) (fun h => tEL b h) hZ
def kbStepL : List SVal → Nat → Acc ORes := fun a n => match a with
  | [.ptr q 0] => .look q fun cc => match cc with | some (.cells [.ptr m 0, .arr .u32 16 x, .int .u32 pc, .bool ie, .bool eie, .int .u32 epc, .int .u32 tv, .int .u32 ca, .int .u32 ad, .ptr d 0, .int .i64 qu, .int .i64 no, .bool (.lit false), .own w]) => (.look m fun cc => match cc with | some (.cells [.own p]) => (.look d fun cc => match cc with | some (.cells [.own k, .arr .u32 16 sc, .bool on, .int .i64 at_, .own e]) => (.look p fun cc => match cc with | some (.recs .u32 l) => (.look w fun cc => match cc with | some (.recs (.flat (.int .i64) [.int .u32]) us) => (.look k fun cc => match cc with | some (.recs .u32 ks) => (.look e fun cc => match cc with | some (.recs (.flat (.int .i64) [.int .u32, .int .u32]) se) => (match nodupB [q, m, d, p, w, k, e] with | true => .ret (genR [q, m, d, p] (gone [w, k, e]) n (.bool (.lit true)) (mHp (stepM true (⟨l, ⟨x, pc.val, ie.val, eie.val, epc.val, tv.val, ca.val, ad.val⟩, ⟨ks, sc, on.val, at_.val, se⟩, qu.val, no.val, false, us⟩ : Mc))) 3 (some (goesOk (⟨l, ⟨x, pc.val, ie.val, eie.val, epc.val, tv.val, ca.val, ad.val⟩, ⟨ks, sc, on.val, at_.val, se⟩, qu.val, no.val, false, us⟩ : Mc)))) | false => .fail "bStepL") | _ => .fail "bStepL") | _ => .fail "bStepL") | _ => .fail "bStepL") | _ => .fail "bStepL") | _ => .fail "bStepL") | _ => .fail "bStepL") | _ => .fail "bStepL"
  | _ => .fail "bStepL"
theorem fitbStepL (gl : List (Nat × SVal)) (x : List Int) (pc : SI) (ie eie : SB) (epc tv ca ad : SI) (qu no : SI) (sc : List Int) (on : SB) (at_ : SI) (l : List Int) (us : List (Int × Int)) (ks : List Int) (se : List (Int × Int × Int)) : (fits (envK gl [(35, kmWaits), (36, kmRang), (37, kbEnter), (38, kOnce), (39, kbdo)] 4) (S1 [.ptr 0 0] (numC 0 [.cells [.ptr 1 0, .arr .u32 16 x, .int .u32 pc, .bool ie, .bool eie, .int .u32 epc, .int .u32 tv, .int .u32 ca, .int .u32 ad, .ptr 2 0, .int .i64 qu, .int .i64 no, .bool (.lit false), .own 4], .cells [.own 3], .cells [.own 5, .arr .u32 16 sc, .bool on, .int .i64 at_, .own 6], .recs .u32 l, .recs (.flat (.int .i64) [.int .u32]) us, .recs .u32 ks, .recs (.flat (.int .i64) [.int .u32, .int .u32]) se]) 7 72) (S1 [.ptr 0 0] (mHpO (⟨l, ⟨x, pc.val, ie.val, eie.val, epc.val, tv.val, ca.val, ad.val⟩, ⟨ks, sc, on.val, at_.val, se⟩, qu.val, no.val, false, us⟩ : Mc)) 7 72)) = (
  x = x ∧ SI.val pc = SI.val pc ∧ SB.val ie = SB.val ie ∧ SB.val eie = SB.val eie ∧ SI.val epc = SI.val epc ∧ SI.val tv = SI.val tv ∧ SI.val ca = SI.val ca ∧ SI.val ad = SI.val ad ∧ SI.val qu = SI.val qu ∧ SI.val no = SI.val no ∧ false = false ∧ sc = sc ∧ SB.val on = SB.val on ∧ SI.val at_ = SI.val at_ ∧ l = l ∧ us = us ∧ ks = ks ∧ se = se) := by kernel_rfl
set_option maxHeartbeats 4000000 in
theorem cbStepL : Con ea has gl 14 kbStepL := by
  refine gen_mk0 Tryd.func14 72 4 (con := [(35, kmWaits), (36, kmRang), (37, kbEnter), (38, kOnce), (39, kbdo)]) ⟨cmWaits, cmRang, cbEnter, cOnce, cbdo, trivial⟩ (fun hA hr hv => ?_) (by kernel_rfl) (by kernel_rfl)
  unfold kbStepL at hr; split at hr
  · rename_i q
    simp only [Acc.run] at hr
    split at hr
    · rename_i m x pc ie eie epc tv ca ad d qu no w hq
      simp only [Acc.run] at hr
      split at hr
      · rename_i p hm
        simp only [Acc.run] at hr
        split at hr
        · rename_i k sc on at_ e hd
          simp only [Acc.run] at hr
          split at hr
          · rename_i l hp
            simp only [Acc.run] at hr
            split at hr
            · rename_i us hw
              simp only [Acc.run] at hr
              split at hr
              · rename_i ks hk
                simp only [Acc.run] at hr
                split at hr
                · rename_i se he
                  split at hr
                  · rename_i hnd
                    have := ret_ok hr; subst this
                    exact ⟨[q, m, d, p], [w, k, e], [.cells [.ptr 1 0, .arr .u32 16 x, .int .u32 pc, .bool ie, .bool eie, .int .u32 epc, .int .u32 tv, .int .u32 ca, .int .u32 ad, .ptr 2 0, .int .i64 qu, .int .i64 no, .bool (.lit false), .own 4], .cells [.own 3], .cells [.own 5, .arr .u32 16 sc, .bool on, .int .i64 at_, .own 6], .recs .u32 l, .recs (.flat (.int .i64) [.int .u32]) us, .recs .u32 ks, .recs (.flat (.int .i64) [.int .u32, .int .u32]) se], [.ptr 0 0], (S1 [.ptr 0 0] (mHpO (⟨l, ⟨x, pc.val, ie.val, eie.val, epc.val, tv.val, ca.val, ad.val⟩, ⟨ks, sc, on.val, at_.val, se⟩, qu.val, no.val, false, us⟩ : Mc)) 7 72), .bool (.lit true), mHp (stepM true (⟨l, ⟨x, pc.val, ie.val, eie.val, epc.val, tv.val, ca.val, ad.val⟩, ⟨ks, sc, on.val, at_.val, se⟩, qu.val, no.val, false, us⟩ : Mc)), 3, rfl, rfl, ⟨rfl, rfl, rfl⟩, hnd, ⟨hq, hm, hd, hp, hw, hk, he, trivial⟩, rfl, rfl, .of (fitbStepL gl x pc ie eie epc tv ca ad qu no sc on at_ l us ks se) (by simp [nilR]), rfl, fun _ _ _ _ _ _ _ I Z hZ => hbStepL ⟨l, ⟨x, pc.val, ie.val, eie.val, epc.val, tv.val, ca.val, ad.val⟩, ⟨ks, sc, on.val, at_.val, se⟩, qu.val, no.val, false, us⟩ (hv _ rfl) I Z hZ⟩
                  · cases hr
                · cases hr
              · cases hr
            · cases hr
          · cases hr
        · cases hr
      · cases hr
    · cases hr
  · cases hr
abbrev kbStepW := joinK selOverF kbStepL (joinK selOver kbStepF kbStep)
theorem cbStepW : Con ea has gl 14 kbStepW := joinK_ok cbStepL (joinK_ok cbStepF cbStep _) _
def notOver (b : Mc) : Prop := b.over = false
def kbOverN0 : List SVal → Nat → Acc ORes := fun a n => match a with | [.rop [.rop [.ro .u32 l], .arr .u32 16 x, .int .u32 pc, .bool ie, .bool eie, .int .u32 epc, .int .u32 tv, .int .u32 ca, .int .u32 ad, .rop [.ro .u32 ks, .arr .u32 16 sc, .bool on, .int .i64 at_, .ro (.flat (.int .i64) [.int .u32, .int .u32]) se], .int .i64 qu, .int .i64 no, .bool ov, .ro (.flat (.int .i64) [.int .u32]) us]] => .ret ({ v := .bool (.lit false), vc := some (notOver (⟨l, ⟨x, pc.val, ie.val, eie.val, epc.val, tv.val, ca.val, ad.val⟩, ⟨ks, sc, on.val, at_.val, se⟩, qu.val, no.val, ov.val, us⟩ : Mc)) }) | _ => .fail "bOverN0"
theorem argbOverN0 (l : List Int) (x : List Int) (pc : SI) (ie eie : SB) (epc tv ca ad : SI) (ks : List Int) (sc : List Int) (on : SB) (at_ : SI) (se : List (Int × Int × Int)) (qu no : SI) (ov : SB) (us : List (Int × Int)) : (all (subL tAtN none' [] deep [.rop [.rop [.ro .u32 l], .arr .u32 16 x, .int .u32 pc, .bool ie, .bool eie, .int .u32 epc, .int .u32 tv, .int .u32 ca, .int .u32 ad, .rop [.ro .u32 ks, .arr .u32 16 sc, .bool on, .int .i64 at_, .ro (.flat (.int .i64) [.int .u32, .int .u32]) se], .int .i64 qu, .int .i64 no, .bool ov, .ro (.flat (.int .i64) [.int .u32]) us]] [.rop [.rop [.ro .u32 (⟨l, ⟨x, pc.val, ie.val, eie.val, epc.val, tv.val, ca.val, ad.val⟩, ⟨ks, sc, on.val, at_.val, se⟩, qu.val, no.val, ov.val, us⟩ : Mc).l], .arr .u32 16 (⟨l, ⟨x, pc.val, ie.val, eie.val, epc.val, tv.val, ca.val, ad.val⟩, ⟨ks, sc, on.val, at_.val, se⟩, qu.val, no.val, ov.val, us⟩ : Mc).c.r, .int .u32 (.full (⟨l, ⟨x, pc.val, ie.val, eie.val, epc.val, tv.val, ca.val, ad.val⟩, ⟨ks, sc, on.val, at_.val, se⟩, qu.val, no.val, ov.val, us⟩ : Mc).c.pc), .bool (.sym (⟨l, ⟨x, pc.val, ie.val, eie.val, epc.val, tv.val, ca.val, ad.val⟩, ⟨ks, sc, on.val, at_.val, se⟩, qu.val, no.val, ov.val, us⟩ : Mc).c.ie), .bool (.sym (⟨l, ⟨x, pc.val, ie.val, eie.val, epc.val, tv.val, ca.val, ad.val⟩, ⟨ks, sc, on.val, at_.val, se⟩, qu.val, no.val, ov.val, us⟩ : Mc).c.eie), .int .u32 (.full (⟨l, ⟨x, pc.val, ie.val, eie.val, epc.val, tv.val, ca.val, ad.val⟩, ⟨ks, sc, on.val, at_.val, se⟩, qu.val, no.val, ov.val, us⟩ : Mc).c.epc), .int .u32 (.full (⟨l, ⟨x, pc.val, ie.val, eie.val, epc.val, tv.val, ca.val, ad.val⟩, ⟨ks, sc, on.val, at_.val, se⟩, qu.val, no.val, ov.val, us⟩ : Mc).c.tv), .int .u32 (.full (⟨l, ⟨x, pc.val, ie.val, eie.val, epc.val, tv.val, ca.val, ad.val⟩, ⟨ks, sc, on.val, at_.val, se⟩, qu.val, no.val, ov.val, us⟩ : Mc).c.cause), .int .u32 (.full (⟨l, ⟨x, pc.val, ie.val, eie.val, epc.val, tv.val, ca.val, ad.val⟩, ⟨ks, sc, on.val, at_.val, se⟩, qu.val, no.val, ov.val, us⟩ : Mc).c.addr), .rop [.ro .u32 (⟨l, ⟨x, pc.val, ie.val, eie.val, epc.val, tv.val, ca.val, ad.val⟩, ⟨ks, sc, on.val, at_.val, se⟩, qu.val, no.val, ov.val, us⟩ : Mc).d.keys, .arr .u32 16 (⟨l, ⟨x, pc.val, ie.val, eie.val, epc.val, tv.val, ca.val, ad.val⟩, ⟨ks, sc, on.val, at_.val, se⟩, qu.val, no.val, ov.val, us⟩ : Mc).d.sec, .bool (.sym (⟨l, ⟨x, pc.val, ie.val, eie.val, epc.val, tv.val, ca.val, ad.val⟩, ⟨ks, sc, on.val, at_.val, se⟩, qu.val, no.val, ov.val, us⟩ : Mc).d.on), .int .i64 (.full (⟨l, ⟨x, pc.val, ie.val, eie.val, epc.val, tv.val, ca.val, ad.val⟩, ⟨ks, sc, on.val, at_.val, se⟩, qu.val, no.val, ov.val, us⟩ : Mc).d.at_), .ro seenT (⟨l, ⟨x, pc.val, ie.val, eie.val, epc.val, tv.val, ca.val, ad.val⟩, ⟨ks, sc, on.val, at_.val, se⟩, qu.val, no.val, ov.val, us⟩ : Mc).d.seen], .int .i64 (.full (⟨l, ⟨x, pc.val, ie.val, eie.val, epc.val, tv.val, ca.val, ad.val⟩, ⟨ks, sc, on.val, at_.val, se⟩, qu.val, no.val, ov.val, us⟩ : Mc).quota), .int .i64 (.full (⟨l, ⟨x, pc.val, ie.val, eie.val, epc.val, tv.val, ca.val, ad.val⟩, ⟨ks, sc, on.val, at_.val, se⟩, qu.val, no.val, ov.val, us⟩ : Mc).now), .bool (.sym (⟨l, ⟨x, pc.val, ie.val, eie.val, epc.val, tv.val, ca.val, ad.val⟩, ⟨ks, sc, on.val, at_.val, se⟩, qu.val, no.val, ov.val, us⟩ : Mc).over), .ro updT (⟨l, ⟨x, pc.val, ie.val, eie.val, epc.val, tv.val, ca.val, ad.val⟩, ⟨ks, sc, on.val, at_.val, se⟩, qu.val, no.val, ov.val, us⟩ : Mc).w]])) = (
  l = l ∧ x = x ∧ SI.val pc = SI.val pc ∧ SB.val ie = SB.val ie ∧ SB.val eie = SB.val eie ∧ SI.val epc = SI.val epc ∧ SI.val tv = SI.val tv ∧ SI.val ca = SI.val ca ∧ SI.val ad = SI.val ad ∧ ks = ks ∧ sc = sc ∧ SB.val on = SB.val on ∧ SI.val at_ = SI.val at_ ∧ se = se ∧ SI.val qu = SI.val qu ∧ SI.val no = SI.val no ∧ SB.val ov = SB.val ov ∧ us = us) := by kernel_rfl
theorem runbOverN0 (gl : List (Nat × SVal)) (b : Mc) : (Tr.sat (plainQ (.bool (.lit false))) (run (env gl []) [] (bodyOf Tryd.f13) (start [.rop [.rop [.ro .u32 b.l], .arr .u32 16 b.c.r, .int .u32 (.full b.c.pc), .bool (.sym b.c.ie), .bool (.sym b.c.eie), .int .u32 (.full b.c.epc), .int .u32 (.full b.c.tv), .int .u32 (.full b.c.cause), .int .u32 (.full b.c.addr), .rop [.ro .u32 b.d.keys, .arr .u32 16 b.d.sec, .bool (.sym b.d.on), .int .i64 (.full b.d.at_), .ro seenT b.d.seen], .int .i64 (.full b.quota), .int .i64 (.full b.now), .bool (.sym b.over), .ro updT b.w]] 7) (ends (env gl []) Tryd.f13.results.toList))) = (
  b.over = false) := by kernel_rfl
set_option maxHeartbeats 4000000 in
theorem gbOverN0 (b : Mc)  (hv : notOver b) : Box (Tr.sat (plainQ (.bool (.lit false))) (run (env gl []) [] (bodyOf Tryd.f13) (start [.rop [.rop [.ro .u32 b.l], .arr .u32 16 b.c.r, .int .u32 (.full b.c.pc), .bool (.sym b.c.ie), .bool (.sym b.c.eie), .int .u32 (.full b.c.epc), .int .u32 (.full b.c.tv), .int .u32 (.full b.c.cause), .int .u32 (.full b.c.addr), .rop [.ro .u32 b.d.keys, .arr .u32 16 b.d.sec, .bool (.sym b.d.on), .int .i64 (.full b.d.at_), .ro seenT b.d.seen], .int .i64 (.full b.quota), .int .i64 (.full b.now), .bool (.sym b.over), .ro updT b.w]] 7) (ends (env gl []) Tryd.f13.results.toList))) := by
  refine .of (runbOverN0 gl b) ?_
  exact hv
set_option maxHeartbeats 4000000 in
theorem cbOverN0 : Con ea has gl 13 kbOverN0 := by
  refine plain_mkB Tryd.func13 7 (con := []) trivial (fun hA hr hv => ?_) (by kernel_rfl) (by kernel_rfl) Tryd.ntmps13
  unfold kbOverN0 at hr; split at hr
  · rename_i l x pc ie eie epc tv ca ad ks sc on at_ se qu no ov us
    have := ret_ok hr; subst this
    replace hv := hv _ rfl
    exact ⟨_, [], rfl, rfl, .of (argbOverN0 l x pc ie eie epc tv ca ad ks sc on at_ se qu no ov us) (by simp), rfl, (fun W R ρ0 own0 hown => noSums (by kernel_rfl)), gbOverN0 ⟨l, ⟨x, pc.val, ie.val, eie.val, epc.val, tv.val, ca.val, ad.val⟩, ⟨ks, sc, on.val, at_.val, se⟩, qu.val, no.val, ov.val, us⟩  hv⟩
  · cases hr
abbrev kbOverQ := joinK selOver (bor [.box [.box [.ro .u32], .any, .any, .any, .any, .any, .any, .any, .any, .box [.ro .u32, .any, .any, .any, .ro seenT], .any, .any, .any, .ro updT]] kbOverT0) (bor [.box [.box [.ro .u32], .any, .any, .any, .any, .any, .any, .any, .any, .box [.ro .u32, .any, .any, .any, .ro seenT], .any, .any, .any, .ro updT]] kbOverN0)
theorem cbOverQ : Con ea has gl 13 kbOverQ := joinK_ok (bor_ok cbOverT0 _) (bor_ok cbOverN0 _) _
abbrev kbStepQ := joinK selOver kbStepF kbStep
theorem cbStepQ : Con ea has gl 14 kbStepQ := joinK_ok cbStepF cbStep _
end
end Go.Proofs.YtpjccdncokamlaaDoor

