/- Contracts. -/
import Derived.Test.YtpjccdncokamlaaGreatDoorQFnBareR
import Derived.Test.YtpjccdncokamlaaGreatDoorQBareY
set_option maxHeartbeats 4000000
set_option linter.unusedVariables false
set_option linter.unusedSimpArgs false
namespace Go.Proofs.YtpjccdncokamlaaGreatDoor
open Go.RowKit Go.Sy Go.Fac
section
variable {ea : Ear} {has : Int → Prop} {gl : List (Nat × SVal)}
def keStep : List SVal → Nat → Acc ORes := fun a n => match a with
  | [.ptr q 0] => .look q fun cc => match cc with | some (.cells [.ptr m 0, .arr .u32 16 x, .int .u32 pc, .bool ie, .bool eie, .int .u32 epc, .int .u32 tv, .int .u32 ca, .int .u32 ad, .int .i64 qu, .ptr d 0, .int .i64 no, .bool ov, .own w]) => (.look m fun cc => match cc with | some (.cells [.own p]) => (.look d fun cc => match cc with | some (.cells [.own k, .own e, .arr .u32 16 sc, .int .i64 at_, .bool on]) => (.look p fun cc => match cc with | some (.recs .u32 l) => (.look w fun cc => match cc with | some (.recs (.flat (.int .i64) [.int .u32]) us) => (.look k fun cc => match cc with | some (.recs .u32 ks) => (.look e fun cc => match cc with | some (.recs (.flat (.int .i64) [.int .u32, .int .u32]) se) => (match nodupB [q, m, d, p, w, k, e] with | true => .ret (genR [q, m, d, p] (gone [w, k, e]) n (.bool (.sym (!(mcV l x pc ie eie epc tv ca ad ks sc on at_ se qu no ov us).over))) (eHp (stepM false (mcV l x pc ie eie epc tv ca ad ks sc on at_ se qu no ov us))) 3 (some (mcOk (mcV l x pc ie eie epc tv ca ad ks sc on at_ se qu no ov us) ∧ few (mcV l x pc ie eie epc tv ca ad ks sc on at_ se qu no ov us).l ∧ (mcV l x pc ie eie epc tv ca ad ks sc on at_ se qu no ov us).l.length % 16 = 0))) | false => .fail "eStep") | _ => .fail "eStep") | _ => .fail "eStep") | _ => .fail "eStep") | _ => .fail "eStep") | _ => .fail "eStep") | _ => .fail "eStep") | _ => .fail "eStep"
  | _ => .fail "eStep"
theorem fiteStep (gl : List (Nat × SVal)) (x : List Int) (pc : SI) (ie eie : SB) (epc tv ca ad : SI) (qu no : SI) (ov : SB) (sc : List Int) (on : SB) (at_ : SI) (l : List Int) (us : List (Int × Int)) (ks : List Int) (se : List (Int × Int × Int)) : (fits (envK gl [(36, krWaits), (37, krEnter), (38, keDies), (39, krOnce), (40, kePriv), (41, keMay), (42, keSync)] 4) (S1 [.ptr 0 0] (numC 0 (eC0 l x pc ie eie epc tv ca ad ks sc on at_ se qu no ov us)) 7 223) (S1 [.ptr 0 0] (eHpO (mcV l x pc ie eie epc tv ca ad ks sc on at_ se qu no ov us)) 7 223)) = (
  x = x ∧ SI.val pc = SI.val pc ∧ SB.val ie = SB.val ie ∧ SB.val eie = SB.val eie ∧ SI.val epc = SI.val epc ∧ SI.val tv = SI.val tv ∧ SI.val ca = SI.val ca ∧ SI.val ad = SI.val ad ∧ SI.val qu = SI.val qu ∧ SI.val no = SI.val no ∧ SB.val ov = SB.val ov ∧ sc = sc ∧ SI.val at_ = SI.val at_ ∧ SB.val on = SB.val on ∧ l = l ∧ us = us ∧ ks = ks ∧ se = se) := by kernel_rfl
abbrev TeStep (gl : List (Nat × SVal)) (b : Mc) : Prop := Tr.sat (newQ (envK gl [(36, krWaits), (37, krEnter), (38, keDies), (39, krOnce), (40, kePriv), (41, keMay), (42, keSync)] 4) (.bool (.sym (!b.over))) (eHp (stepM false b)) (4 + 3)) (run (envK gl [(36, krWaits), (37, krEnter), (38, keDies), (39, krOnce), (40, kePriv), (41, keMay), (42, keSync)] 4) [(1000013, cutL { fr := [(0, .ptr 0 0), (7, .ptr 7 0)], hp := eHpO (goY b) ++ [(7, some (.cells (goS b).enc))], next := 8, sz := 223 }), (2000041, cutL { fr := [(0, .ptr 0 0)], hp := eHpO (stepN false b), next := 7, sz := 223 }), (1000029, cutL { fr := [(0, .ptr 0 0), (7, .ptr 7 0), (12, .bool (.sym (decide ((goS b).i.op = 32))))], hp := eHpO (pvY b) ++ [(7, some (.cells (goS b).enc))], next := 8, sz := 223 }), (2000038, cutL { fr := [(0, .ptr 0 0), (7, .ptr 7 0), (12, .bool (.sym (decide ((goS b).i.op = 32))))], hp := eHpO (upY b) ++ [(7, some (.cells (goS b).enc))], next := 8, sz := 223 })] (bodyOf Tryz.f13) (S1 [.ptr 0 0] (eHpO b) 7 223) (ends (envK gl [(36, krWaits), (37, krEnter), (38, keDies), (39, krOnce), (40, kePriv), (41, keMay), (42, keSync)] 4) Tryz.f13.results.toList))
theorem runeStep (gl : List (Nat × SVal)) (b : Mc) : (TeStep gl b) = (
  IT b.over (false = !b.over ∧ EqE b (stepM false b)) (IT (!decide (waitsW b.c b.d b.now false = 0)) (IT (decide (waitsW b.c b.d b.now false = 2)) (IT (!enterB b.c) (RQ (mcOk (Mc.mk b.l b.c (Dv.mk b.d.keys b.d.sec false b.d.at_ b.d.seen) b.quota b.now b.over b.w)) (true = !b.over ∧ EqE (diesM (Mc.mk b.l b.c (Dv.mk b.d.keys b.d.sec false b.d.at_ b.d.seen) b.quota b.now b.over b.w) (waitsW b.c b.d b.now false)) (stepM false b))) (RQ (EgEX (onceC b.l (0 : Int) (enterC b.c (waitsW b.c b.d b.now false) (0 : Int)) false) ⟨b.d.keys, b.d.sec, false, b.d.at_, b.d.seen⟩ (onceL b.l (0 : Int) (enterC b.c (waitsW b.c b.d b.now false) (0 : Int)) false) b.quota b.now b.over b.w (goY b) ((onceS b.l (0 : Int) (enterC b.c (waitsW b.c b.d b.now false) (0 : Int)) false).cause = (goS b).cause ∧ (onceS b.l (0 : Int) (enterC b.c (waitsW b.c b.d b.now false) (0 : Int)) false).addr = (goS b).addr ∧ (onceS b.l (0 : Int) (enterC b.c (waitsW b.c b.d b.now false) (0 : Int)) false).i.op = (goS b).i.op ∧ (onceS b.l (0 : Int) (enterC b.c (waitsW b.c b.d b.now false) (0 : Int)) false).i.a = (goS b).i.a ∧ (onceS b.l (0 : Int) (enterC b.c (waitsW b.c b.d b.now false) (0 : Int)) false).i.b = (goS b).i.b ∧ (onceS b.l (0 : Int) (enterC b.c (waitsW b.c b.d b.now false) (0 : Int)) false).i.c = (goS b).i.c ∧ (onceS b.l (0 : Int) (enterC b.c (waitsW b.c b.d b.now false) (0 : Int)) false).i.imm = (goS b).i.imm ∧ (onceS b.l (0 : Int) (enterC b.c (waitsW b.c b.d b.now false) (0 : Int)) false).len = (goS b).len)) ((IT (decide ((goS b).cause = 1)) (IT (decide ((goS b).cause = 1)) (IT (!enterB (goY b).c) (RQ (mcOk (goY b)) (true = !b.over ∧ EqE (diesM (goY b) (goS b).cause) (stepM false b))) (EgE (enterC (goY b).c (goS b).cause (goS b).addr) ((goY b).d) ((goY b).l) ((goY b).quota) ((goY b).now) ((goY b).over) ((goY b).w) (stepN false b))) (IT (!enterB (goY b).c) (RQ (mcOk (goY b)) (true = !b.over ∧ EqE (diesM (goY b) (4 : Int)) (stepM false b))) (EgE (enterC (goY b).c (4 : Int) (0 : Int)) ((goY b).d) ((goY b).l) ((goY b).quota) ((goY b).now) ((goY b).over) ((goY b).w) (stepN false b)))) (IT (decide ((goS b).cause = 4)) (IT (decide ((goS b).cause = 1)) (IT (!enterB (goY b).c) (RQ (mcOk (goY b)) (true = !b.over ∧ EqE (diesM (goY b) (goS b).cause) (stepM false b))) (EgE (enterC (goY b).c (goS b).cause (goS b).addr) ((goY b).d) ((goY b).l) ((goY b).quota) ((goY b).now) ((goY b).over) ((goY b).w) (stepN false b))) (IT (!enterB (goY b).c) (RQ (mcOk (goY b)) (true = !b.over ∧ EqE (diesM (goY b) (4 : Int)) (stepM false b))) (EgE (enterC (goY b).c (4 : Int) (0 : Int)) ((goY b).d) ((goY b).l) ((goY b).quota) ((goY b).now) ((goY b).over) ((goY b).w) (stepN false b)))) (IT (decide ((goS b).cause = 7)) (IT (decide ((goS b).cause = 1)) (IT (!enterB (goY b).c) (RQ (mcOk (goY b)) (true = !b.over ∧ EqE (diesM (goY b) (goS b).cause) (stepM false b))) (EgE (enterC (goY b).c (goS b).cause (goS b).addr) ((goY b).d) ((goY b).l) ((goY b).quota) ((goY b).now) ((goY b).over) ((goY b).w) (stepN false b))) (IT (!enterB (goY b).c) (RQ (mcOk (goY b)) (true = !b.over ∧ EqE (diesM (goY b) (4 : Int)) (stepM false b))) (EgE (enterC (goY b).c (4 : Int) (0 : Int)) ((goY b).d) ((goY b).l) ((goY b).quota) ((goY b).now) ((goY b).over) ((goY b).w) (stepN false b)))) (IT (decide ((goS b).cause = 6)) (RQ (In5.ok (goS b).i = true ∧ mcOk (goY b)) (RQ (decide ((goS b).i.op = 32) = decide ((goS b).i.op = 32) ∧ EgEX (privC (goS b).i (goY b).c (goY b).d (goY b).now) (doD false (goS b).i (goY b).c (goY b).d (goY b).now) ((goY b).l) ((goY b).quota) ((goY b).now) ((goY b).over) ((goY b).w) (pvY b) ((goS b).cause = (goS b).cause ∧ (goS b).addr = (goS b).addr ∧ (goS b).i.op = (goS b).i.op ∧ (goS b).i.a = (goS b).i.a ∧ (goS b).i.b = (goS b).i.b ∧ (goS b).i.c = (goS b).i.c ∧ (goS b).i.imm = (goS b).i.imm ∧ (goS b).len = (goS b).len)) ((IT (decide ((goS b).i.op = 41)) (RQ (0 ≤ (goS b).i.a ∧ (goS b).i.a < ((16 : Nat) : Int)) (RQ (0 ≤ (goS b).i.b ∧ (goS b).i.b < ((16 : Nat) : Int)) (IT (mayB (pvY b).quota (List.getD (pvY b).c.r (Int.toNat (goS b).i.a) (RT.dflt RT.u32)) (List.getD (pvY b).c.r (Int.toNat (goS b).i.b) (RT.dflt RT.u32))) (IT (decide ((16 : Int) ≤ ((List.length (pvY b).w) : Int))) (RQ (mcOk (pvY b) ∧ few (pvY b).l ∧ List.length (pvY b).l % 16 = (0 : Nat)) (RQ (0 ≤ (goS b).i.a ∧ (goS b).i.a < ((16 : Nat) : Int)) (RQ (0 ≤ (goS b).i.b ∧ (goS b).i.b < ((16 : Nat) : Int)) (RQ (List.length (syncM (pvY b)).w + List.length [(List.getD (syncM (pvY b)).c.r (Int.toNat (goS b).i.a) (RT.dflt RT.u32), List.getD (syncM (pvY b)).c.r (Int.toNat (goS b).i.b) (RT.dflt RT.u32))] ≤ 137438953472) (decide ((goS b).i.op = 32) = decide ((goS b).i.op = 32) ∧ EgEX ((syncM (pvY b)).c) ((syncM (pvY b)).d) ((syncM (pvY b)).l) ((syncM (pvY b)).quota) ((syncM (pvY b)).now) ((syncM (pvY b)).over) ((syncM (pvY b)).w ++ [(List.getD (syncM (pvY b)).c.r (Int.toNat (goS b).i.a) (RT.dflt RT.u32), List.getD (syncM (pvY b)).c.r (Int.toNat (goS b).i.b) (RT.dflt RT.u32))]) (upY b) ((goS b).cause = (goS b).cause ∧ (goS b).addr = (goS b).addr ∧ (goS b).i.op = (goS b).i.op ∧ (goS b).i.a = (goS b).i.a ∧ (goS b).i.b = (goS b).i.b ∧ (goS b).i.c = (goS b).i.c ∧ (goS b).i.imm = (goS b).i.imm ∧ (goS b).len = (goS b).len)))))) (RQ (0 ≤ (goS b).i.a ∧ (goS b).i.a < ((16 : Nat) : Int)) (RQ (0 ≤ (goS b).i.b ∧ (goS b).i.b < ((16 : Nat) : Int)) (RQ (List.length (pvY b).w + List.length [(List.getD (pvY b).c.r (Int.toNat (goS b).i.a) (RT.dflt RT.u32), List.getD (pvY b).c.r (Int.toNat (goS b).i.b) (RT.dflt RT.u32))] ≤ 137438953472) (decide ((goS b).i.op = 32) = decide ((goS b).i.op = 32) ∧ EgEX ((pvY b).c) ((pvY b).d) ((pvY b).l) ((pvY b).quota) ((pvY b).now) ((pvY b).over) ((pvY b).w ++ [(List.getD (pvY b).c.r (Int.toNat (goS b).i.a) (RT.dflt RT.u32), List.getD (pvY b).c.r (Int.toNat (goS b).i.b) (RT.dflt RT.u32))]) (upY b) ((goS b).cause = (goS b).cause ∧ (goS b).addr = (goS b).addr ∧ (goS b).i.op = (goS b).i.op ∧ (goS b).i.a = (goS b).i.a ∧ (goS b).i.b = (goS b).i.b ∧ (goS b).i.c = (goS b).i.c ∧ (goS b).i.imm = (goS b).i.imm ∧ (goS b).len = (goS b).len)))))) (decide ((goS b).i.op = 32) = decide ((goS b).i.op = 32) ∧ EqEX (pvY b) (upY b) ((goS b).cause = (goS b).cause ∧ (goS b).addr = (goS b).addr ∧ (goS b).i.op = (goS b).i.op ∧ (goS b).i.a = (goS b).i.a ∧ (goS b).i.b = (goS b).i.b ∧ (goS b).i.c = (goS b).i.c ∧ (goS b).i.imm = (goS b).i.imm ∧ (goS b).len = (goS b).len))))) (IT (decide ((goS b).i.op = 42)) (RQ (mcOk (pvY b) ∧ few (pvY b).l ∧ List.length (pvY b).l % 16 = (0 : Nat)) (decide ((goS b).i.op = 32) = decide ((goS b).i.op = 32) ∧ EqEX (syncM (pvY b)) (upY b) ((goS b).cause = (goS b).cause ∧ (goS b).addr = (goS b).addr ∧ (goS b).i.op = (goS b).i.op ∧ (goS b).i.a = (goS b).i.a ∧ (goS b).i.b = (goS b).i.b ∧ (goS b).i.c = (goS b).i.c ∧ (goS b).i.imm = (goS b).i.imm ∧ (goS b).len = (goS b).len))) (decide ((goS b).i.op = 32) = decide ((goS b).i.op = 32) ∧ EqEX (pvY b) (upY b) ((goS b).cause = (goS b).cause ∧ (goS b).addr = (goS b).addr ∧ (goS b).i.op = (goS b).i.op ∧ (goS b).i.a = (goS b).i.a ∧ (goS b).i.b = (goS b).i.b ∧ (goS b).i.c = (goS b).i.c ∧ (goS b).i.imm = (goS b).i.imm ∧ (goS b).len = (goS b).len)))) ∧ ((!decide ((goS b).i.op = 32) && !decide ((goS b).i.op = 34)) = true → EgE ⟨(upY b).c.r, IntKind.wrap IntKind.u32 ((upY b).c.pc + (goS b).len), (upY b).c.ie, (upY b).c.eie, (upY b).c.epc, (upY b).c.tv, (upY b).c.cause, (upY b).c.addr⟩ ((upY b).d) ((upY b).l) ((upY b).quota) ((upY b).now) (decide ((goS b).i.op = 32)) ((upY b).w) (stepN false b)) ∧ ((!decide ((goS b).i.op = 32) && !decide ((goS b).i.op = 34)) = false → EgE ((upY b).c) ((upY b).d) ((upY b).l) ((upY b).quota) ((upY b).now) (decide ((goS b).i.op = 32)) ((upY b).w) (stepN false b))))) (EqE (goY b) (stepN false b)))))) ∧ true = !b.over ∧ EgE ((stepN false b).c) ((stepN false b).d) ((stepN false b).l) ((stepN false b).quota) (IntKind.wrap IntKind.i64 ((stepN false b).now + 1)) ((stepN false b).over) ((stepN false b).w) (stepM false b)))) (IT (!enterB b.c) (RQ (mcOk b) (true = !b.over ∧ EqE (diesM b (waitsW b.c b.d b.now false)) (stepM false b))) (RQ (EgEX (onceC b.l (0 : Int) (enterC b.c (waitsW b.c b.d b.now false) (0 : Int)) false) b.d (onceL b.l (0 : Int) (enterC b.c (waitsW b.c b.d b.now false) (0 : Int)) false) b.quota b.now b.over b.w (goY b) ((onceS b.l (0 : Int) (enterC b.c (waitsW b.c b.d b.now false) (0 : Int)) false).cause = (goS b).cause ∧ (onceS b.l (0 : Int) (enterC b.c (waitsW b.c b.d b.now false) (0 : Int)) false).addr = (goS b).addr ∧ (onceS b.l (0 : Int) (enterC b.c (waitsW b.c b.d b.now false) (0 : Int)) false).i.op = (goS b).i.op ∧ (onceS b.l (0 : Int) (enterC b.c (waitsW b.c b.d b.now false) (0 : Int)) false).i.a = (goS b).i.a ∧ (onceS b.l (0 : Int) (enterC b.c (waitsW b.c b.d b.now false) (0 : Int)) false).i.b = (goS b).i.b ∧ (onceS b.l (0 : Int) (enterC b.c (waitsW b.c b.d b.now false) (0 : Int)) false).i.c = (goS b).i.c ∧ (onceS b.l (0 : Int) (enterC b.c (waitsW b.c b.d b.now false) (0 : Int)) false).i.imm = (goS b).i.imm ∧ (onceS b.l (0 : Int) (enterC b.c (waitsW b.c b.d b.now false) (0 : Int)) false).len = (goS b).len)) ((IT (decide ((goS b).cause = 1)) (IT (decide ((goS b).cause = 1)) (IT (!enterB (goY b).c) (RQ (mcOk (goY b)) (true = !b.over ∧ EqE (diesM (goY b) (goS b).cause) (stepM false b))) (EgE (enterC (goY b).c (goS b).cause (goS b).addr) ((goY b).d) ((goY b).l) ((goY b).quota) ((goY b).now) ((goY b).over) ((goY b).w) (stepN false b))) (IT (!enterB (goY b).c) (RQ (mcOk (goY b)) (true = !b.over ∧ EqE (diesM (goY b) (4 : Int)) (stepM false b))) (EgE (enterC (goY b).c (4 : Int) (0 : Int)) ((goY b).d) ((goY b).l) ((goY b).quota) ((goY b).now) ((goY b).over) ((goY b).w) (stepN false b)))) (IT (decide ((goS b).cause = 4)) (IT (decide ((goS b).cause = 1)) (IT (!enterB (goY b).c) (RQ (mcOk (goY b)) (true = !b.over ∧ EqE (diesM (goY b) (goS b).cause) (stepM false b))) (EgE (enterC (goY b).c (goS b).cause (goS b).addr) ((goY b).d) ((goY b).l) ((goY b).quota) ((goY b).now) ((goY b).over) ((goY b).w) (stepN false b))) (IT (!enterB (goY b).c) (RQ (mcOk (goY b)) (true = !b.over ∧ EqE (diesM (goY b) (4 : Int)) (stepM false b))) (EgE (enterC (goY b).c (4 : Int) (0 : Int)) ((goY b).d) ((goY b).l) ((goY b).quota) ((goY b).now) ((goY b).over) ((goY b).w) (stepN false b)))) (IT (decide ((goS b).cause = 7)) (IT (decide ((goS b).cause = 1)) (IT (!enterB (goY b).c) (RQ (mcOk (goY b)) (true = !b.over ∧ EqE (diesM (goY b) (goS b).cause) (stepM false b))) (EgE (enterC (goY b).c (goS b).cause (goS b).addr) ((goY b).d) ((goY b).l) ((goY b).quota) ((goY b).now) ((goY b).over) ((goY b).w) (stepN false b))) (IT (!enterB (goY b).c) (RQ (mcOk (goY b)) (true = !b.over ∧ EqE (diesM (goY b) (4 : Int)) (stepM false b))) (EgE (enterC (goY b).c (4 : Int) (0 : Int)) ((goY b).d) ((goY b).l) ((goY b).quota) ((goY b).now) ((goY b).over) ((goY b).w) (stepN false b)))) (IT (decide ((goS b).cause = 6)) (RQ (In5.ok (goS b).i = true ∧ mcOk (goY b)) (RQ (decide ((goS b).i.op = 32) = decide ((goS b).i.op = 32) ∧ EgEX (privC (goS b).i (goY b).c (goY b).d (goY b).now) (doD false (goS b).i (goY b).c (goY b).d (goY b).now) ((goY b).l) ((goY b).quota) ((goY b).now) ((goY b).over) ((goY b).w) (pvY b) ((goS b).cause = (goS b).cause ∧ (goS b).addr = (goS b).addr ∧ (goS b).i.op = (goS b).i.op ∧ (goS b).i.a = (goS b).i.a ∧ (goS b).i.b = (goS b).i.b ∧ (goS b).i.c = (goS b).i.c ∧ (goS b).i.imm = (goS b).i.imm ∧ (goS b).len = (goS b).len)) ((IT (decide ((goS b).i.op = 41)) (RQ (0 ≤ (goS b).i.a ∧ (goS b).i.a < ((16 : Nat) : Int)) (RQ (0 ≤ (goS b).i.b ∧ (goS b).i.b < ((16 : Nat) : Int)) (IT (mayB (pvY b).quota (List.getD (pvY b).c.r (Int.toNat (goS b).i.a) (RT.dflt RT.u32)) (List.getD (pvY b).c.r (Int.toNat (goS b).i.b) (RT.dflt RT.u32))) (IT (decide ((16 : Int) ≤ ((List.length (pvY b).w) : Int))) (RQ (mcOk (pvY b) ∧ few (pvY b).l ∧ List.length (pvY b).l % 16 = (0 : Nat)) (RQ (0 ≤ (goS b).i.a ∧ (goS b).i.a < ((16 : Nat) : Int)) (RQ (0 ≤ (goS b).i.b ∧ (goS b).i.b < ((16 : Nat) : Int)) (RQ (List.length (syncM (pvY b)).w + List.length [(List.getD (syncM (pvY b)).c.r (Int.toNat (goS b).i.a) (RT.dflt RT.u32), List.getD (syncM (pvY b)).c.r (Int.toNat (goS b).i.b) (RT.dflt RT.u32))] ≤ 137438953472) (decide ((goS b).i.op = 32) = decide ((goS b).i.op = 32) ∧ EgEX ((syncM (pvY b)).c) ((syncM (pvY b)).d) ((syncM (pvY b)).l) ((syncM (pvY b)).quota) ((syncM (pvY b)).now) ((syncM (pvY b)).over) ((syncM (pvY b)).w ++ [(List.getD (syncM (pvY b)).c.r (Int.toNat (goS b).i.a) (RT.dflt RT.u32), List.getD (syncM (pvY b)).c.r (Int.toNat (goS b).i.b) (RT.dflt RT.u32))]) (upY b) ((goS b).cause = (goS b).cause ∧ (goS b).addr = (goS b).addr ∧ (goS b).i.op = (goS b).i.op ∧ (goS b).i.a = (goS b).i.a ∧ (goS b).i.b = (goS b).i.b ∧ (goS b).i.c = (goS b).i.c ∧ (goS b).i.imm = (goS b).i.imm ∧ (goS b).len = (goS b).len)))))) (RQ (0 ≤ (goS b).i.a ∧ (goS b).i.a < ((16 : Nat) : Int)) (RQ (0 ≤ (goS b).i.b ∧ (goS b).i.b < ((16 : Nat) : Int)) (RQ (List.length (pvY b).w + List.length [(List.getD (pvY b).c.r (Int.toNat (goS b).i.a) (RT.dflt RT.u32), List.getD (pvY b).c.r (Int.toNat (goS b).i.b) (RT.dflt RT.u32))] ≤ 137438953472) (decide ((goS b).i.op = 32) = decide ((goS b).i.op = 32) ∧ EgEX ((pvY b).c) ((pvY b).d) ((pvY b).l) ((pvY b).quota) ((pvY b).now) ((pvY b).over) ((pvY b).w ++ [(List.getD (pvY b).c.r (Int.toNat (goS b).i.a) (RT.dflt RT.u32), List.getD (pvY b).c.r (Int.toNat (goS b).i.b) (RT.dflt RT.u32))]) (upY b) ((goS b).cause = (goS b).cause ∧ (goS b).addr = (goS b).addr ∧ (goS b).i.op = (goS b).i.op ∧ (goS b).i.a = (goS b).i.a ∧ (goS b).i.b = (goS b).i.b ∧ (goS b).i.c = (goS b).i.c ∧ (goS b).i.imm = (goS b).i.imm ∧ (goS b).len = (goS b).len)))))) (decide ((goS b).i.op = 32) = decide ((goS b).i.op = 32) ∧ EqEX (pvY b) (upY b) ((goS b).cause = (goS b).cause ∧ (goS b).addr = (goS b).addr ∧ (goS b).i.op = (goS b).i.op ∧ (goS b).i.a = (goS b).i.a ∧ (goS b).i.b = (goS b).i.b ∧ (goS b).i.c = (goS b).i.c ∧ (goS b).i.imm = (goS b).i.imm ∧ (goS b).len = (goS b).len))))) (IT (decide ((goS b).i.op = 42)) (RQ (mcOk (pvY b) ∧ few (pvY b).l ∧ List.length (pvY b).l % 16 = (0 : Nat)) (decide ((goS b).i.op = 32) = decide ((goS b).i.op = 32) ∧ EqEX (syncM (pvY b)) (upY b) ((goS b).cause = (goS b).cause ∧ (goS b).addr = (goS b).addr ∧ (goS b).i.op = (goS b).i.op ∧ (goS b).i.a = (goS b).i.a ∧ (goS b).i.b = (goS b).i.b ∧ (goS b).i.c = (goS b).i.c ∧ (goS b).i.imm = (goS b).i.imm ∧ (goS b).len = (goS b).len))) (decide ((goS b).i.op = 32) = decide ((goS b).i.op = 32) ∧ EqEX (pvY b) (upY b) ((goS b).cause = (goS b).cause ∧ (goS b).addr = (goS b).addr ∧ (goS b).i.op = (goS b).i.op ∧ (goS b).i.a = (goS b).i.a ∧ (goS b).i.b = (goS b).i.b ∧ (goS b).i.c = (goS b).i.c ∧ (goS b).i.imm = (goS b).i.imm ∧ (goS b).len = (goS b).len)))) ∧ ((!decide ((goS b).i.op = 32) && !decide ((goS b).i.op = 34)) = true → EgE ⟨(upY b).c.r, IntKind.wrap IntKind.u32 ((upY b).c.pc + (goS b).len), (upY b).c.ie, (upY b).c.eie, (upY b).c.epc, (upY b).c.tv, (upY b).c.cause, (upY b).c.addr⟩ ((upY b).d) ((upY b).l) ((upY b).quota) ((upY b).now) (decide ((goS b).i.op = 32)) ((upY b).w) (stepN false b)) ∧ ((!decide ((goS b).i.op = 32) && !decide ((goS b).i.op = 34)) = false → EgE ((upY b).c) ((upY b).d) ((upY b).l) ((upY b).quota) ((upY b).now) (decide ((goS b).i.op = 32)) ((upY b).w) (stepN false b))))) (EqE (goY b) (stepN false b)))))) ∧ true = !b.over ∧ EgE ((stepN false b).c) ((stepN false b).d) ((stepN false b).l) ((stepN false b).quota) (IntKind.wrap IntKind.i64 ((stepN false b).now + 1)) ((stepN false b).over) ((stepN false b).w) (stepM false b))))) (RQ (EgEX (onceC b.l (0 : Int) b.c false) b.d (onceL b.l (0 : Int) b.c false) b.quota b.now b.over b.w (goY b) ((onceS b.l (0 : Int) b.c false).cause = (goS b).cause ∧ (onceS b.l (0 : Int) b.c false).addr = (goS b).addr ∧ (onceS b.l (0 : Int) b.c false).i.op = (goS b).i.op ∧ (onceS b.l (0 : Int) b.c false).i.a = (goS b).i.a ∧ (onceS b.l (0 : Int) b.c false).i.b = (goS b).i.b ∧ (onceS b.l (0 : Int) b.c false).i.c = (goS b).i.c ∧ (onceS b.l (0 : Int) b.c false).i.imm = (goS b).i.imm ∧ (onceS b.l (0 : Int) b.c false).len = (goS b).len)) ((IT (decide ((goS b).cause = 1)) (IT (decide ((goS b).cause = 1)) (IT (!enterB (goY b).c) (RQ (mcOk (goY b)) (true = !b.over ∧ EqE (diesM (goY b) (goS b).cause) (stepM false b))) (EgE (enterC (goY b).c (goS b).cause (goS b).addr) ((goY b).d) ((goY b).l) ((goY b).quota) ((goY b).now) ((goY b).over) ((goY b).w) (stepN false b))) (IT (!enterB (goY b).c) (RQ (mcOk (goY b)) (true = !b.over ∧ EqE (diesM (goY b) (4 : Int)) (stepM false b))) (EgE (enterC (goY b).c (4 : Int) (0 : Int)) ((goY b).d) ((goY b).l) ((goY b).quota) ((goY b).now) ((goY b).over) ((goY b).w) (stepN false b)))) (IT (decide ((goS b).cause = 4)) (IT (decide ((goS b).cause = 1)) (IT (!enterB (goY b).c) (RQ (mcOk (goY b)) (true = !b.over ∧ EqE (diesM (goY b) (goS b).cause) (stepM false b))) (EgE (enterC (goY b).c (goS b).cause (goS b).addr) ((goY b).d) ((goY b).l) ((goY b).quota) ((goY b).now) ((goY b).over) ((goY b).w) (stepN false b))) (IT (!enterB (goY b).c) (RQ (mcOk (goY b)) (true = !b.over ∧ EqE (diesM (goY b) (4 : Int)) (stepM false b))) (EgE (enterC (goY b).c (4 : Int) (0 : Int)) ((goY b).d) ((goY b).l) ((goY b).quota) ((goY b).now) ((goY b).over) ((goY b).w) (stepN false b)))) (IT (decide ((goS b).cause = 7)) (IT (decide ((goS b).cause = 1)) (IT (!enterB (goY b).c) (RQ (mcOk (goY b)) (true = !b.over ∧ EqE (diesM (goY b) (goS b).cause) (stepM false b))) (EgE (enterC (goY b).c (goS b).cause (goS b).addr) ((goY b).d) ((goY b).l) ((goY b).quota) ((goY b).now) ((goY b).over) ((goY b).w) (stepN false b))) (IT (!enterB (goY b).c) (RQ (mcOk (goY b)) (true = !b.over ∧ EqE (diesM (goY b) (4 : Int)) (stepM false b))) (EgE (enterC (goY b).c (4 : Int) (0 : Int)) ((goY b).d) ((goY b).l) ((goY b).quota) ((goY b).now) ((goY b).over) ((goY b).w) (stepN false b)))) (IT (decide ((goS b).cause = 6)) (RQ (In5.ok (goS b).i = true ∧ mcOk (goY b)) (RQ (decide ((goS b).i.op = 32) = decide ((goS b).i.op = 32) ∧ EgEX (privC (goS b).i (goY b).c (goY b).d (goY b).now) (doD false (goS b).i (goY b).c (goY b).d (goY b).now) ((goY b).l) ((goY b).quota) ((goY b).now) ((goY b).over) ((goY b).w) (pvY b) ((goS b).cause = (goS b).cause ∧ (goS b).addr = (goS b).addr ∧ (goS b).i.op = (goS b).i.op ∧ (goS b).i.a = (goS b).i.a ∧ (goS b).i.b = (goS b).i.b ∧ (goS b).i.c = (goS b).i.c ∧ (goS b).i.imm = (goS b).i.imm ∧ (goS b).len = (goS b).len)) ((IT (decide ((goS b).i.op = 41)) (RQ (0 ≤ (goS b).i.a ∧ (goS b).i.a < ((16 : Nat) : Int)) (RQ (0 ≤ (goS b).i.b ∧ (goS b).i.b < ((16 : Nat) : Int)) (IT (mayB (pvY b).quota (List.getD (pvY b).c.r (Int.toNat (goS b).i.a) (RT.dflt RT.u32)) (List.getD (pvY b).c.r (Int.toNat (goS b).i.b) (RT.dflt RT.u32))) (IT (decide ((16 : Int) ≤ ((List.length (pvY b).w) : Int))) (RQ (mcOk (pvY b) ∧ few (pvY b).l ∧ List.length (pvY b).l % 16 = (0 : Nat)) (RQ (0 ≤ (goS b).i.a ∧ (goS b).i.a < ((16 : Nat) : Int)) (RQ (0 ≤ (goS b).i.b ∧ (goS b).i.b < ((16 : Nat) : Int)) (RQ (List.length (syncM (pvY b)).w + List.length [(List.getD (syncM (pvY b)).c.r (Int.toNat (goS b).i.a) (RT.dflt RT.u32), List.getD (syncM (pvY b)).c.r (Int.toNat (goS b).i.b) (RT.dflt RT.u32))] ≤ 137438953472) (decide ((goS b).i.op = 32) = decide ((goS b).i.op = 32) ∧ EgEX ((syncM (pvY b)).c) ((syncM (pvY b)).d) ((syncM (pvY b)).l) ((syncM (pvY b)).quota) ((syncM (pvY b)).now) ((syncM (pvY b)).over) ((syncM (pvY b)).w ++ [(List.getD (syncM (pvY b)).c.r (Int.toNat (goS b).i.a) (RT.dflt RT.u32), List.getD (syncM (pvY b)).c.r (Int.toNat (goS b).i.b) (RT.dflt RT.u32))]) (upY b) ((goS b).cause = (goS b).cause ∧ (goS b).addr = (goS b).addr ∧ (goS b).i.op = (goS b).i.op ∧ (goS b).i.a = (goS b).i.a ∧ (goS b).i.b = (goS b).i.b ∧ (goS b).i.c = (goS b).i.c ∧ (goS b).i.imm = (goS b).i.imm ∧ (goS b).len = (goS b).len)))))) (RQ (0 ≤ (goS b).i.a ∧ (goS b).i.a < ((16 : Nat) : Int)) (RQ (0 ≤ (goS b).i.b ∧ (goS b).i.b < ((16 : Nat) : Int)) (RQ (List.length (pvY b).w + List.length [(List.getD (pvY b).c.r (Int.toNat (goS b).i.a) (RT.dflt RT.u32), List.getD (pvY b).c.r (Int.toNat (goS b).i.b) (RT.dflt RT.u32))] ≤ 137438953472) (decide ((goS b).i.op = 32) = decide ((goS b).i.op = 32) ∧ EgEX ((pvY b).c) ((pvY b).d) ((pvY b).l) ((pvY b).quota) ((pvY b).now) ((pvY b).over) ((pvY b).w ++ [(List.getD (pvY b).c.r (Int.toNat (goS b).i.a) (RT.dflt RT.u32), List.getD (pvY b).c.r (Int.toNat (goS b).i.b) (RT.dflt RT.u32))]) (upY b) ((goS b).cause = (goS b).cause ∧ (goS b).addr = (goS b).addr ∧ (goS b).i.op = (goS b).i.op ∧ (goS b).i.a = (goS b).i.a ∧ (goS b).i.b = (goS b).i.b ∧ (goS b).i.c = (goS b).i.c ∧ (goS b).i.imm = (goS b).i.imm ∧ (goS b).len = (goS b).len)))))) (decide ((goS b).i.op = 32) = decide ((goS b).i.op = 32) ∧ EqEX (pvY b) (upY b) ((goS b).cause = (goS b).cause ∧ (goS b).addr = (goS b).addr ∧ (goS b).i.op = (goS b).i.op ∧ (goS b).i.a = (goS b).i.a ∧ (goS b).i.b = (goS b).i.b ∧ (goS b).i.c = (goS b).i.c ∧ (goS b).i.imm = (goS b).i.imm ∧ (goS b).len = (goS b).len))))) (IT (decide ((goS b).i.op = 42)) (RQ (mcOk (pvY b) ∧ few (pvY b).l ∧ List.length (pvY b).l % 16 = (0 : Nat)) (decide ((goS b).i.op = 32) = decide ((goS b).i.op = 32) ∧ EqEX (syncM (pvY b)) (upY b) ((goS b).cause = (goS b).cause ∧ (goS b).addr = (goS b).addr ∧ (goS b).i.op = (goS b).i.op ∧ (goS b).i.a = (goS b).i.a ∧ (goS b).i.b = (goS b).i.b ∧ (goS b).i.c = (goS b).i.c ∧ (goS b).i.imm = (goS b).i.imm ∧ (goS b).len = (goS b).len))) (decide ((goS b).i.op = 32) = decide ((goS b).i.op = 32) ∧ EqEX (pvY b) (upY b) ((goS b).cause = (goS b).cause ∧ (goS b).addr = (goS b).addr ∧ (goS b).i.op = (goS b).i.op ∧ (goS b).i.a = (goS b).i.a ∧ (goS b).i.b = (goS b).i.b ∧ (goS b).i.c = (goS b).i.c ∧ (goS b).i.imm = (goS b).i.imm ∧ (goS b).len = (goS b).len)))) ∧ ((!decide ((goS b).i.op = 32) && !decide ((goS b).i.op = 34)) = true → EgE ⟨(upY b).c.r, IntKind.wrap IntKind.u32 ((upY b).c.pc + (goS b).len), (upY b).c.ie, (upY b).c.eie, (upY b).c.epc, (upY b).c.tv, (upY b).c.cause, (upY b).c.addr⟩ ((upY b).d) ((upY b).l) ((upY b).quota) ((upY b).now) (decide ((goS b).i.op = 32)) ((upY b).w) (stepN false b)) ∧ ((!decide ((goS b).i.op = 32) && !decide ((goS b).i.op = 34)) = false → EgE ((upY b).c) ((upY b).d) ((upY b).l) ((upY b).quota) ((upY b).now) (decide ((goS b).i.op = 32)) ((upY b).w) (stepN false b))))) (EqE (goY b) (stepN false b)))))) ∧ true = !b.over ∧ EgE ((stepN false b).c) ((stepN false b).d) ((stepN false b).l) ((stepN false b).quota) (IntKind.wrap IntKind.i64 ((stepN false b).now + 1)) ((stepN false b).over) ((stepN false b).w) (stepM false b))))) := by kernel_rfl
theorem geStep (b : Mc) (hv : mcOk b ∧ few b.l ∧ b.l.length % 16 = 0) : Box (TeStep gl b) := by
  refine .of (runeStep gl b) ?_
  obtain ⟨⟨k1, k2, k3, k4⟩, k5, k6⟩ := id hv
  have d0 : RT.dflt RT.u32 = (0 : Int) := rfl
  have FK : ∀ M : Mc, intrM false b = M → M.over = false → mcOk M → few M.l → M.l.length % 16 = 0 → (intrM false b).over = false ∧ mcOk (goY b) ∧ few (goY b).l ∧ (goY b).l.length % 16 = 0 := fun M hI h1 h2 h3 h4 => by
    obtain ⟨g1, g2, g3⟩ := go_keeps hI
    refine ⟨by rw [hI]; exact h1, ?_, ?_, by rw [g1]; exact h4⟩
    · unfold mcOk; rw [g2, g3]; exact h2
    · unfold few; rw [g1]; exact h3
  refine ⟨fun ho => ?_, fun ho => ⟨fun hw => ⟨fun h2 => ⟨fun he => ?_, fun he => ?_⟩, fun h2 => ⟨fun he => ?_, fun he => ?_⟩⟩, fun hw => ?_⟩⟩
  · have X := ec_eq (show b = stepM false b by rw [stepM_def]; unfold stepM0; rw [if_pos ho])
    exact ⟨by rw [ho]; rfl, X⟩
  · refine ⟨⟨k1, k2, k3, k4⟩, fun _ => ⟨by rw [ho]; rfl, ?_⟩⟩
    have X := ec_eq (dies_intr (M := { b with d := { b.d with on := false } }) (in_2 (of_decide_eq_true h2)) rfl (by simpa using he) ho)
    exact X
  · have hI := intr_in (in_2 (of_decide_eq_true h2)) (by simpa using he)
    obtain ⟨hov, mk, mL, mT⟩ := FK _ hI ho ⟨k1, k2, k3, k4⟩ k5 k6
    have X := ec_eqX (go_eq hI) (stp_eq (goS_eq hI))
    refine ⟨X, fun _ => ?_⟩
    clear X hI he hw h2 FK
    have tr : true = !b.over := by rw [ho]; rfl
    have F := ec_eq (stepM_N false ho).symm
    refine ⟨⟨fun c1 => ?_, fun c1 => ⟨fun c4 => ?_, fun c4 => ⟨fun c7 => ?_, fun c7 => ⟨fun c6 => ?_, fun c6 => ?_⟩⟩⟩⟩, tr, F⟩
    · have c1 := of_decide_eq_true c1
      refine ⟨fun _ => ⟨fun e => ⟨mk, fun _ => ⟨tr, ?_⟩⟩, fun e => ?_⟩, fun d1 => absurd c1 (of_decide_eq_false d1)⟩
      · have X := ec_eq (enter_out ho (by simpa using e) (sN_1 hov c1))
        exact X
      · have X := ec_eq (enter_in (by simpa using e) (sN_1 hov c1))
        exact X
    · have c1 := of_decide_eq_false c1
      have c4 := of_decide_eq_true c4
      refine ⟨fun d1 => absurd (of_decide_eq_true d1) c1, fun _ => ⟨fun e => ⟨mk, fun _ => ⟨tr, ?_⟩⟩, fun e => ?_⟩⟩
      · have X := ec_eq (enter_out ho (by simpa using e) (sN_4 hov c4))
        exact X
      · have X := ec_eq (enter_in (by simpa using e) (sN_4 hov c4))
        exact X
    · have c1 := of_decide_eq_false c1
      have c7 := of_decide_eq_true c7
      refine ⟨fun d1 => absurd (of_decide_eq_true d1) c1, fun _ => ⟨fun e => ⟨mk, fun _ => ⟨tr, ?_⟩⟩, fun e => ?_⟩⟩
      · have X := ec_eq (enter_out ho (by simpa using e) (sN_7 hov c7))
        exact X
      · have X := ec_eq (enter_in (by simpa using e) (sN_7 hov c7))
        exact X
    · have c6 := of_decide_eq_true c6
      have hi := go_ok c6
      obtain ⟨⟨a1, a2⟩, ⟨b1, b2⟩, _⟩ := word_rng hi
      have A : (0 : Int) ≤ (goS b).i.a ∧ (goS b).i.a < (↑(16 : Nat) : Int) := ⟨a1, by omega⟩
      have B : (0 : Int) ≤ (goS b).i.b ∧ (goS b).i.b < (↑(16 : Nat) : Int) := ⟨b1, by omega⟩
      have S0 := stp_eq (rfl : goS b = goS b)
      have XP := ec_eqX (pvY_def b).symm S0
      have pk : (goS b).i.op = 41 ∨ (goS b).i.op = 42 → mcOk (pvY b) ∧ few (pvY b).l ∧ (pvY b).l.length % 16 = 0 := fun h => by rw [pv_41 h]; exact ⟨mk, mL, mT⟩
      have UE := up_end hov c6
      refine ⟨⟨hi, mk⟩, fun _ => ⟨⟨rfl, XP⟩, fun _ => ⟨⟨fun o1 => ⟨A, fun _ => ⟨B, fun _ => ⟨fun m => ⟨fun q => ⟨pk (.inl (of_decide_eq_true o1)), fun _ => ⟨A, fun _ => ⟨B, fun _ => ⟨by simp [syncM], fun _ => ⟨rfl, ?_⟩⟩⟩⟩⟩, fun q => ⟨A, fun _ => ⟨B, fun _ => ⟨?_, fun _ => ⟨rfl, ?_⟩⟩⟩⟩⟩, fun m => ⟨rfl, ?_⟩⟩⟩⟩, fun o1 => ⟨fun o2 => ⟨pk (.inr (of_decide_eq_true o2)), fun _ => ⟨rfl, ?_⟩⟩, fun o2 => ⟨rfl, ?_⟩⟩⟩, fun g => ?_, fun g => ?_⟩⟩⟩
      · have X := ec_eqX ((up_put (of_decide_eq_true o1) m).1 (of_decide_eq_true q)) S0
        exact X
      · have q := of_decide_eq_false q
        simp only [List.length_singleton]; omega
      · have X := ec_eqX ((up_put (of_decide_eq_true o1) m).2 (of_decide_eq_false q)) S0
        exact X
      · have X := ec_eqX (up_no (of_decide_eq_true o1) m) S0
        exact X
      · have X := ec_eqX (up_42 (of_decide_eq_true o2)) S0
        exact X
      · have X := ec_eqX (up_else (of_decide_eq_false o1) (of_decide_eq_false o2)) S0
        exact X
      · have X := ec_eq (UE.1 g)
        exact X
      · have X := ec_eq (UE.2 g)
        exact X
    · have c1 := of_decide_eq_false c1
      have c4 := of_decide_eq_false c4
      have c7 := of_decide_eq_false c7
      have c6 := of_decide_eq_false c6
      have c0 : (goS b).cause = 0 := by
        have := once_is b
        omega
      have X := ec_eq (sN_0 hov c0)
      exact X
  · refine ⟨⟨k1, k2, k3, k4⟩, fun _ => ⟨by rw [ho]; rfl, ?_⟩⟩
    have X := ec_eq (dies_intr (M := b) (in_n (by simpa using hw) (of_decide_eq_false h2)) rfl (by simpa using he) ho)
    exact X
  · have hI := intr_in (in_n (by simpa using hw) (of_decide_eq_false h2)) (by simpa using he)
    obtain ⟨hov, mk, mL, mT⟩ := FK _ hI ho ⟨k1, k2, k3, k4⟩ k5 k6
    have X := ec_eqX (go_eq hI) (stp_eq (goS_eq hI))
    refine ⟨X, fun _ => ?_⟩
    clear X hI he hw h2 FK
    have tr : true = !b.over := by rw [ho]; rfl
    have F := ec_eq (stepM_N false ho).symm
    refine ⟨⟨fun c1 => ?_, fun c1 => ⟨fun c4 => ?_, fun c4 => ⟨fun c7 => ?_, fun c7 => ⟨fun c6 => ?_, fun c6 => ?_⟩⟩⟩⟩, tr, F⟩
    · have c1 := of_decide_eq_true c1
      refine ⟨fun _ => ⟨fun e => ⟨mk, fun _ => ⟨tr, ?_⟩⟩, fun e => ?_⟩, fun d1 => absurd c1 (of_decide_eq_false d1)⟩
      · have X := ec_eq (enter_out ho (by simpa using e) (sN_1 hov c1))
        exact X
      · have X := ec_eq (enter_in (by simpa using e) (sN_1 hov c1))
        exact X
    · have c1 := of_decide_eq_false c1
      have c4 := of_decide_eq_true c4
      refine ⟨fun d1 => absurd (of_decide_eq_true d1) c1, fun _ => ⟨fun e => ⟨mk, fun _ => ⟨tr, ?_⟩⟩, fun e => ?_⟩⟩
      · have X := ec_eq (enter_out ho (by simpa using e) (sN_4 hov c4))
        exact X
      · have X := ec_eq (enter_in (by simpa using e) (sN_4 hov c4))
        exact X
    · have c1 := of_decide_eq_false c1
      have c7 := of_decide_eq_true c7
      refine ⟨fun d1 => absurd (of_decide_eq_true d1) c1, fun _ => ⟨fun e => ⟨mk, fun _ => ⟨tr, ?_⟩⟩, fun e => ?_⟩⟩
      · have X := ec_eq (enter_out ho (by simpa using e) (sN_7 hov c7))
        exact X
      · have X := ec_eq (enter_in (by simpa using e) (sN_7 hov c7))
        exact X
    · have c6 := of_decide_eq_true c6
      have hi := go_ok c6
      obtain ⟨⟨a1, a2⟩, ⟨b1, b2⟩, _⟩ := word_rng hi
      have A : (0 : Int) ≤ (goS b).i.a ∧ (goS b).i.a < (↑(16 : Nat) : Int) := ⟨a1, by omega⟩
      have B : (0 : Int) ≤ (goS b).i.b ∧ (goS b).i.b < (↑(16 : Nat) : Int) := ⟨b1, by omega⟩
      have S0 := stp_eq (rfl : goS b = goS b)
      have XP := ec_eqX (pvY_def b).symm S0
      have pk : (goS b).i.op = 41 ∨ (goS b).i.op = 42 → mcOk (pvY b) ∧ few (pvY b).l ∧ (pvY b).l.length % 16 = 0 := fun h => by rw [pv_41 h]; exact ⟨mk, mL, mT⟩
      have UE := up_end hov c6
      refine ⟨⟨hi, mk⟩, fun _ => ⟨⟨rfl, XP⟩, fun _ => ⟨⟨fun o1 => ⟨A, fun _ => ⟨B, fun _ => ⟨fun m => ⟨fun q => ⟨pk (.inl (of_decide_eq_true o1)), fun _ => ⟨A, fun _ => ⟨B, fun _ => ⟨by simp [syncM], fun _ => ⟨rfl, ?_⟩⟩⟩⟩⟩, fun q => ⟨A, fun _ => ⟨B, fun _ => ⟨?_, fun _ => ⟨rfl, ?_⟩⟩⟩⟩⟩, fun m => ⟨rfl, ?_⟩⟩⟩⟩, fun o1 => ⟨fun o2 => ⟨pk (.inr (of_decide_eq_true o2)), fun _ => ⟨rfl, ?_⟩⟩, fun o2 => ⟨rfl, ?_⟩⟩⟩, fun g => ?_, fun g => ?_⟩⟩⟩
      · have X := ec_eqX ((up_put (of_decide_eq_true o1) m).1 (of_decide_eq_true q)) S0
        exact X
      · have q := of_decide_eq_false q
        simp only [List.length_singleton]; omega
      · have X := ec_eqX ((up_put (of_decide_eq_true o1) m).2 (of_decide_eq_false q)) S0
        exact X
      · have X := ec_eqX (up_no (of_decide_eq_true o1) m) S0
        exact X
      · have X := ec_eqX (up_42 (of_decide_eq_true o2)) S0
        exact X
      · have X := ec_eqX (up_else (of_decide_eq_false o1) (of_decide_eq_false o2)) S0
        exact X
      · have X := ec_eq (UE.1 g)
        exact X
      · have X := ec_eq (UE.2 g)
        exact X
    · have c1 := of_decide_eq_false c1
      have c4 := of_decide_eq_false c4
      have c7 := of_decide_eq_false c7
      have c6 := of_decide_eq_false c6
      have c0 : (goS b).cause = 0 := by
        have := once_is b
        omega
      have X := ec_eq (sN_0 hov c0)
      exact X
  · have hI := in_0 (b := b) (by simpa using hw)
    obtain ⟨hov, mk, mL, mT⟩ := FK _ hI ho ⟨k1, k2, k3, k4⟩ k5 k6
    have X := ec_eqX (go_eq hI) (stp_eq (goS_eq hI))
    refine ⟨X, fun _ => ?_⟩
    clear X hI hw FK
    have tr : true = !b.over := by rw [ho]; rfl
    have F := ec_eq (stepM_N false ho).symm
    refine ⟨⟨fun c1 => ?_, fun c1 => ⟨fun c4 => ?_, fun c4 => ⟨fun c7 => ?_, fun c7 => ⟨fun c6 => ?_, fun c6 => ?_⟩⟩⟩⟩, tr, F⟩
    · have c1 := of_decide_eq_true c1
      refine ⟨fun _ => ⟨fun e => ⟨mk, fun _ => ⟨tr, ?_⟩⟩, fun e => ?_⟩, fun d1 => absurd c1 (of_decide_eq_false d1)⟩
      · have X := ec_eq (enter_out ho (by simpa using e) (sN_1 hov c1))
        exact X
      · have X := ec_eq (enter_in (by simpa using e) (sN_1 hov c1))
        exact X
    · have c1 := of_decide_eq_false c1
      have c4 := of_decide_eq_true c4
      refine ⟨fun d1 => absurd (of_decide_eq_true d1) c1, fun _ => ⟨fun e => ⟨mk, fun _ => ⟨tr, ?_⟩⟩, fun e => ?_⟩⟩
      · have X := ec_eq (enter_out ho (by simpa using e) (sN_4 hov c4))
        exact X
      · have X := ec_eq (enter_in (by simpa using e) (sN_4 hov c4))
        exact X
    · have c1 := of_decide_eq_false c1
      have c7 := of_decide_eq_true c7
      refine ⟨fun d1 => absurd (of_decide_eq_true d1) c1, fun _ => ⟨fun e => ⟨mk, fun _ => ⟨tr, ?_⟩⟩, fun e => ?_⟩⟩
      · have X := ec_eq (enter_out ho (by simpa using e) (sN_7 hov c7))
        exact X
      · have X := ec_eq (enter_in (by simpa using e) (sN_7 hov c7))
        exact X
    · have c6 := of_decide_eq_true c6
      have hi := go_ok c6
      obtain ⟨⟨a1, a2⟩, ⟨b1, b2⟩, _⟩ := word_rng hi
      have A : (0 : Int) ≤ (goS b).i.a ∧ (goS b).i.a < (↑(16 : Nat) : Int) := ⟨a1, by omega⟩
      have B : (0 : Int) ≤ (goS b).i.b ∧ (goS b).i.b < (↑(16 : Nat) : Int) := ⟨b1, by omega⟩
      have S0 := stp_eq (rfl : goS b = goS b)
      have XP := ec_eqX (pvY_def b).symm S0
      have pk : (goS b).i.op = 41 ∨ (goS b).i.op = 42 → mcOk (pvY b) ∧ few (pvY b).l ∧ (pvY b).l.length % 16 = 0 := fun h => by rw [pv_41 h]; exact ⟨mk, mL, mT⟩
      have UE := up_end hov c6
      refine ⟨⟨hi, mk⟩, fun _ => ⟨⟨rfl, XP⟩, fun _ => ⟨⟨fun o1 => ⟨A, fun _ => ⟨B, fun _ => ⟨fun m => ⟨fun q => ⟨pk (.inl (of_decide_eq_true o1)), fun _ => ⟨A, fun _ => ⟨B, fun _ => ⟨by simp [syncM], fun _ => ⟨rfl, ?_⟩⟩⟩⟩⟩, fun q => ⟨A, fun _ => ⟨B, fun _ => ⟨?_, fun _ => ⟨rfl, ?_⟩⟩⟩⟩⟩, fun m => ⟨rfl, ?_⟩⟩⟩⟩, fun o1 => ⟨fun o2 => ⟨pk (.inr (of_decide_eq_true o2)), fun _ => ⟨rfl, ?_⟩⟩, fun o2 => ⟨rfl, ?_⟩⟩⟩, fun g => ?_, fun g => ?_⟩⟩⟩
      · have X := ec_eqX ((up_put (of_decide_eq_true o1) m).1 (of_decide_eq_true q)) S0
        exact X
      · have q := of_decide_eq_false q
        simp only [List.length_singleton]; omega
      · have X := ec_eqX ((up_put (of_decide_eq_true o1) m).2 (of_decide_eq_false q)) S0
        exact X
      · have X := ec_eqX (up_no (of_decide_eq_true o1) m) S0
        exact X
      · have X := ec_eqX (up_42 (of_decide_eq_true o2)) S0
        exact X
      · have X := ec_eqX (up_else (of_decide_eq_false o1) (of_decide_eq_false o2)) S0
        exact X
      · have X := ec_eq (UE.1 g)
        exact X
      · have X := ec_eq (UE.2 g)
        exact X
    · have c1 := of_decide_eq_false c1
      have c4 := of_decide_eq_false c4
      have c7 := of_decide_eq_false c7
      have c6 := of_decide_eq_false c6
      have c0 : (goS b).cause = 0 := by
        have := once_is b
        omega
      have X := ec_eq (sN_0 hov c0)
      exact X
theorem ceStep : Con ea has gl 13 keStep := by
  refine gen_mk Tryz.func13 223 4 (con := [(36, krWaits), (37, krEnter), (38, keDies), (39, krOnce), (40, kePriv), (41, keMay), (42, keSync)]) ⟨crWaits, crEnter, ceDies, crOnce, cePriv, ceMay, ceSync, trivial⟩ (fun hA hr hv => ?_) (by kernel_rfl) (by kernel_rfl) Tryz.ntmps13
  unfold keStep at hr; split at hr
  · rename_i q
    simp only [Acc.run] at hr
    split at hr
    · rename_i m x pc ie eie epc tv ca ad qu d no ov w hq
      simp only [Acc.run] at hr
      split at hr
      · rename_i p hm
        simp only [Acc.run] at hr
        split at hr
        · rename_i k e sc at_ on hd
          simp only [Acc.run] at hr
          split at hr
          · rename_i l hp
            simp only [Acc.run] at hr
            split at hr
            · rename_i us hw
              simp only [Acc.run] at hr
              split at hr
              · rename_i ks hk
                simp only [Acc.run] at hr
                split at hr
                · rename_i se he
                  split at hr
                  · rename_i hnd
                    have := ret_ok hr; subst this
                    refine ⟨[q, m, d, p], [w, k, e], (eC0 l x pc ie eie epc tv ca ad ks sc on at_ se qu no ov us), [.ptr 0 0], (S1 [.ptr 0 0] (eHpO (mcV l x pc ie eie epc tv ca ad ks sc on at_ se qu no ov us)) 7 223), [(1000013, cutL { fr := [(0, .ptr 0 0), (7, .ptr 7 0)], hp := eHpO (goY (mcV l x pc ie eie epc tv ca ad ks sc on at_ se qu no ov us)) ++ [(7, some (.cells (goS (mcV l x pc ie eie epc tv ca ad ks sc on at_ se qu no ov us)).enc))], next := 8, sz := 223 }), (2000041, cutL { fr := [(0, .ptr 0 0)], hp := eHpO (stepN false (mcV l x pc ie eie epc tv ca ad ks sc on at_ se qu no ov us)), next := 7, sz := 223 }), (1000029, cutL { fr := [(0, .ptr 0 0), (7, .ptr 7 0), (12, .bool (.sym (decide ((goS (mcV l x pc ie eie epc tv ca ad ks sc on at_ se qu no ov us)).i.op = 32))))], hp := eHpO (pvY (mcV l x pc ie eie epc tv ca ad ks sc on at_ se qu no ov us)) ++ [(7, some (.cells (goS (mcV l x pc ie eie epc tv ca ad ks sc on at_ se qu no ov us)).enc))], next := 8, sz := 223 }), (2000038, cutL { fr := [(0, .ptr 0 0), (7, .ptr 7 0), (12, .bool (.sym (decide ((goS (mcV l x pc ie eie epc tv ca ad ks sc on at_ se qu no ov us)).i.op = 32))))], hp := eHpO (upY (mcV l x pc ie eie epc tv ca ad ks sc on at_ se qu no ov us)) ++ [(7, some (.cells (goS (mcV l x pc ie eie epc tv ca ad ks sc on at_ se qu no ov us)).enc))], next := 8, sz := 223 })], .bool (.sym (!(mcV l x pc ie eie epc tv ca ad ks sc on at_ se qu no ov us).over)), eHp (stepM false (mcV l x pc ie eie epc tv ca ad ks sc on at_ se qu no ov us)), 3, rfl, rfl, ⟨rfl, rfl, rfl⟩, hnd, ⟨hq, hm, hd, hp, hw, hk, he, trivial⟩, rfl, rfl, .of (fiteStep gl x pc ie eie epc tv ca ad qu no ov sc on at_ l us ks se) (by simp [nilR]), rfl, (fun W R ρ0 own0 hown => noSums (by kernel_rfl)), geStep ⟨l, ⟨x, pc.val, ie.val, eie.val, epc.val, tv.val, ca.val, ad.val⟩, ⟨ks, sc, on.val, at_.val, se⟩, qu.val, no.val, ov.val, us⟩ (hv _ rfl)⟩
                  · cases hr
                · cases hr
              · cases hr
            · cases hr
          · cases hr
        · cases hr
      · cases hr
    · cases hr
  · cases hr
end
end Go.Proofs.YtpjccdncokamlaaGreatDoor

