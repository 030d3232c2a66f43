/- Contracts. -/
import Derived.Test.YtpjccdncokamlaaGreatDoorQFnBare
import Derived.Test.YtpjccdncokamlaaGreatDoorQBareY
set_option maxHeartbeats 4000000
set_option linter.unusedVariables false
set_option linter.unusedSimpArgs false
namespace Go.Proofs.YtpjccdncokamlaaGreatDoor
open Go.RowKit Go.Sy Go.Fac
section
variable {ea : Ear} {has : Int → Prop} {gl : List (Nat × SVal)}
abbrev eHp (b : Mc) : List (Nat × Cont) := [(0, .cells [.ptr 1 0, .arr .u32 16 b.c.r, .int .u32 (.full b.c.pc), .bool (.sym b.c.ie), .bool (.sym b.c.eie), .int .u32 (.full b.c.epc), .int .u32 (.full b.c.tv), .int .u32 (.full b.c.cause), .int .u32 (.full b.c.addr), .int .i64 (.full b.quota), .ptr 2 0, .int .i64 (.full b.now), .bool (.sym b.over), .own 4]), (1, .cells [.own 3]), (2, .cells (eCells 5 6 b.d)), (3, .recs .u32 b.l), (4, .recs updT b.w), (5, .recs .u32 b.d.keys), (6, .recs seenT b.d.seen)]
abbrev eHpO (b : Mc) : List (Nat × Option Cont) := [(0, some (.cells [.ptr 1 0, .arr .u32 16 b.c.r, .int .u32 (.full b.c.pc), .bool (.sym b.c.ie), .bool (.sym b.c.eie), .int .u32 (.full b.c.epc), .int .u32 (.full b.c.tv), .int .u32 (.full b.c.cause), .int .u32 (.full b.c.addr), .int .i64 (.full b.quota), .ptr 2 0, .int .i64 (.full b.now), .bool (.sym b.over), .own 4])), (1, some (.cells [.own 3])), (2, some (.cells (eCells 5 6 b.d))), (3, some (.recs .u32 b.l)), (4, some (.recs updT b.w)), (5, some (.recs .u32 b.d.keys)), (6, some (.recs seenT b.d.seen))]
theorem ec_eqX {a b : Mc} {P : Prop} (h : a = b) (hp : P) : a.c.r = b.c.r ∧ a.c.pc = b.c.pc ∧ a.c.ie = b.c.ie ∧ a.c.eie = b.c.eie ∧ a.c.epc = b.c.epc ∧ a.c.tv = b.c.tv ∧ a.c.cause = b.c.cause ∧ a.c.addr = b.c.addr ∧ a.quota = b.quota ∧ a.now = b.now ∧ a.over = b.over ∧
    a.d.sec = b.d.sec ∧ a.d.at_ = b.d.at_ ∧ a.d.on = b.d.on ∧ a.l = b.l ∧ a.w = b.w ∧ a.d.keys = b.d.keys ∧ a.d.seen = b.d.seen ∧ P := by
  subst h; exact ⟨rfl, rfl, rfl, rfl, rfl, rfl, rfl, rfl, rfl, rfl, rfl, rfl, rfl, rfl, rfl, rfl, rfl, rfl, hp⟩
theorem ec_eq {a b : Mc} (h : a = b) : a.c.r = b.c.r ∧ a.c.pc = b.c.pc ∧ a.c.ie = b.c.ie ∧ a.c.eie = b.c.eie ∧ a.c.epc = b.c.epc ∧ a.c.tv = b.c.tv ∧ a.c.cause = b.c.cause ∧ a.c.addr = b.c.addr ∧ a.quota = b.quota ∧ a.now = b.now ∧ a.over = b.over ∧
    a.d.sec = b.d.sec ∧ a.d.at_ = b.d.at_ ∧ a.d.on = b.d.on ∧ a.l = b.l ∧ a.w = b.w ∧ a.d.keys = b.d.keys ∧ a.d.seen = b.d.seen := by
  subst h; exact ⟨rfl, rfl, rfl, rfl, rfl, rfl, rfl, rfl, rfl, rfl, rfl, rfl, rfl, rfl, rfl, rfl, rfl, rfl⟩
def keDies : List SVal → Nat → Acc ORes := fun a n => match a with
  | [.ptr q 0, .int .i64 y] => .look q fun cc => match cc with | some (.cells [.ptr m 0, .arr .u32 16 x, .int .u32 pc, .bool ie, .bool eie, .int .u32 epc, .int .u32 tv, .int .u32 ca, .int .u32 ad, .int .i64 qu, .ptr d 0, .int .i64 no, .bool ov, .own w]) => (.look m fun cc => match cc with | some (.cells [.own p]) => (.look d fun cc => match cc with | some (.cells [.own k, .own e, .arr .u32 16 sc, .int .i64 at_, .bool on]) => (.look p fun cc => match cc with | some (.recs .u32 l) => (.look w fun cc => match cc with | some (.recs (.flat (.int .i64) [.int .u32]) us) => (.look k fun cc => match cc with | some (.recs .u32 ks) => (.look e fun cc => match cc with | some (.recs (.flat (.int .i64) [.int .u32, .int .u32]) se) => (match nodupB [q, m, d, p, w, k, e] with | true => .ret (genR [q, m, d, p] (gone [w, k, e]) n (.tuple []) (eHp (diesM (mcV l x pc ie eie epc tv ca ad ks sc on at_ se qu no ov us) y.val)) 3 (some (mcOk (mcV l x pc ie eie epc tv ca ad ks sc on at_ se qu no ov us)))) | false => .fail "eDies") | _ => .fail "eDies") | _ => .fail "eDies") | _ => .fail "eDies") | _ => .fail "eDies") | _ => .fail "eDies") | _ => .fail "eDies") | _ => .fail "eDies"
  | _ => .fail "eDies"
theorem fiteDies (gl : List (Nat × SVal)) (y : SI) (x : List Int) (pc : SI) (ie eie : SB) (epc tv ca ad : SI) (qu no : SI) (ov : SB) (sc : List Int) (on : SB) (at_ : SI) (l : List Int) (us : List (Int × Int)) (ks : List Int) (se : List (Int × Int × Int)) : (fits (envK gl [(74, krEnd)] 4) (S1 [.ptr 0 0, .int .i64 y] (numC 0 (eC0 l x pc ie eie epc tv ca ad ks sc on at_ se qu no ov us)) 7 22) (S1 [.ptr 0 0, .int .i64 (.full y.val)] (eHpO (mcV l x pc ie eie epc tv ca ad ks sc on at_ se qu no ov us)) 7 22)) = (
  SI.val y = SI.val y ∧ x = x ∧ SI.val pc = SI.val pc ∧ SB.val ie = SB.val ie ∧ SB.val eie = SB.val eie ∧ SI.val epc = SI.val epc ∧ SI.val tv = SI.val tv ∧ SI.val ca = SI.val ca ∧ SI.val ad = SI.val ad ∧ SI.val qu = SI.val qu ∧ SI.val no = SI.val no ∧ SB.val ov = SB.val ov ∧ sc = sc ∧ SI.val at_ = SI.val at_ ∧ SB.val on = SB.val on ∧ l = l ∧ us = us ∧ ks = ks ∧ se = se) := by kernel_rfl
abbrev TeDies (gl : List (Nat × SVal)) (y : Int) (b : Mc) : Prop := Tr.sat (newQ (envK gl [(74, krEnd)] 4) (.tuple []) (eHp (diesM b y)) (4 + 3)) (run (envK gl [(74, krEnd)] 4) [] (bodyOf Tryz.f38) (S1 [.ptr 0 0, .int .i64 (.full y)] (eHpO b) 7 22) (ends (envK gl [(74, krEnd)] 4) Tryz.f38.results.toList))
theorem runeDies (gl : List (Nat × SVal)) (y : Int) (b : Mc) : (TeDies gl y b) = (
  RQ (few b.d.seen) (EgE b.c (dEnd b.d (4 : Int) (IntKind.wrap IntKind.u32 y)) b.l b.quota (IntKind.wrap IntKind.i64 (b.now + 1)) true b.w (diesM b y))) := by kernel_rfl
theorem geDies (y : Int) (b : Mc) (hv : mcOk b) : Box (TeDies gl y b) := by
  refine .of (runeDies gl y b) ?_
  rw [diesM_def]
  exact ⟨hv.2.1, fun _ => ec_eq (a := { b with over := true, now := IntKind.i64.wrap (b.now + 1), d := dEnd b.d 4 (IntKind.u32.wrap y) }) rfl⟩
theorem ceDies : Con ea has gl 38 keDies := by
  refine gen_mk Tryz.func38 22 4 (con := [(74, krEnd)]) ⟨crEnd, trivial⟩ (fun hA hr hv => ?_) (by kernel_rfl) (by kernel_rfl) Tryz.ntmps38
  unfold keDies at hr; split at hr
  · rename_i q y
    simp only [Acc.run] at hr
    split at hr
    · rename_i m x pc ie eie epc tv ca ad qu d no ov w hq
      simp only [Acc.run] at hr
      split at hr
      · rename_i p hm
        simp only [Acc.run] at hr
        split at hr
        · rename_i k e sc at_ on hd
          simp only [Acc.run] at hr
          split at hr
          · rename_i l hp
            simp only [Acc.run] at hr
            split at hr
            · rename_i us hw
              simp only [Acc.run] at hr
              split at hr
              · rename_i ks hk
                simp only [Acc.run] at hr
                split at hr
                · rename_i se he
                  split at hr
                  · rename_i hnd
                    have := ret_ok hr; subst this
                    refine ⟨[q, m, d, p], [w, k, e], (eC0 l x pc ie eie epc tv ca ad ks sc on at_ se qu no ov us), [.ptr 0 0, .int .i64 y], (S1 [.ptr 0 0, .int .i64 (.full y.val)] (eHpO (mcV l x pc ie eie epc tv ca ad ks sc on at_ se qu no ov us)) 7 22), [], .tuple [], eHp (diesM (mcV l x pc ie eie epc tv ca ad ks sc on at_ se qu no ov us) y.val), 3, rfl, rfl, ⟨rfl, rfl, rfl⟩, hnd, ⟨hq, hm, hd, hp, hw, hk, he, trivial⟩, rfl, rfl, .of (fiteDies gl y x pc ie eie epc tv ca ad qu no ov sc on at_ l us ks se) (by simp [nilR]), rfl, (fun W R ρ0 own0 hown => noSums (by kernel_rfl)), geDies y.val ⟨l, ⟨x, pc.val, ie.val, eie.val, epc.val, tv.val, ca.val, ad.val⟩, ⟨ks, sc, on.val, at_.val, se⟩, qu.val, no.val, ov.val, us⟩ (hv _ rfl)⟩
                  · cases hr
                · cases hr
              · cases hr
            · cases hr
          · cases hr
        · cases hr
      · cases hr
    · cases hr
  · cases hr
def keMay : List SVal → Nat → Acc ORes := fun a n => match a with | [.int .u32 y, .int .u32 z, .int .i64 w] => .ret ({ v := .bool (.sym (mayB w.val y.val z.val)) }) | _ => .fail "eMay"
theorem argeMay (y z w : SI) : (all (subL tAtN none' [] deep [.int .u32 y, .int .u32 z, .int .i64 w] [.int .u32 (.full y.val), .int .u32 (.full z.val), .int .i64 (.full w.val)])) = (
  SI.val y = SI.val y ∧ SI.val z = SI.val z ∧ SI.val w = SI.val w) := by kernel_rfl
abbrev TeMay (gl : List (Nat × SVal)) (y z w : Int) : Prop := Tr.sat (plainQ (.bool (.sym (mayB w y z)))) (run (env gl [(88, krOfBits)]) [] (bodyOf Tryz.f41) (start [.int .u32 (.full y), .int .u32 (.full z), .int .i64 (.full w)] 35) (ends (env gl [(88, krOfBits)]) Tryz.f41.results.toList))
theorem runeMay (gl : List (Nat × SVal)) (y z w : Int) : (TeMay gl y z w) = (
  (decide (y < (128 : Int)) && enOk z && (!enT z || decide ((17 : Int) ≤ enF z) && decide (enF z < w))) = mayB w y z) := by kernel_rfl
theorem geMay (y z w : Int) (h0 : 0 ≤ y) : Box (TeMay gl y z w) := by
  refine .of (runeMay gl y z w) ?_
  unfold mayB
  rw [decide_eq_true h0]; simp
theorem ceMay : Con ea has gl 41 keMay := by
  refine plain_mkB Tryz.func41 35 (con := [(88, krOfBits)]) ⟨crOfBits, trivial⟩ (fun hA hr hv => ?_) (by kernel_rfl) (by kernel_rfl) Tryz.ntmps41
  unfold keMay at hr; split at hr
  · rename_i y z w
    have := ret_ok hr; subst this
    exact ⟨_, [], rfl, rfl, .of (argeMay y z w) (by simp), rfl, (fun W R ρ0 own0 hown => noSums (by kernel_rfl)), geMay y.val z.val w.val ((DenA.i0 hA).lo)⟩
  · cases hr
def kePriv : List SVal → Nat → Acc ORes := fun a n => match a with
  | [.ptr q 1, .ptr d' 0, .int .i64 y, .agg [.int .i64 op, .int .i64 a1, .int .i64 a2, .int .i64 a3, .int .u32 imm]] => .look q fun cc => match cc with | some (.cells [.ptr m 0, .arr .u32 16 x, .int .u32 pc, .bool ie, .bool eie, .int .u32 epc, .int .u32 tv, .int .u32 ca, .int .u32 ad, .int .i64 qu, .ptr d 0, .int .i64 no, .bool ov, .own w]) => (.look m fun cc => match cc with | some (.cells [.own p]) => (.look d fun cc => match cc with | some (.cells [.own k, .own e, .arr .u32 16 sc, .int .i64 at_, .bool on]) => (.look p fun cc => match cc with | some (.recs .u32 l) => (.look w fun cc => match cc with | some (.recs (.flat (.int .i64) [.int .u32]) us) => (.look k fun cc => match cc with | some (.recs .u32 ks) => (.look e fun cc => match cc with | some (.recs (.flat (.int .i64) [.int .u32, .int .u32]) se) => (match nodupB [q, m, d, p, w, k, e] with | true => (match Nat.beq d' d with | true => .ret (genR [q, m, d, p] (gone [w, k, e]) n (.bool (.sym (decide ((⟨op.val, a1.val, a2.val, a3.val, imm.val⟩ : In5).op = 32)))) (eHp ({ (mcV l x pc ie eie epc tv ca ad ks sc on at_ se qu no ov us) with c := privC (⟨op.val, a1.val, a2.val, a3.val, imm.val⟩ : In5) (mcV l x pc ie eie epc tv ca ad ks sc on at_ se qu no ov us).c (mcV l x pc ie eie epc tv ca ad ks sc on at_ se qu no ov us).d y.val, d := doD false (⟨op.val, a1.val, a2.val, a3.val, imm.val⟩ : In5) (mcV l x pc ie eie epc tv ca ad ks sc on at_ se qu no ov us).c (mcV l x pc ie eie epc tv ca ad ks sc on at_ se qu no ov us).d y.val })) 3 (some (In5.ok (⟨op.val, a1.val, a2.val, a3.val, imm.val⟩ : In5) = true ∧ mcOk (mcV l x pc ie eie epc tv ca ad ks sc on at_ se qu no ov us)))) | false => .fail "ePriv") | false => .fail "ePriv") | _ => .fail "ePriv") | _ => .fail "ePriv") | _ => .fail "ePriv") | _ => .fail "ePriv") | _ => .fail "ePriv") | _ => .fail "ePriv") | _ => .fail "ePriv"
  | _ => .fail "ePriv"
theorem fitePriv (gl : List (Nat × SVal)) (y op a1 a2 a3 imm : SI) (x : List Int) (pc : SI) (ie eie : SB) (epc tv ca ad : SI) (qu no : SI) (ov : SB) (sc : List Int) (on : SB) (at_ : SI) (l : List Int) (us : List (Int × Int)) (ks : List Int) (se : List (Int × Int × Int)) : (fits (envK gl [(74, krEnd), (81, krReturn), (82, krOut), (83, krIn), (84, krPut), (85, krGet), (86, krSet), (87, krone)] 4) (S1 [.ptr 0 1, .ptr 2 0, .int .i64 y, .agg [.int .i64 op, .int .i64 a1, .int .i64 a2, .int .i64 a3, .int .u32 imm]] (numC 0 (eC0 l x pc ie eie epc tv ca ad ks sc on at_ se qu no ov us)) 7 150) (S1 [.ptr 0 1, .ptr 2 0, .int .i64 (.full y.val), .agg [.int .i64 (.full (⟨op.val, a1.val, a2.val, a3.val, imm.val⟩ : In5).op), .int .i64 (.full (⟨op.val, a1.val, a2.val, a3.val, imm.val⟩ : In5).a), .int .i64 (.full (⟨op.val, a1.val, a2.val, a3.val, imm.val⟩ : In5).b), .int .i64 (.full (⟨op.val, a1.val, a2.val, a3.val, imm.val⟩ : In5).c), .int .u32 (.full (⟨op.val, a1.val, a2.val, a3.val, imm.val⟩ : In5).imm)]] (eHpO (mcV l x pc ie eie epc tv ca ad ks sc on at_ se qu no ov us)) 7 150)) = (
  SI.val y = SI.val y ∧ SI.val op = SI.val op ∧ SI.val a1 = SI.val a1 ∧ SI.val a2 = SI.val a2 ∧ SI.val a3 = SI.val a3 ∧ SI.val imm = SI.val imm ∧ x = x ∧ SI.val pc = SI.val pc ∧ SB.val ie = SB.val ie ∧ SB.val eie = SB.val eie ∧ SI.val epc = SI.val epc ∧ SI.val tv = SI.val tv ∧ SI.val ca = SI.val ca ∧ SI.val ad = SI.val ad ∧ SI.val qu = SI.val qu ∧ SI.val no = SI.val no ∧ SB.val ov = SB.val ov ∧ sc = sc ∧ SI.val at_ = SI.val at_ ∧ SB.val on = SB.val on ∧ l = l ∧ us = us ∧ ks = ks ∧ se = se) := by kernel_rfl
abbrev TePriv (gl : List (Nat × SVal)) (y : Int) (i : In5) (b : Mc) : Prop := Tr.sat (newQ (envK gl [(74, krEnd), (81, krReturn), (82, krOut), (83, krIn), (84, krPut), (85, krGet), (86, krSet), (87, krone)] 4) (.bool (.sym (decide (i.op = 32)))) (eHp ({ b with c := privC i b.c b.d y, d := doD false i b.c b.d y })) (4 + 3)) (run (envK gl [(74, krEnd), (81, krReturn), (82, krOut), (83, krIn), (84, krPut), (85, krGet), (86, krSet), (87, krone)] 4) [] (bodyOf Tryz.f40) (S1 [.ptr 0 1, .ptr 2 0, .int .i64 (.full y), .agg [.int .i64 (.full i.op), .int .i64 (.full i.a), .int .i64 (.full i.b), .int .i64 (.full i.c), .int .u32 (.full i.imm)]] (eHpO b) 7 150) (ends (envK gl [(74, krEnd), (81, krReturn), (82, krOut), (83, krIn), (84, krPut), (85, krGet), (86, krSet), (87, krone)] 4) Tryz.f40.results.toList))
theorem runePriv (gl : List (Nat × SVal)) (y : Int) (i : In5) (b : Mc) : (TePriv gl y i b) = (
  RQ (0 ≤ i.a ∧ i.a < ((16 : Nat) : Int)) (RQ (0 ≤ i.b ∧ i.b < ((16 : Nat) : Int)) (IT (decide (i.op = 32)) (RQ (few b.d.seen) (true = decide (i.op = 32) ∧ b.c.r = (privC i b.c b.d y).r ∧ b.c.pc = (privC i b.c b.d y).pc ∧ b.c.ie = (privC i b.c b.d y).ie ∧ b.c.eie = (privC i b.c b.d y).eie ∧ b.c.epc = (privC i b.c b.d y).epc ∧ b.c.tv = (privC i b.c b.d y).tv ∧ b.c.cause = (privC i b.c b.d y).cause ∧ b.c.addr = (privC i b.c b.d y).addr ∧ b.quota = b.quota ∧ b.now = b.now ∧ b.over = b.over ∧ (dEnd b.d (3 : Int) (List.getD b.c.r (Int.toNat i.a) (RT.dflt RT.u32))).sec = (doD false i b.c b.d y).sec ∧ (dEnd b.d (3 : Int) (List.getD b.c.r (Int.toNat i.a) (RT.dflt RT.u32))).at_ = (doD false i b.c b.d y).at_ ∧ (dEnd b.d (3 : Int) (List.getD b.c.r (Int.toNat i.a) (RT.dflt RT.u32))).on = (doD false i b.c b.d y).on ∧ b.l = b.l ∧ b.w = b.w ∧ (dEnd b.d (3 : Int) (List.getD b.c.r (Int.toNat i.a) (RT.dflt RT.u32))).keys = (doD false i b.c b.d y).keys ∧ (dEnd b.d (3 : Int) (List.getD b.c.r (Int.toNat i.a) (RT.dflt RT.u32))).seen = (doD false i b.c b.d y).seen)) (IT (decide (i.op = 33)) (false = decide (i.op = 32) ∧ b.c.r = (privC i b.c b.d y).r ∧ b.c.pc = (privC i b.c b.d y).pc ∧ b.c.ie = (privC i b.c b.d y).ie ∧ b.c.eie = (privC i b.c b.d y).eie ∧ b.c.epc = (privC i b.c b.d y).epc ∧ List.getD b.c.r (Int.toNat i.a) (RT.dflt RT.u32) = (privC i b.c b.d y).tv ∧ b.c.cause = (privC i b.c b.d y).cause ∧ b.c.addr = (privC i b.c b.d y).addr ∧ b.quota = b.quota ∧ b.now = b.now ∧ b.over = b.over ∧ b.d.sec = (doD false i b.c b.d y).sec ∧ b.d.at_ = (doD false i b.c b.d y).at_ ∧ b.d.on = (doD false i b.c b.d y).on ∧ b.l = b.l ∧ b.w = b.w ∧ b.d.keys = (doD false i b.c b.d y).keys ∧ b.d.seen = (doD false i b.c b.d y).seen) (IT (decide (i.op = 34)) (false = decide (i.op = 32) ∧ (returnC b.c).r = (privC i b.c b.d y).r ∧ (returnC b.c).pc = (privC i b.c b.d y).pc ∧ (returnC b.c).ie = (privC i b.c b.d y).ie ∧ (returnC b.c).eie = (privC i b.c b.d y).eie ∧ (0 : Int) = (privC i b.c b.d y).epc ∧ (returnC b.c).tv = (privC i b.c b.d y).tv ∧ (returnC b.c).cause = (privC i b.c b.d y).cause ∧ (returnC b.c).addr = (privC i b.c b.d y).addr ∧ b.quota = b.quota ∧ b.now = b.now ∧ b.over = b.over ∧ b.d.sec = (doD false i b.c b.d y).sec ∧ b.d.at_ = (doD false i b.c b.d y).at_ ∧ b.d.on = (doD false i b.c b.d y).on ∧ b.l = b.l ∧ b.w = b.w ∧ b.d.keys = (doD false i b.c b.d y).keys ∧ b.d.seen = (doD false i b.c b.d y).seen) (IT (decide (i.op = 35)) (RQ (few b.d.seen) (false = decide (i.op = 32) ∧ b.c.r = (privC i b.c b.d y).r ∧ b.c.pc = (privC i b.c b.d y).pc ∧ b.c.ie = (privC i b.c b.d y).ie ∧ b.c.eie = (privC i b.c b.d y).eie ∧ b.c.epc = (privC i b.c b.d y).epc ∧ b.c.tv = (privC i b.c b.d y).tv ∧ b.c.cause = (privC i b.c b.d y).cause ∧ b.c.addr = (privC i b.c b.d y).addr ∧ b.quota = b.quota ∧ b.now = b.now ∧ b.over = b.over ∧ (dOut b.d (List.getD b.c.r (Int.toNat i.a) (RT.dflt RT.u32))).sec = (doD false i b.c b.d y).sec ∧ (dOut b.d (List.getD b.c.r (Int.toNat i.a) (RT.dflt RT.u32))).at_ = (doD false i b.c b.d y).at_ ∧ (dOut b.d (List.getD b.c.r (Int.toNat i.a) (RT.dflt RT.u32))).on = (doD false i b.c b.d y).on ∧ b.l = b.l ∧ b.w = b.w ∧ (dOut b.d (List.getD b.c.r (Int.toNat i.a) (RT.dflt RT.u32))).keys = (doD false i b.c b.d y).keys ∧ (dOut b.d (List.getD b.c.r (Int.toNat i.a) (RT.dflt RT.u32))).seen = (doD false i b.c b.d y).seen)) (IT (decide (i.op = 36)) (RQ (few b.d.keys) (RQ (0 ≤ i.a ∧ i.a < ((16 : Nat) : Int)) (false = decide (i.op = 32) ∧ List.set b.c.r (Int.toNat i.a) (dInW b.d) = (privC i b.c b.d y).r ∧ b.c.pc = (privC i b.c b.d y).pc ∧ b.c.ie = (privC i b.c b.d y).ie ∧ b.c.eie = (privC i b.c b.d y).eie ∧ b.c.epc = (privC i b.c b.d y).epc ∧ b.c.tv = (privC i b.c b.d y).tv ∧ b.c.cause = (privC i b.c b.d y).cause ∧ b.c.addr = (privC i b.c b.d y).addr ∧ b.quota = b.quota ∧ b.now = b.now ∧ b.over = b.over ∧ (dIn b.d).sec = (doD false i b.c b.d y).sec ∧ (dIn b.d).at_ = (doD false i b.c b.d y).at_ ∧ (dIn b.d).on = (doD false i b.c b.d y).on ∧ b.l = b.l ∧ b.w = b.w ∧ (dIn b.d).keys = (doD false i b.c b.d y).keys ∧ (dIn b.d).seen = (doD false i b.c b.d y).seen))) (IT (decide (i.op = 37)) (RQ (few b.d.seen) (false = decide (i.op = 32) ∧ b.c.r = (privC i b.c b.d y).r ∧ b.c.pc = (privC i b.c b.d y).pc ∧ b.c.ie = (privC i b.c b.d y).ie ∧ b.c.eie = (privC i b.c b.d y).eie ∧ b.c.epc = (privC i b.c b.d y).epc ∧ b.c.tv = (privC i b.c b.d y).tv ∧ b.c.cause = (privC i b.c b.d y).cause ∧ b.c.addr = (privC i b.c b.d y).addr ∧ b.quota = b.quota ∧ b.now = b.now ∧ b.over = b.over ∧ (dPut b.d (List.getD b.c.r (Int.toNat i.a) (RT.dflt RT.u32)) (List.getD b.c.r (Int.toNat i.b) (RT.dflt RT.u32))).sec = (doD false i b.c b.d y).sec ∧ (dPut b.d (List.getD b.c.r (Int.toNat i.a) (RT.dflt RT.u32)) (List.getD b.c.r (Int.toNat i.b) (RT.dflt RT.u32))).at_ = (doD false i b.c b.d y).at_ ∧ (dPut b.d (List.getD b.c.r (Int.toNat i.a) (RT.dflt RT.u32)) (List.getD b.c.r (Int.toNat i.b) (RT.dflt RT.u32))).on = (doD false i b.c b.d y).on ∧ b.l = b.l ∧ b.w = b.w ∧ (dPut b.d (List.getD b.c.r (Int.toNat i.a) (RT.dflt RT.u32)) (List.getD b.c.r (Int.toNat i.b) (RT.dflt RT.u32))).keys = (doD false i b.c b.d y).keys ∧ (dPut b.d (List.getD b.c.r (Int.toNat i.a) (RT.dflt RT.u32)) (List.getD b.c.r (Int.toNat i.b) (RT.dflt RT.u32))).seen = (doD false i b.c b.d y).seen)) (IT (decide (i.op = 38)) (RQ (0 ≤ i.a ∧ i.a < ((16 : Nat) : Int)) (false = decide (i.op = 32) ∧ List.set b.c.r (Int.toNat i.a) (dGet b.d (List.getD b.c.r (Int.toNat i.b) (RT.dflt RT.u32))) = (privC i b.c b.d y).r ∧ b.c.pc = (privC i b.c b.d y).pc ∧ b.c.ie = (privC i b.c b.d y).ie ∧ b.c.eie = (privC i b.c b.d y).eie ∧ b.c.epc = (privC i b.c b.d y).epc ∧ b.c.tv = (privC i b.c b.d y).tv ∧ b.c.cause = (privC i b.c b.d y).cause ∧ b.c.addr = (privC i b.c b.d y).addr ∧ b.quota = b.quota ∧ b.now = b.now ∧ b.over = b.over ∧ b.d.sec = (doD false i b.c b.d y).sec ∧ b.d.at_ = (doD false i b.c b.d y).at_ ∧ b.d.on = (doD false i b.c b.d y).on ∧ b.l = b.l ∧ b.w = b.w ∧ b.d.keys = (doD false i b.c b.d y).keys ∧ b.d.seen = (doD false i b.c b.d y).seen)) (IT (decide (i.op = 39)) (false = decide (i.op = 32) ∧ b.c.r = (privC i b.c b.d y).r ∧ b.c.pc = (privC i b.c b.d y).pc ∧ b.c.ie = (privC i b.c b.d y).ie ∧ b.c.eie = (privC i b.c b.d y).eie ∧ b.c.epc = (privC i b.c b.d y).epc ∧ b.c.tv = (privC i b.c b.d y).tv ∧ b.c.cause = (privC i b.c b.d y).cause ∧ b.c.addr = (privC i b.c b.d y).addr ∧ b.quota = b.quota ∧ b.now = b.now ∧ b.over = b.over ∧ (dSet false b.d y (List.getD b.c.r (Int.toNat i.a) (RT.dflt RT.u32))).sec = (doD false i b.c b.d y).sec ∧ (dSet false b.d y (List.getD b.c.r (Int.toNat i.a) (RT.dflt RT.u32))).at_ = (doD false i b.c b.d y).at_ ∧ (dSet false b.d y (List.getD b.c.r (Int.toNat i.a) (RT.dflt RT.u32))).on = (doD false i b.c b.d y).on ∧ b.l = b.l ∧ b.w = b.w ∧ (dSet false b.d y (List.getD b.c.r (Int.toNat i.a) (RT.dflt RT.u32))).keys = (doD false i b.c b.d y).keys ∧ (dSet false b.d y (List.getD b.c.r (Int.toNat i.a) (RT.dflt RT.u32))).seen = (doD false i b.c b.d y).seen) (IT (decide (i.op = 40)) (RQ (0 ≤ i.a ∧ i.a < ((16 : Nat) : Int)) (false = decide (i.op = 32) ∧ List.set b.c.r (Int.toNat i.a) (IntKind.wrap IntKind.u32 y) = (privC i b.c b.d y).r ∧ b.c.pc = (privC i b.c b.d y).pc ∧ b.c.ie = (privC i b.c b.d y).ie ∧ b.c.eie = (privC i b.c b.d y).eie ∧ b.c.epc = (privC i b.c b.d y).epc ∧ b.c.tv = (privC i b.c b.d y).tv ∧ b.c.cause = (privC i b.c b.d y).cause ∧ b.c.addr = (privC i b.c b.d y).addr ∧ b.quota = b.quota ∧ b.now = b.now ∧ b.over = b.over ∧ b.d.sec = (doD false i b.c b.d y).sec ∧ b.d.at_ = (doD false i b.c b.d y).at_ ∧ b.d.on = (doD false i b.c b.d y).on ∧ b.l = b.l ∧ b.w = b.w ∧ b.d.keys = (doD false i b.c b.d y).keys ∧ b.d.seen = (doD false i b.c b.d y).seen)) (IT (decide (i.op = 43)) (RQ (0 ≤ i.a ∧ i.a < ((16 : Nat) : Int)) (false = decide (i.op = 32) ∧ List.set b.c.r (Int.toNat i.a) b.c.cause = (privC i b.c b.d y).r ∧ b.c.pc = (privC i b.c b.d y).pc ∧ b.c.ie = (privC i b.c b.d y).ie ∧ b.c.eie = (privC i b.c b.d y).eie ∧ b.c.epc = (privC i b.c b.d y).epc ∧ b.c.tv = (privC i b.c b.d y).tv ∧ b.c.cause = (privC i b.c b.d y).cause ∧ b.c.addr = (privC i b.c b.d y).addr ∧ b.quota = b.quota ∧ b.now = b.now ∧ b.over = b.over ∧ b.d.sec = (doD false i b.c b.d y).sec ∧ b.d.at_ = (doD false i b.c b.d y).at_ ∧ b.d.on = (doD false i b.c b.d y).on ∧ b.l = b.l ∧ b.w = b.w ∧ b.d.keys = (doD false i b.c b.d y).keys ∧ b.d.seen = (doD false i b.c b.d y).seen)) (IT (decide (i.op = 44)) (RQ (0 ≤ i.a ∧ i.a < ((16 : Nat) : Int)) (false = decide (i.op = 32) ∧ List.set b.c.r (Int.toNat i.a) b.c.addr = (privC i b.c b.d y).r ∧ b.c.pc = (privC i b.c b.d y).pc ∧ b.c.ie = (privC i b.c b.d y).ie ∧ b.c.eie = (privC i b.c b.d y).eie ∧ b.c.epc = (privC i b.c b.d y).epc ∧ b.c.tv = (privC i b.c b.d y).tv ∧ b.c.cause = (privC i b.c b.d y).cause ∧ b.c.addr = (privC i b.c b.d y).addr ∧ b.quota = b.quota ∧ b.now = b.now ∧ b.over = b.over ∧ b.d.sec = (doD false i b.c b.d y).sec ∧ b.d.at_ = (doD false i b.c b.d y).at_ ∧ b.d.on = (doD false i b.c b.d y).on ∧ b.l = b.l ∧ b.w = b.w ∧ b.d.keys = (doD false i b.c b.d y).keys ∧ b.d.seen = (doD false i b.c b.d y).seen)) (IT (decide (i.op = 64)) (false = decide (i.op = 32) ∧ b.c.r = (privC i b.c b.d y).r ∧ b.c.pc = (privC i b.c b.d y).pc ∧ false = (privC i b.c b.d y).ie ∧ b.c.eie = (privC i b.c b.d y).eie ∧ b.c.epc = (privC i b.c b.d y).epc ∧ b.c.tv = (privC i b.c b.d y).tv ∧ b.c.cause = (privC i b.c b.d y).cause ∧ b.c.addr = (privC i b.c b.d y).addr ∧ b.quota = b.quota ∧ b.now = b.now ∧ b.over = b.over ∧ b.d.sec = (doD false i b.c b.d y).sec ∧ b.d.at_ = (doD false i b.c b.d y).at_ ∧ b.d.on = (doD false i b.c b.d y).on ∧ b.l = b.l ∧ b.w = b.w ∧ b.d.keys = (doD false i b.c b.d y).keys ∧ b.d.seen = (doD false i b.c b.d y).seen) (IT (decide (i.op = 65)) (false = decide (i.op = 32) ∧ b.c.r = (privC i b.c b.d y).r ∧ b.c.pc = (privC i b.c b.d y).pc ∧ true = (privC i b.c b.d y).ie ∧ b.c.eie = (privC i b.c b.d y).eie ∧ b.c.epc = (privC i b.c b.d y).epc ∧ b.c.tv = (privC i b.c b.d y).tv ∧ b.c.cause = (privC i b.c b.d y).cause ∧ b.c.addr = (privC i b.c b.d y).addr ∧ b.quota = b.quota ∧ b.now = b.now ∧ b.over = b.over ∧ b.d.sec = (doD false i b.c b.d y).sec ∧ b.d.at_ = (doD false i b.c b.d y).at_ ∧ b.d.on = (doD false i b.c b.d y).on ∧ b.l = b.l ∧ b.w = b.w ∧ b.d.keys = (doD false i b.c b.d y).keys ∧ b.d.seen = (doD false i b.c b.d y).seen) (IT (decide (i.op = 66)) (RQ (0 ≤ i.a ∧ i.a < ((16 : Nat) : Int)) (false = decide (i.op = 32) ∧ List.set b.c.r (Int.toNat i.a) ((2 : Int) + if b.c.ie = true then (1 : Int) else (0 : Int)) = (privC i b.c b.d y).r ∧ b.c.pc = (privC i b.c b.d y).pc ∧ b.c.ie = (privC i b.c b.d y).ie ∧ b.c.eie = (privC i b.c b.d y).eie ∧ b.c.epc = (privC i b.c b.d y).epc ∧ b.c.tv = (privC i b.c b.d y).tv ∧ b.c.cause = (privC i b.c b.d y).cause ∧ b.c.addr = (privC i b.c b.d y).addr ∧ b.quota = b.quota ∧ b.now = b.now ∧ b.over = b.over ∧ b.d.sec = (doD false i b.c b.d y).sec ∧ b.d.at_ = (doD false i b.c b.d y).at_ ∧ b.d.on = (doD false i b.c b.d y).on ∧ b.l = b.l ∧ b.w = b.w ∧ b.d.keys = (doD false i b.c b.d y).keys ∧ b.d.seen = (doD false i b.c b.d y).seen)) (IT (decide (i.op = 67)) (false = decide (i.op = 32) ∧ b.c.r = (privC i b.c b.d y).r ∧ b.c.pc = (privC i b.c b.d y).pc ∧ (!decide (List.getD b.c.r (Int.toNat i.a) (RT.dflt RT.u32) % 2 = (0 : Int))) = (privC i b.c b.d y).ie ∧ b.c.eie = (privC i b.c b.d y).eie ∧ b.c.epc = (privC i b.c b.d y).epc ∧ b.c.tv = (privC i b.c b.d y).tv ∧ b.c.cause = (privC i b.c b.d y).cause ∧ b.c.addr = (privC i b.c b.d y).addr ∧ b.quota = b.quota ∧ b.now = b.now ∧ b.over = b.over ∧ b.d.sec = (doD false i b.c b.d y).sec ∧ b.d.at_ = (doD false i b.c b.d y).at_ ∧ b.d.on = (doD false i b.c b.d y).on ∧ b.l = b.l ∧ b.w = b.w ∧ b.d.keys = (doD false i b.c b.d y).keys ∧ b.d.seen = (doD false i b.c b.d y).seen) (false = decide (i.op = 32) ∧ b.c.r = (privC i b.c b.d y).r ∧ b.c.pc = (privC i b.c b.d y).pc ∧ b.c.ie = (privC i b.c b.d y).ie ∧ b.c.eie = (privC i b.c b.d y).eie ∧ b.c.epc = (privC i b.c b.d y).epc ∧ b.c.tv = (privC i b.c b.d y).tv ∧ b.c.cause = (privC i b.c b.d y).cause ∧ b.c.addr = (privC i b.c b.d y).addr ∧ b.quota = b.quota ∧ b.now = b.now ∧ b.over = b.over ∧ b.d.sec = (doD false i b.c b.d y).sec ∧ b.d.at_ = (doD false i b.c b.d y).at_ ∧ b.d.on = (doD false i b.c b.d y).on ∧ b.l = b.l ∧ b.w = b.w ∧ b.d.keys = (doD false i b.c b.d y).keys ∧ b.d.seen = (doD false i b.c b.d y).seen)))))))))))))))))) := by kernel_rfl
theorem gePriv (y : Int) (i : In5) (b : Mc) (hv : In5.ok i = true ∧ mcOk b) : Box (TePriv gl y i b) := by
  refine .of (runePriv gl y i b) ?_
  obtain ⟨hi, hk, hs, _⟩ := hv
  obtain ⟨⟨a1, a2⟩, ⟨b1, b2⟩, _⟩ := word_rng hi
  have A : (0 : Int) ≤ i.a ∧ i.a < (↑(16 : Nat) : Int) := ⟨a1, by omega⟩
  have B : (0 : Int) ≤ i.b ∧ i.b < (↑(16 : Nat) : Int) := ⟨b1, by omega⟩
  have d0 : RT.dflt RT.u32 = (0 : Int) := rfl
  rw [privC_def, doD_def]
  refine ⟨A, fun _ => ⟨B, fun _ => ⟨fun h => ⟨hs, fun _ => ?_⟩, fun n1 => ⟨fun h => ?_, fun n2 => ⟨fun h => ?_, fun n3 => ⟨fun h => ⟨hs, fun _ => ?_⟩, fun n4 => ⟨fun h => ⟨hk, fun _ => ⟨A, fun _ => ?_⟩⟩, fun n5 => ⟨fun h => ⟨hs, fun _ => ?_⟩, fun n6 => ⟨fun h => ⟨A, fun _ => ?_⟩, fun n7 => ⟨fun h => ?_, fun n8 => ⟨fun h => ⟨A, fun _ => ?_⟩, fun n9 => ⟨fun h => ⟨A, fun _ => ?_⟩, fun n10 => ⟨fun h => ⟨A, fun _ => ?_⟩, fun n11 => ⟨fun h => ?_, fun n12 => ⟨fun h => ?_, fun n13 => ⟨fun h => ⟨A, fun _ => ?_⟩, fun n14 => ⟨fun h => ?_, fun n15 => ?_⟩⟩⟩⟩⟩⟩⟩⟩⟩⟩⟩⟩⟩⟩⟩⟩⟩
  all_goals
    clear A B hi hk hs
    have odd : ∀ z : Int, (!decide (z % 2 = 0)) = decide (z % 2 = 1) := fun z => by
      rcases Int.emod_two_eq z with e | e <;> simp [e]
    have two : ∀ z : Bool, (2 + if z = true then 1 else 0) = (if z = true then (3 : Int) else 2) := fun z => by cases z <;> rfl
    simp only [decide_eq_true_eq, decide_eq_false_iff_not] at *
    first | (simp [privC0, doC1, doD0, devC, devD, doIs, returnC, rg, d0, *]; done) | trace_state
theorem cePriv : Con ea has gl 40 kePriv := by
  refine gen_mk Tryz.func40 150 4 (con := [(74, krEnd), (81, krReturn), (82, krOut), (83, krIn), (84, krPut), (85, krGet), (86, krSet), (87, krone)]) ⟨crEnd, crReturn, crOut, crIn, crPut, crGet, crSet, crone, trivial⟩ (fun hA hr hv => ?_) (by kernel_rfl) (by kernel_rfl) Tryz.ntmps40
  unfold kePriv at hr; split at hr
  · rename_i q d' y op a1 a2 a3 imm
    simp only [Acc.run] at hr
    split at hr
    · rename_i m x pc ie eie epc tv ca ad qu d no ov w hq
      simp only [Acc.run] at hr
      split at hr
      · rename_i p hm
        simp only [Acc.run] at hr
        split at hr
        · rename_i k e sc at_ on hd
          simp only [Acc.run] at hr
          split at hr
          · rename_i l hp
            simp only [Acc.run] at hr
            split at hr
            · rename_i us hw
              simp only [Acc.run] at hr
              split at hr
              · rename_i ks hk
                simp only [Acc.run] at hr
                split at hr
                · rename_i se he
                  split at hr
                  · rename_i hnd
                    split at hr
                    · rename_i heq; have heq := (Nat.eq_of_beq_eq_true heq).symm; subst heq
                      have := ret_ok hr; subst this
                      refine ⟨[q, m, d, p], [w, k, e], (eC0 l x pc ie eie epc tv ca ad ks sc on at_ se qu no ov us), [.ptr 0 1, .ptr 2 0, .int .i64 y, .agg [.int .i64 op, .int .i64 a1, .int .i64 a2, .int .i64 a3, .int .u32 imm]], (S1 [.ptr 0 1, .ptr 2 0, .int .i64 (.full y.val), .agg [.int .i64 (.full (⟨op.val, a1.val, a2.val, a3.val, imm.val⟩ : In5).op), .int .i64 (.full (⟨op.val, a1.val, a2.val, a3.val, imm.val⟩ : In5).a), .int .i64 (.full (⟨op.val, a1.val, a2.val, a3.val, imm.val⟩ : In5).b), .int .i64 (.full (⟨op.val, a1.val, a2.val, a3.val, imm.val⟩ : In5).c), .int .u32 (.full (⟨op.val, a1.val, a2.val, a3.val, imm.val⟩ : In5).imm)]] (eHpO (mcV l x pc ie eie epc tv ca ad ks sc on at_ se qu no ov us)) 7 150), [], .bool (.sym (decide ((⟨op.val, a1.val, a2.val, a3.val, imm.val⟩ : In5).op = 32))), eHp ({ (mcV l x pc ie eie epc tv ca ad ks sc on at_ se qu no ov us) with c := privC (⟨op.val, a1.val, a2.val, a3.val, imm.val⟩ : In5) (mcV l x pc ie eie epc tv ca ad ks sc on at_ se qu no ov us).c (mcV l x pc ie eie epc tv ca ad ks sc on at_ se qu no ov us).d y.val, d := doD false (⟨op.val, a1.val, a2.val, a3.val, imm.val⟩ : In5) (mcV l x pc ie eie epc tv ca ad ks sc on at_ se qu no ov us).c (mcV l x pc ie eie epc tv ca ad ks sc on at_ se qu no ov us).d y.val }), 3, rfl, rfl, ⟨rfl, rfl, rfl⟩, hnd, ⟨hq, hm, hd, hp, hw, hk, he, trivial⟩, rfl, rfl, .of (fitePriv gl y op a1 a2 a3 imm x pc ie eie epc tv ca ad qu no ov sc on at_ l us ks se) (by simp [nilR]), rfl, (fun W R ρ0 own0 hown => noSums (by kernel_rfl)), gePriv y.val ⟨op.val, a1.val, a2.val, a3.val, imm.val⟩ ⟨l, ⟨x, pc.val, ie.val, eie.val, epc.val, tv.val, ca.val, ad.val⟩, ⟨ks, sc, on.val, at_.val, se⟩, qu.val, no.val, ov.val, us⟩ (hv _ rfl)⟩
                    · cases hr
                  · cases hr
                · cases hr
              · cases hr
            · cases hr
          · cases hr
        · cases hr
      · cases hr
    · cases hr
  · cases hr
abbrev krFramesB := bor [.box [.ro .u32]] krFrames
theorem crFramesB : Con ea has gl 52 krFramesB := bor_ok crFrames _
theorem enF_lt (w : Int) : enF w < 1024 := by
  unfold enF; split
  · rename_i h1
    unfold enOk at h1
    simp only [Bool.or_eq_true, Bool.and_eq_true, decide_eq_true_eq] at h1
    omega
  · omega
theorem wr_out {l : List Int} {a w : Int} (h : (l.length : Int) ≤ a) : wr l a w = l := by
  unfold wr; rw [if_neg]
  rw [inM_iff]; omega
def HeSync' (b : Mc) (i : Nat) : SState := { fr := [(0, .ptr 0 0), (2, .int .i64 (.sym i 0 1000000))], hp := eHpO (syB b i), next := 7, sz := 72 }
def XeSync' (b : Mc) : SState := { fr := [(0, .ptr 0 0)], hp := eHpO (syB b b.w.length), next := 7, sz := 72 }
def LeSync' (b : Mc) : LSum := ⟨HeSync' b 0, fun k => k (.exit 0) (XeSync' b), mcOk b ∧ few b.l ∧ b.l.length % 16 = 0⟩
theorem beSync' (gl : List (Nat × SVal)) (b : Mc) (i : Nat) : (Tr.sat (rnd1 (envK gl [(77, krReadB), (88, krOfBits), (52, krFramesB), (22, krWrite)] 4) (fun _ => True) (b.w.length) (HeSync' b) 0 (XeSync' b) i) (run (envK gl [(77, krReadB), (88, krOfBits), (52, krFramesB), (22, krWrite)] 4) [] (loopN (bodyOf Tryz.f42) 0) (HeSync' b i) .leaf)) = (
  IT (decide ((i : Int) < ((List.length (syB b i).w) : Int))) (RQ (0 ≤ (i : Int) ∧ (i : Int) < ((List.length (syB b i).w) : Int)) (RQ ((16 : Int) ≠ (0 : Int)) (IT (enOk (rd (syB b i).l (IntKind.wrap IntKind.i64 (Int.tdiv (List.getD (syB b i).w (Int.toNat (i : Int)) (RT.dflt (RT.flat (FK.int IntKind.i64) [FK.int IntKind.u32]))).fst (16 : Int)))) && enT (rd (syB b i).l (IntKind.wrap IntKind.i64 (Int.tdiv (List.getD (syB b i).w (Int.toNat (i : Int)) (RT.dflt (RT.flat (FK.int IntKind.i64) [FK.int IntKind.u32]))).fst (16 : Int)))) && decide (enF (rd (syB b i).l (IntKind.wrap IntKind.i64 (Int.tdiv (List.getD (syB b i).w (Int.toNat (i : Int)) (RT.dflt (RT.flat (FK.int IntKind.i64) [FK.int IntKind.u32]))).fst (16 : Int)))) < frN (syB b i).l)) (RQ ((16 : Int) ≠ (0 : Int)) (i < List.length b.w ∧ True ∧ (i : Int) + 1 = ((i + 1) : Int) ∧ (0 ≤ ((i + 1) : Int) ∧ ((i + 1) : Int) ≤ 1000000) ∧ EgE ((syB b i).c) ((syB b i).d) (wr (syB b i).l (IntKind.wrap IntKind.i64 (enF (rd (syB b i).l (IntKind.wrap IntKind.i64 (Int.tdiv (List.getD (syB b i).w (Int.toNat (i : Int)) (RT.dflt (RT.flat (FK.int IntKind.i64) [FK.int IntKind.u32]))).fst (16 : Int)))) * 16 + Int.tmod (List.getD (syB b i).w (Int.toNat (i : Int)) (RT.dflt (RT.flat (FK.int IntKind.i64) [FK.int IntKind.u32]))).fst (16 : Int))) (List.getD (syB b i).w (Int.toNat (i : Int)) (RT.dflt (RT.flat (FK.int IntKind.i64) [FK.int IntKind.u32]))).snd) ((syB b i).quota) ((syB b i).now) ((syB b i).over) ((syB b i).w) (syB b (i + 1)))) (i < List.length b.w ∧ True ∧ (i : Int) + 1 = ((i + 1) : Int) ∧ (0 ≤ ((i + 1) : Int) ∧ ((i + 1) : Int) ≤ 1000000) ∧ EqE (syB b i) (syB b (i + 1)))))) (Nat.beq (0 : Nat) (0 : Nat) = true ∧ EqE (syB b i) (syB b (List.length b.w)))) := by kernel_rfl
theorem leSync' (b : Mc) {W : World} {R own0 : Nat → Prop} {ρ0 : Nat → Option Value} (hown : HownOk (envK gl [(77, krReadB), (88, krOfBits), (52, krFramesB), (22, krWrite)] 4) own0 ρ0) : LOk Tryz.prog (envK gl [(77, krReadB), (88, krOfBits), (52, krFramesB), (22, krWrite)] 4) (ctx ea has) gl W R own0 ρ0 (loopN (bodyOf Tryz.f42) 0) (LeSync' b) := by
  refine loop1_ok (J := fun _ => True) (N := b.w.length) (H := HeSync' b) (X := XeSync' b) (envK_ok (con := [(77, krReadB), (88, krOfBits), (52, krFramesB), (22, krWrite)]) ⟨crReadB, crOfBits, crFramesB, crWrite, trivial⟩) hown (ls := fun i => []) (fun i => noSums (by kernel_rfl)) (fun hm i hi hj => ?_) 0 (fun hm => by first | exact Nat.zero_le _ | omega) (fun hm => trivial)
  rw [beSync' gl b i]
  obtain ⟨⟨k1, k2, k3, k4⟩, k5, k6⟩ := hm
  unfold few at k3
  refine ⟨fun h => ?_, fun h => ?_⟩
  · have h := of_decide_eq_true h
    have hlt : i < b.w.length := by have : ((syB b i).w.length : Int) = b.w.length := rfl; omega
    have hs := syB_step b hlt
    have hu : 0 ≤ (b.w.getD i (0, 0)).1 ∧ (b.w.getD i (0, 0)).1 < 128 := k4 _ (by rw [List.getD_eq_getElem?_getD, List.getElem?_eq_getElem hlt]; exact List.getElem_mem hlt)
    have e : (syB b i).w.getD (i : Int).toNat (RT.flat (FK.int IntKind.i64) [FK.int IntKind.u32]).dflt = b.w.getD i (0, 0) := rfl
    have hL : (syB b i).l.length = b.l.length := syncL_len _ _
    simp only [e]
    generalize b.w.getD i (0, 0) = u at *
    have e1 : IntKind.i64.wrap (u.1.tdiv 16) = u.1 / 16 := by rw [Int.tdiv_eq_ediv_of_nonneg hu.1, IntKind.wrap_i64]; omega
    have e2 : u.1.tmod 16 = u.1 % 16 := Int.tmod_eq_emod_of_nonneg hu.1
    rw [e1, e2]
    have T : ∀ x, (enOk x && enT x) = enT x := fun x => by unfold enT; cases enOk x <;> simp
    rw [T]
    refine ⟨⟨by omega, by show (i : Int) < b.w.length; omega⟩, fun _ => ⟨by decide, fun _ => ⟨fun g => ⟨by decide, fun _ => ?_⟩, fun g => ?_⟩⟩⟩
    · refine ⟨hlt, trivial, by trivial, by omega, rfl, rfl, rfl, rfl, rfl, rfl, rfl, rfl, rfl, rfl, rfl, rfl, rfl, rfl, ?_, rfl, rfl, rfl⟩
      rw [Bool.and_eq_true] at g
      rw [hs]; unfold updL; rw [if_pos g.1]
    · refine ⟨hlt, trivial, by trivial, by omega, rfl, rfl, rfl, rfl, rfl, rfl, rfl, rfl, rfl, rfl, rfl, rfl, rfl, rfl, ?_, rfl, rfl, rfl⟩
      rw [hs]; unfold updL
      split
      · rename_i ht
        rw [ht, Bool.true_and] at g
        have g := of_decide_eq_false g
        refine (wr_out ?_).symm
        have fr : frN (syB b i).l = ((syB b i).l.length : Int) / 16 := rfl
        rw [fr] at g
        have en : enF (rd (syB b i).l (u.1 / 16)) < 1024 := enF_lt _
        rw [IntKind.wrap_i64, hL]
        rw [hL] at g
        omega
      · rfl
  · have h := of_decide_eq_false h
    have e : syB b i = syB b b.w.length := by
      have : ((syB b i).w.length : Int) = b.w.length := rfl
      unfold syB; rw [List.take_of_length_le (by omega), List.take_of_length_le (Nat.le_refl _)]
    exact ⟨rfl, ec_eq e⟩
def keSync : List SVal → Nat → Acc ORes := fun a n => match a with
  | [.ptr q 0] => .look q fun cc => match cc with | some (.cells [.ptr m 0, .arr .u32 16 x, .int .u32 pc, .bool ie, .bool eie, .int .u32 epc, .int .u32 tv, .int .u32 ca, .int .u32 ad, .int .i64 qu, .ptr d 0, .int .i64 no, .bool ov, .own w]) => (.look m fun cc => match cc with | some (.cells [.own p]) => (.look d fun cc => match cc with | some (.cells [.own k, .own e, .arr .u32 16 sc, .int .i64 at_, .bool on]) => (.look p fun cc => match cc with | some (.recs .u32 l) => (.look w fun cc => match cc with | some (.recs (.flat (.int .i64) [.int .u32]) us) => (.look k fun cc => match cc with | some (.recs .u32 ks) => (.look e fun cc => match cc with | some (.recs (.flat (.int .i64) [.int .u32, .int .u32]) se) => (match nodupB [q, m, d, p, w, k, e] with | true => .ret (genR [q, m, d, p] (gone [w, k, e]) n (.tuple []) (eHp (syncM (mcV l x pc ie eie epc tv ca ad ks sc on at_ se qu no ov us))) 3 (some (mcOk (mcV l x pc ie eie epc tv ca ad ks sc on at_ se qu no ov us) ∧ few (mcV l x pc ie eie epc tv ca ad ks sc on at_ se qu no ov us).l ∧ (mcV l x pc ie eie epc tv ca ad ks sc on at_ se qu no ov us).l.length % 16 = 0))) | false => .fail "eSync") | _ => .fail "eSync") | _ => .fail "eSync") | _ => .fail "eSync") | _ => .fail "eSync") | _ => .fail "eSync") | _ => .fail "eSync") | _ => .fail "eSync"
  | _ => .fail "eSync"
theorem fiteSync (gl : List (Nat × SVal)) (x : List Int) (pc : SI) (ie eie : SB) (epc tv ca ad : SI) (qu no : SI) (ov : SB) (sc : List Int) (on : SB) (at_ : SI) (l : List Int) (us : List (Int × Int)) (ks : List Int) (se : List (Int × Int × Int)) : (fits (envK gl [(77, krReadB), (88, krOfBits), (52, krFramesB), (22, krWrite)] 4) (S1 [.ptr 0 0] (numC 0 (eC0 l x pc ie eie epc tv ca ad ks sc on at_ se qu no ov us)) 7 72) (S1 [.ptr 0 0] (eHpO (mcV l x pc ie eie epc tv ca ad ks sc on at_ se qu no ov us)) 7 72)) = (
  x = x ∧ SI.val pc = SI.val pc ∧ SB.val ie = SB.val ie ∧ SB.val eie = SB.val eie ∧ SI.val epc = SI.val epc ∧ SI.val tv = SI.val tv ∧ SI.val ca = SI.val ca ∧ SI.val ad = SI.val ad ∧ SI.val qu = SI.val qu ∧ SI.val no = SI.val no ∧ SB.val ov = SB.val ov ∧ sc = sc ∧ SI.val at_ = SI.val at_ ∧ SB.val on = SB.val on ∧ l = l ∧ us = us ∧ ks = ks ∧ se = se) := by kernel_rfl
abbrev TeSync (gl : List (Nat × SVal)) (b : Mc) : Prop := Tr.sat (newQ (envK gl [(77, krReadB), (88, krOfBits), (52, krFramesB), (22, krWrite)] 4) (.tuple []) (eHp (syncM b)) (4 + 3)) (run (envK gl [(77, krReadB), (88, krOfBits), (52, krFramesB), (22, krWrite)] 4) [(1, LeSync' b)] (bodyOf Tryz.f42) (S1 [.ptr 0 0] (eHpO b) 7 72) (ends (envK gl [(77, krReadB), (88, krOfBits), (52, krFramesB), (22, krWrite)] 4) Tryz.f42.results.toList))
theorem runeSync (gl : List (Nat × SVal)) (b : Mc) : (TeSync gl b) = (
  RQ ((mcOk b ∧ few b.l ∧ List.length b.l % 16 = (0 : Nat)) ∧ (0 : Int) = ((0 : Nat) : Int) ∧ EqE b (syB b (0 : Nat))) ((syB b (List.length b.w)).c.r = (syncM b).c.r ∧ (syB b (List.length b.w)).c.pc = (syncM b).c.pc ∧ (syB b (List.length b.w)).c.ie = (syncM b).c.ie ∧ (syB b (List.length b.w)).c.eie = (syncM b).c.eie ∧ (syB b (List.length b.w)).c.epc = (syncM b).c.epc ∧ (syB b (List.length b.w)).c.tv = (syncM b).c.tv ∧ (syB b (List.length b.w)).c.cause = (syncM b).c.cause ∧ (syB b (List.length b.w)).c.addr = (syncM b).c.addr ∧ (syB b (List.length b.w)).quota = (syncM b).quota ∧ (syB b (List.length b.w)).now = (syncM b).now ∧ (syB b (List.length b.w)).over = (syncM b).over ∧ (syB b (List.length b.w)).d.sec = (syncM b).d.sec ∧ (syB b (List.length b.w)).d.at_ = (syncM b).d.at_ ∧ (syB b (List.length b.w)).d.on = (syncM b).d.on ∧ (syB b (List.length b.w)).l = (syncM b).l ∧ (syncM b).w = @List.nil (RT.ty updT) ∧ (syB b (List.length b.w)).d.keys = (syncM b).d.keys ∧ (syB b (List.length b.w)).d.seen = (syncM b).d.seen)) := by kernel_rfl
theorem geSync (b : Mc) (hv : mcOk b ∧ few b.l ∧ b.l.length % 16 = 0) : Box (TeSync gl b) := by
  refine .of (runeSync gl b) ?_
  have e0 : b = syB b 0 := by unfold syB syncL; simp
  have e1 : syB b b.w.length = { syncM b with w := b.w } := by unfold syB syncM; rw [List.take_length]
  refine ⟨⟨hv, rfl, ec_eq e0⟩, fun _ => ?_⟩
  rw [e1]
  exact ⟨rfl, rfl, rfl, rfl, rfl, rfl, rfl, rfl, rfl, rfl, rfl, rfl, rfl, rfl, rfl, rfl, rfl, rfl⟩
theorem ceSync : Con ea has gl 42 keSync := by
  refine gen_mk Tryz.func42 72 4 (con := [(77, krReadB), (88, krOfBits), (52, krFramesB), (22, krWrite)]) ⟨crReadB, crOfBits, crFramesB, crWrite, trivial⟩ (fun hA hr hv => ?_) (by kernel_rfl) (by kernel_rfl) Tryz.ntmps42
  unfold keSync at hr; split at hr
  · rename_i q
    simp only [Acc.run] at hr
    split at hr
    · rename_i m x pc ie eie epc tv ca ad qu d no ov w hq
      simp only [Acc.run] at hr
      split at hr
      · rename_i p hm
        simp only [Acc.run] at hr
        split at hr
        · rename_i k e sc at_ on hd
          simp only [Acc.run] at hr
          split at hr
          · rename_i l hp
            simp only [Acc.run] at hr
            split at hr
            · rename_i us hw
              simp only [Acc.run] at hr
              split at hr
              · rename_i ks hk
                simp only [Acc.run] at hr
                split at hr
                · rename_i se he
                  split at hr
                  · rename_i hnd
                    have := ret_ok hr; subst this
                    refine ⟨[q, m, d, p], [w, k, e], (eC0 l x pc ie eie epc tv ca ad ks sc on at_ se qu no ov us), [.ptr 0 0], (S1 [.ptr 0 0] (eHpO (mcV l x pc ie eie epc tv ca ad ks sc on at_ se qu no ov us)) 7 72), [(1, LeSync' (mcV l x pc ie eie epc tv ca ad ks sc on at_ se qu no ov us))], .tuple [], eHp (syncM (mcV l x pc ie eie epc tv ca ad ks sc on at_ se qu no ov us)), 3, rfl, rfl, ⟨rfl, rfl, rfl⟩, hnd, ⟨hq, hm, hd, hp, hw, hk, he, trivial⟩, rfl, rfl, .of (fiteSync gl x pc ie eie epc tv ca ad qu no ov sc on at_ l us ks se) (by simp [nilR]), rfl, (fun W R ρ0 own0 hown => hl1 (by kernel_rfl) (by kernel_rfl) (leSync' (mcV l x pc ie eie epc tv ca ad ks sc on at_ se qu no ov us) hown)), geSync ⟨l, ⟨x, pc.val, ie.val, eie.val, epc.val, tv.val, ca.val, ad.val⟩, ⟨ks, sc, on.val, at_.val, se⟩, qu.val, no.val, ov.val, us⟩ (hv _ rfl)⟩
                  · cases hr
                · cases hr
              · cases hr
            · cases hr
          · cases hr
        · cases hr
      · cases hr
    · cases hr
  · cases hr
def keNew : List SVal → Nat → Acc ORes := fun a n => match a with | [.rop [.ro .u32 l], .agg [.arr .u32 16 x, .int .u32 pc, .bool ie, .bool eie, .int .u32 epc, .int .u32 tv, .int .u32 ca, .int .u32 ad], .int .i64 qu] => .ret (newR n (.ptr 0 0) (eHp ⟨l, (⟨x, pc.val, ie.val, eie.val, epc.val, tv.val, ca.val, ad.val⟩ : Cpu), Dv.nul, qu.val, 0, false, []⟩) 7 (some (few l))) | _ => .fail "eNew"
theorem argeNew (l : List Int) (x : List Int) (pc : SI) (ie eie : SB) (epc tv ca ad : SI) (qu : SI) : (all (subL tAtN none' [] deep [.rop [.ro .u32 l], .agg [.arr .u32 16 x, .int .u32 pc, .bool ie, .bool eie, .int .u32 epc, .int .u32 tv, .int .u32 ca, .int .u32 ad], .int .i64 qu] [.rop [.ro .u32 l], .agg (⟨x, pc.val, ie.val, eie.val, epc.val, tv.val, ca.val, ad.val⟩ : Cpu).enc, .int .i64 (.full qu.val)])) = (
  l = l ∧ x = x ∧ SI.val pc = SI.val pc ∧ SB.val ie = SB.val ie ∧ SB.val eie = SB.val eie ∧ SI.val epc = SI.val epc ∧ SI.val tv = SI.val tv ∧ SI.val ca = SI.val ca ∧ SI.val ad = SI.val ad ∧ SI.val qu = SI.val qu) := by kernel_rfl
abbrev TeNew (gl : List (Nat × SVal)) (l : List Int) (p : Cpu) (qu : Int) : Prop := Tr.sat (newQ (env gl [(27, krClone)]) (.ptr 0 0) (eHp ⟨l, p, Dv.nul, qu, 0, false, []⟩) 7) (run (env gl [(27, krClone)]) [] (bodyOf Tryz.f8) (start [.rop [.ro .u32 l], .agg p.enc, .int .i64 (.full qu)] 15) (ends (env gl [(27, krClone)]) Tryz.f8.results.toList))
theorem runeNew (gl : List (Nat × SVal)) (l : List Int) (p : Cpu) (qu : Int) : (TeNew gl l p qu) = (
  RQ (few l) (p.r = p.r ∧ p.pc = p.pc ∧ p.ie = p.ie ∧ p.eie = p.eie ∧ p.epc = p.epc ∧ p.tv = p.tv ∧ p.cause = p.cause ∧ p.addr = p.addr ∧ qu = qu ∧ (0 : Int) = (0 : Int) ∧ false = false ∧ List.replicate (16 : Nat) (0 : RT.ty RT.u32) = Dv.nul.sec ∧ (0 : Int) = Dv.nul.at_ ∧ false = Dv.nul.on ∧ l = l ∧ @List.nil (Int × Int) = @List.nil (RT.ty updT) ∧ Dv.nul.keys = @List.nil (RT.ty RT.u32) ∧ Dv.nul.seen = @List.nil (RT.ty seenT))) := by kernel_rfl
theorem geNew (l : List Int) (p : Cpu) (qu : Int)  (hv : few l) : Box (TeNew gl l p qu) := by
  refine .of (runeNew gl l p qu) ?_
  exact ⟨hv, fun _ => ⟨rfl, rfl, rfl, rfl, rfl, rfl, rfl, rfl, rfl, rfl, rfl, rfl, rfl, rfl, rfl, rfl, rfl, rfl⟩⟩
theorem ceNew : Con ea has gl 8 keNew := by
  refine new_mkB Tryz.func8 15 (con := [(27, krClone)]) ⟨crClone, trivial⟩ (fun hA hr hv => ?_) (by kernel_rfl) (by kernel_rfl) Tryz.ntmps8
  unfold keNew at hr; split at hr
  · rename_i l x pc ie eie epc tv ca ad qu
    have := ret_ok hr; subst this
    replace hv := hv _ rfl
    exact ⟨_, [], _, _, _, ⟨rfl, rfl, rfl⟩, .of (argeNew l x pc ie eie epc tv ca ad qu) (by simp), rfl, rfl, (fun W R ρ0 own0 hown => noSums (by kernel_rfl)), geNew l ⟨x, pc.val, ie.val, eie.val, epc.val, tv.val, ca.val, ad.val⟩ qu.val  hv⟩
  · cases hr
abbrev keNewB := borN [.box [.ro .u32], .any, .any] keNew
theorem ceNewB : Con ea has gl 8 keNewB := borN_ok ceNew _
end
end Go.Proofs.YtpjccdncokamlaaGreatDoor

