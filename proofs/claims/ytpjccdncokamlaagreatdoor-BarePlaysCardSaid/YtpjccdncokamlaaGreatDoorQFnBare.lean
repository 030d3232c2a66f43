/- Contracts. -/
import Derived.Test.YtpjccdncokamlaaGreatDoorQFnDev
set_option maxHeartbeats 4000000
set_option linter.unusedVariables false
set_option linter.unusedSimpArgs false
namespace Go.Proofs.YtpjccdncokamlaaGreatDoor
open Go.RowKit Go.Sy Go.Fac
section
variable {ea : Ear} {has : Int → Prop} {gl : List (Nat × SVal)}
abbrev mHp (b : Mc) : List (Nat × Cont) := [(0, .cells [.ptr 1 0, .arr .u32 16 b.c.r, .int .u32 (.full b.c.pc), .bool (.sym b.c.ie), .bool (.sym b.c.eie), .int .u32 (.full b.c.epc), .int .u32 (.full b.c.tv), .int .u32 (.full b.c.cause), .int .u32 (.full b.c.addr), .ptr 2 0, .int .i64 (.full b.quota), .int .i64 (.full b.now), .bool (.sym b.over), .own 4]), (1, .cells [.own 3]), (2, .cells (dCells 5 6 b.d)), (3, .recs .u32 b.l), (4, .recs updT b.w), (5, .recs .u32 b.d.keys), (6, .recs seenT b.d.seen)]
abbrev mHpO (b : Mc) : List (Nat × Option Cont) := [(0, some (.cells [.ptr 1 0, .arr .u32 16 b.c.r, .int .u32 (.full b.c.pc), .bool (.sym b.c.ie), .bool (.sym b.c.eie), .int .u32 (.full b.c.epc), .int .u32 (.full b.c.tv), .int .u32 (.full b.c.cause), .int .u32 (.full b.c.addr), .ptr 2 0, .int .i64 (.full b.quota), .int .i64 (.full b.now), .bool (.sym b.over), .own 4])), (1, some (.cells [.own 3])), (2, some (.cells (dCells 5 6 b.d))), (3, some (.recs .u32 b.l)), (4, some (.recs updT b.w)), (5, some (.recs .u32 b.d.keys)), (6, some (.recs seenT b.d.seen))]
def mcOk (b : Mc) : Prop := few b.d.keys ∧ few b.d.seen ∧ few b.w ∧ updOk b.w
theorem devC_pc (i : In5) (p : Cpu) (d : Dv) (z : Int) : (devC i p d z).pc = p.pc := by
  unfold devC; repeat' split
  all_goals rfl
theorem set_twice (r : List Int) (k : Nat) : r.set k (IntKind.u32.wrap ((r.set k 2)[k]?.getD 0 + 1)) = r.set k 3 := by
  by_cases h : k < r.length
  · rw [List.getElem?_set_self h]; rfl
  · rw [List.set_eq_of_length_le (by omega), List.set_eq_of_length_le (by omega)]
theorem mc_eq {a b : Mc} (h : a = b) : a.c.r = b.c.r ∧ a.c.pc = b.c.pc ∧ a.c.ie = b.c.ie ∧ a.c.eie = b.c.eie ∧ a.c.epc = b.c.epc ∧ a.c.tv = b.c.tv ∧ a.c.cause = b.c.cause ∧ a.c.addr = b.c.addr ∧ a.quota = b.quota ∧ a.now = b.now ∧ a.over = b.over ∧
    a.d.sec = b.d.sec ∧ a.d.on = b.d.on ∧ a.d.at_ = b.d.at_ ∧ a.l = b.l ∧ a.w = b.w ∧ a.d.keys = b.d.keys ∧ a.d.seen = b.d.seen := by
  subst h; exact ⟨rfl, rfl, rfl, rfl, rfl, rfl, rfl, rfl, rfl, rfl, rfl, rfl, rfl, rfl, rfl, rfl, rfl, rfl⟩
theorem u32_second {C : Ctx} {W : World} {R : Nat → Prop} {ρ : Nat → Option Value} {a : SVal} {y : SI} {l : List SVal} {vs : List Value} (h : DenA C W R ρ (a :: .int .u32 y :: l) vs) : 0 ≤ y.val := by
  obtain ⟨_, h⟩ := DenA.tl h; exact (DenA.i0 h).lo
def syB (b : Mc) (i : Nat) : Mc := { b with l := syncL b.l (b.w.take i) }
theorem syB_step (b : Mc) {i : Nat} (h : i < b.w.length) : (syB b (i + 1)).l = updL (syB b i).l (b.w.getD i (0, 0)) := by
  unfold syB
  simp only
  rw [List.take_add_one, List.getElem?_eq_getElem h]
  simp only [Option.toList_some]
  rw [syncL_snoc, List.getD_eq_getElem?_getD, List.getElem?_eq_getElem h]; rfl
def HbSync' (b : Mc) (i : Nat) : SState := { fr := [(0, .ptr 0 0), (11, .own 4), (12, .int .i64 (.full b.w.length)), (13, .int .i64 (.sym i 0 1000000))], hp := mHpO (syB b i), next := 7, sz := 56 }
def XbSync' (b : Mc) : SState := { fr := [(0, .ptr 0 0)], hp := mHpO (syB b b.w.length), next := 7, sz := 56 }
def LbSync' (b : Mc) : LSum := ⟨HbSync' b 0, fun k => k (.exit 0) (XbSync' b), mcOk b ∧ few b.l⟩
theorem bbSync' (gl : List (Nat × SVal)) (b : Mc) (i : Nat) : (Tr.sat (rnd1 (envK gl [(102, kmReadB), (107, kmOf), (21, kmWrite)] 4) (fun _ => True) (b.w.length) (HbSync' b) 0 (XbSync' b) i) (run (envK gl [(102, kmReadB), (107, kmOf), (21, kmWrite)] 4) [] (loopN (bodyOf Tryz.f71) 0) (HbSync' b i) .leaf)) = (
  IT (decide ((i : Int) < ((List.length b.w) : Int))) (RQ (0 ≤ (i : Int) ∧ (i : Int) < ((List.length (syB b i).w) : Int)) (RQ ((16 : Int) ≠ (0 : Int)) (IT (enOk (rd (syB b i).l (IntKind.wrap IntKind.i64 (Int.tdiv (List.getD (syB b i).w (Int.toNat (i : Int)) (RT.dflt (RT.flat (FK.int IntKind.i64) [FK.int IntKind.u32]))).fst (16 : Int)))) && enT (rd (syB b i).l (IntKind.wrap IntKind.i64 (Int.tdiv (List.getD (syB b i).w (Int.toNat (i : Int)) (RT.dflt (RT.flat (FK.int IntKind.i64) [FK.int IntKind.u32]))).fst (16 : Int))))) (RQ ((16 : Int) ≠ (0 : Int)) (i < List.length b.w ∧ True ∧ ((List.length b.w) : Int) = ((List.length b.w) : Int) ∧ (i : Int) + 1 = ((i + 1) : Int) ∧ (0 ≤ ((i + 1) : Int) ∧ ((i + 1) : Int) ≤ 1000000) ∧ EgM ((syB b i).c) ((syB b i).d) (wr (syB b i).l (IntKind.wrap IntKind.i64 (enF (rd (syB b i).l (IntKind.wrap IntKind.i64 (Int.tdiv (List.getD (syB b i).w (Int.toNat (i : Int)) (RT.dflt (RT.flat (FK.int IntKind.i64) [FK.int IntKind.u32]))).fst (16 : Int)))) * 16 + Int.tmod (List.getD (syB b i).w (Int.toNat (i : Int)) (RT.dflt (RT.flat (FK.int IntKind.i64) [FK.int IntKind.u32]))).fst (16 : Int))) (List.getD (syB b i).w (Int.toNat (i : Int)) (RT.dflt (RT.flat (FK.int IntKind.i64) [FK.int IntKind.u32]))).snd) ((syB b i).quota) ((syB b i).now) ((syB b i).over) ((syB b i).w) (syB b (i + 1)))) (i < List.length b.w ∧ True ∧ ((List.length b.w) : Int) = ((List.length b.w) : Int) ∧ (i : Int) + 1 = ((i + 1) : Int) ∧ (0 ≤ ((i + 1) : Int) ∧ ((i + 1) : Int) ≤ 1000000) ∧ EqM (syB b i) (syB b (i + 1)))))) (Nat.beq (0 : Nat) (0 : Nat) = true ∧ EqM (syB b i) (syB b (List.length b.w)))) := by kernel_rfl
theorem lbSync' (b : Mc) {W : World} {R own0 : Nat → Prop} {ρ0 : Nat → Option Value} (hown : HownOk (envK gl [(102, kmReadB), (107, kmOf), (21, kmWrite)] 4) own0 ρ0) : LOk Tryz.prog (envK gl [(102, kmReadB), (107, kmOf), (21, kmWrite)] 4) (ctx ea has) gl W R own0 ρ0 (loopN (bodyOf Tryz.f71) 0) (LbSync' b) := by
  refine loop1_ok (J := fun _ => True) (N := b.w.length) (H := HbSync' b) (X := XbSync' b) (envK_ok (con := [(102, kmReadB), (107, kmOf), (21, kmWrite)]) ⟨cmReadB, cmOf, cmWrite, trivial⟩) hown (ls := fun i => []) (fun i => noSums (by kernel_rfl)) (fun hm i hi hj => ?_) 0 (fun hm => by first | exact Nat.zero_le _ | omega) (fun hm => trivial)
  rw [bbSync' gl b i]
  obtain ⟨⟨k1, k2, k3, k4⟩, k5⟩ := hm
  unfold few at k3
  refine ⟨fun h => ?_, fun h => ?_⟩
  · have h := of_decide_eq_true h
    have hlt : i < b.w.length := by omega
    have hs := syB_step b hlt
    have hu : 0 ≤ (b.w.getD i (0, 0)).1 ∧ (b.w.getD i (0, 0)).1 < 128 := k4 _ (by rw [List.getD_eq_getElem?_getD, List.getElem?_eq_getElem hlt]; exact List.getElem_mem hlt)
    have e : (syB b i).w.getD (i : Int).toNat (RT.flat (FK.int IntKind.i64) [FK.int IntKind.u32]).dflt = b.w.getD i (0, 0) := rfl
    simp only [e]
    generalize b.w.getD i (0, 0) = u at *
    have e1 : IntKind.i64.wrap (u.1.tdiv 16) = u.1 / 16 := by rw [Int.tdiv_eq_ediv_of_nonneg hu.1, IntKind.wrap_i64]; omega
    have e2 : u.1.tmod 16 = u.1 % 16 := Int.tmod_eq_emod_of_nonneg hu.1
    rw [e1, e2]
    have T : ∀ x, (enOk x && enT x) = enT x := fun x => by unfold enT; cases enOk x <;> simp
    rw [T]
    refine ⟨⟨by omega, by show (i : Int) < b.w.length; omega⟩, fun _ => ⟨by decide, fun _ => ⟨fun g => ⟨by decide, fun _ => ?_⟩, fun g => ?_⟩⟩⟩
    · refine ⟨hlt, trivial, by trivial, by omega, by omega, rfl, rfl, rfl, rfl, rfl, rfl, rfl, rfl, rfl, rfl, rfl, rfl, rfl, rfl, ?_, rfl, rfl, rfl⟩
      rw [hs]; unfold updL; rw [if_pos g]
    · refine ⟨hlt, trivial, by trivial, by omega, by omega, rfl, rfl, rfl, rfl, rfl, rfl, rfl, rfl, rfl, rfl, rfl, rfl, rfl, rfl, ?_, rfl, rfl, rfl⟩
      rw [hs]; unfold updL; rw [if_neg (by rw [g]; simp)]
  · have h := of_decide_eq_false h
    have e : syB b i = syB b b.w.length := by
      unfold syB; rw [List.take_of_length_le (by omega), List.take_of_length_le (Nat.le_refl _)]
    exact ⟨rfl, mc_eq e⟩
def kbEnter : List SVal → Nat → Acc ORes := fun a n => match a with
  | [.ptr q 0, .int .i64 y, .int .u32 z] => .look q fun cc => match cc with | some (.cells [.ptr m 0, .arr .u32 16 x, .int .u32 pc, .bool ie, .bool eie, .int .u32 epc, .int .u32 tv, .int .u32 ca, .int .u32 ad, .ptr d 0, .int .i64 qu, .int .i64 no, .bool ov, .own w]) => (.look m fun cc => match cc with | some (.cells [.own p]) => (.look d fun cc => match cc with | some (.cells [.own k, .arr .u32 16 sc, .bool on, .int .i64 at_, .own e]) => (.look p fun cc => match cc with | some (.recs .u32 l) => (.look w fun cc => match cc with | some (.recs (.flat (.int .i64) [.int .u32]) us) => (.look k fun cc => match cc with | some (.recs .u32 ks) => (.look e fun cc => match cc with | some (.recs (.flat (.int .i64) [.int .u32, .int .u32]) se) => (match nodupB [q, m, d, p, w, k, e] with | true => .ret (genR [q, m, d, p] (gone [w, k, e]) n (.bool (.sym (enterB (mcV l x pc ie eie epc tv ca ad ks sc on at_ se qu no ov us).c))) (mHp (enterM (mcV l x pc ie eie epc tv ca ad ks sc on at_ se qu no ov us) y.val z.val)) 3 (some (mcOk (mcV l x pc ie eie epc tv ca ad ks sc on at_ se qu no ov us)))) | false => .fail "bEnter") | _ => .fail "bEnter") | _ => .fail "bEnter") | _ => .fail "bEnter") | _ => .fail "bEnter") | _ => .fail "bEnter") | _ => .fail "bEnter") | _ => .fail "bEnter"
  | _ => .fail "bEnter"
theorem fitbEnter (gl : List (Nat × SVal)) (y z : SI) (x : List Int) (pc : SI) (ie eie : SB) (epc tv ca ad : SI) (qu no : SI) (ov : SB) (sc : List Int) (on : SB) (at_ : SI) (l : List Int) (us : List (Int × Int)) (ks : List Int) (se : List (Int × Int × Int)) : (fits (envK gl [(64, kmEnter), (65, kmEnd)] 4) (S1 [.ptr 0 0, .int .i64 y, .int .u32 z] (numC 0 (mC0 l x pc ie eie epc tv ca ad ks sc on at_ se qu no ov us)) 7 36) (S1 [.ptr 0 0, .int .i64 (.full y.val), .int .u32 (.full z.val)] (mHpO (mcV l x pc ie eie epc tv ca ad ks sc on at_ se qu no ov us)) 7 36)) = (
  SI.val y = SI.val y ∧ SI.val z = SI.val z ∧ x = x ∧ SI.val pc = SI.val pc ∧ SB.val ie = SB.val ie ∧ SB.val eie = SB.val eie ∧ SI.val epc = SI.val epc ∧ SI.val tv = SI.val tv ∧ SI.val ca = SI.val ca ∧ SI.val ad = SI.val ad ∧ SI.val qu = SI.val qu ∧ SI.val no = SI.val no ∧ SB.val ov = SB.val ov ∧ sc = sc ∧ SB.val on = SB.val on ∧ SI.val at_ = SI.val at_ ∧ l = l ∧ us = us ∧ ks = ks ∧ se = se) := by kernel_rfl
abbrev TbEnter (gl : List (Nat × SVal)) (y z : Int) (b : Mc) : Prop := Tr.sat (newQ (envK gl [(64, kmEnter), (65, kmEnd)] 4) (.bool (.sym (enterB b.c))) (mHp (enterM b y z)) (4 + 3)) (run (envK gl [(64, kmEnter), (65, kmEnd)] 4) [] (bodyOf Tryz.f33) (S1 [.ptr 0 0, .int .i64 (.full y), .int .u32 (.full z)] (mHpO b) 7 36) (ends (envK gl [(64, kmEnter), (65, kmEnd)] 4) Tryz.f33.results.toList))
theorem runbEnter (gl : List (Nat × SVal)) (y z : Int) (b : Mc) : (TbEnter gl y z b) = (
  IT (!enterB b.c) (RQ (few b.d.seen) (enterB b.c = enterB b.c ∧ EgM (enterC b.c y z) (dEnd b.d (4 : Int) (IntKind.wrap IntKind.u32 y)) b.l b.quota b.now true b.w (enterM b y z))) (enterB b.c = enterB b.c ∧ EgM (enterC b.c y z) b.d b.l b.quota b.now b.over b.w (enterM b y z))) := by kernel_rfl
theorem gbEnter (y z : Int) (b : Mc) (hv : mcOk b) : Box (TbEnter gl y z b) := by
  refine .of (runbEnter gl y z b) ?_
  obtain ⟨k1, k2, k3, k4⟩ := hv
  rw [enterM_def]
  refine ⟨fun h => ⟨k2, fun _ => ?_⟩, fun h => ?_⟩
  · have h1 : enterB b.c = false := by simpa using h
    have h2 : enterC b.c y z = b.c := by
      unfold enterC; rw [if_pos]
      unfold enterB at h1; simpa using h1
    refine ⟨rfl, ?_⟩
    rw [h2]
    refine mc_eq (a := { b with over := true, d := dEnd b.d 4 (IntKind.u32.wrap y) }) ?_
    unfold enterM0; rw [if_neg (by rw [h1]; simp)]
  · have h1 : enterB b.c = true := by simpa using h
    refine ⟨rfl, mc_eq (a := { b with c := enterC b.c y z }) ?_⟩
    unfold enterM0; rw [if_pos h1]
theorem cbEnter : Con ea has gl 33 kbEnter := by
  refine gen_mk Tryz.func33 36 4 (con := [(64, kmEnter), (65, kmEnd)]) ⟨cmEnter, cmEnd, trivial⟩ (fun hA hr hv => ?_) (by kernel_rfl) (by kernel_rfl) Tryz.ntmps33
  unfold kbEnter at hr; split at hr
  · rename_i q y z
    simp only [Acc.run] at hr
    split at hr
    · rename_i m x pc ie eie epc tv ca ad d qu no ov w hq
      simp only [Acc.run] at hr
      split at hr
      · rename_i p hm
        simp only [Acc.run] at hr
        split at hr
        · rename_i k sc on at_ e hd
          simp only [Acc.run] at hr
          split at hr
          · rename_i l hp
            simp only [Acc.run] at hr
            split at hr
            · rename_i us hw
              simp only [Acc.run] at hr
              split at hr
              · rename_i ks hk
                simp only [Acc.run] at hr
                split at hr
                · rename_i se he
                  split at hr
                  · rename_i hnd
                    have := ret_ok hr; subst this
                    refine ⟨[q, m, d, p], [w, k, e], (mC0 l x pc ie eie epc tv ca ad ks sc on at_ se qu no ov us), [.ptr 0 0, .int .i64 y, .int .u32 z], (S1 [.ptr 0 0, .int .i64 (.full y.val), .int .u32 (.full z.val)] (mHpO (mcV l x pc ie eie epc tv ca ad ks sc on at_ se qu no ov us)) 7 36), [], .bool (.sym (enterB (mcV l x pc ie eie epc tv ca ad ks sc on at_ se qu no ov us).c)), mHp (enterM (mcV l x pc ie eie epc tv ca ad ks sc on at_ se qu no ov us) y.val z.val), 3, rfl, rfl, ⟨rfl, rfl, rfl⟩, hnd, ⟨hq, hm, hd, hp, hw, hk, he, trivial⟩, rfl, rfl, .of (fitbEnter gl y z x pc ie eie epc tv ca ad qu no ov sc on at_ l us ks se) (by simp [nilR]), rfl, (fun W R ρ0 own0 hown => noSums (by kernel_rfl)), gbEnter y.val z.val ⟨l, ⟨x, pc.val, ie.val, eie.val, epc.val, tv.val, ca.val, ad.val⟩, ⟨ks, sc, on.val, at_.val, se⟩, qu.val, no.val, ov.val, us⟩ (hv _ rfl)⟩
                  · cases hr
                · cases hr
              · cases hr
            · cases hr
          · cases hr
        · cases hr
      · cases hr
    · cases hr
  · cases hr
def kbMay0 : List SVal → Nat → Acc ORes := fun a n => match a with | [.rop [.rop [.ro .u32 l], .arr .u32 16 x, .int .u32 pc, .bool ie, .bool eie, .int .u32 epc, .int .u32 tv, .int .u32 ca, .int .u32 ad, .rop [.ro .u32 ks, .arr .u32 16 sc, .bool on, .int .i64 at_, .ro (.flat (.int .i64) [.int .u32, .int .u32]) se], .int .i64 qu, .int .i64 no, .bool ov, .ro (.flat (.int .i64) [.int .u32]) us], .int .u32 y, .int .u32 z] => .ret ({ v := .bool (.sym (mayB (mcV l x pc ie eie epc tv ca ad ks sc on at_ se qu no ov us).quota y.val z.val)) }) | _ => .fail "bMay0"
theorem argbMay0 (l : List Int) (x : List Int) (pc : SI) (ie eie : SB) (epc tv ca ad : SI) (ks : List Int) (sc : List Int) (on : SB) (at_ : SI) (se : List (Int × Int × Int)) (qu no : SI) (ov : SB) (us : List (Int × Int)) (y z : SI) : (all (subL tAtN none' [] deep [.rop [.rop [.ro .u32 l], .arr .u32 16 x, .int .u32 pc, .bool ie, .bool eie, .int .u32 epc, .int .u32 tv, .int .u32 ca, .int .u32 ad, .rop [.ro .u32 ks, .arr .u32 16 sc, .bool on, .int .i64 at_, .ro (.flat (.int .i64) [.int .u32, .int .u32]) se], .int .i64 qu, .int .i64 no, .bool ov, .ro (.flat (.int .i64) [.int .u32]) us], .int .u32 y, .int .u32 z] [.rop [.rop [.ro .u32 (mcV l x pc ie eie epc tv ca ad ks sc on at_ se qu no ov us).l], .arr .u32 16 (mcV l x pc ie eie epc tv ca ad ks sc on at_ se qu no ov us).c.r, .int .u32 (.full (mcV l x pc ie eie epc tv ca ad ks sc on at_ se qu no ov us).c.pc), .bool (.sym (mcV l x pc ie eie epc tv ca ad ks sc on at_ se qu no ov us).c.ie), .bool (.sym (mcV l x pc ie eie epc tv ca ad ks sc on at_ se qu no ov us).c.eie), .int .u32 (.full (mcV l x pc ie eie epc tv ca ad ks sc on at_ se qu no ov us).c.epc), .int .u32 (.full (mcV l x pc ie eie epc tv ca ad ks sc on at_ se qu no ov us).c.tv), .int .u32 (.full (mcV l x pc ie eie epc tv ca ad ks sc on at_ se qu no ov us).c.cause), .int .u32 (.full (mcV l x pc ie eie epc tv ca ad ks sc on at_ se qu no ov us).c.addr), .rop [.ro .u32 (mcV l x pc ie eie epc tv ca ad ks sc on at_ se qu no ov us).d.keys, .arr .u32 16 (mcV l x pc ie eie epc tv ca ad ks sc on at_ se qu no ov us).d.sec, .bool (.sym (mcV l x pc ie eie epc tv ca ad ks sc on at_ se qu no ov us).d.on), .int .i64 (.full (mcV l x pc ie eie epc tv ca ad ks sc on at_ se qu no ov us).d.at_), .ro seenT (mcV l x pc ie eie epc tv ca ad ks sc on at_ se qu no ov us).d.seen], .int .i64 (.full (mcV l x pc ie eie epc tv ca ad ks sc on at_ se qu no ov us).quota), .int .i64 (.full (mcV l x pc ie eie epc tv ca ad ks sc on at_ se qu no ov us).now), .bool (.sym (mcV l x pc ie eie epc tv ca ad ks sc on at_ se qu no ov us).over), .ro updT (mcV l x pc ie eie epc tv ca ad ks sc on at_ se qu no ov us).w], .int .u32 (.full y.val), .int .u32 (.full z.val)])) = (
  l = l ∧ x = x ∧ SI.val pc = SI.val pc ∧ SB.val ie = SB.val ie ∧ SB.val eie = SB.val eie ∧ SI.val epc = SI.val epc ∧ SI.val tv = SI.val tv ∧ SI.val ca = SI.val ca ∧ SI.val ad = SI.val ad ∧ ks = ks ∧ sc = sc ∧ SB.val on = SB.val on ∧ SI.val at_ = SI.val at_ ∧ se = se ∧ SI.val qu = SI.val qu ∧ SI.val no = SI.val no ∧ SB.val ov = SB.val ov ∧ us = us ∧ SI.val y = SI.val y ∧ SI.val z = SI.val z) := by kernel_rfl
abbrev TbMay0 (gl : List (Nat × SVal)) (b : Mc) (y z : Int) : Prop := Tr.sat (plainQ (.bool (.sym (mayB b.quota y z)))) (run (env gl [(107, kmOf)]) [] (bodyOf Tryz.f106) (start [(mLt b), .int .u32 (.full y), .int .u32 (.full z)] 38) (ends (env gl [(107, kmOf)]) Tryz.f106.results.toList))
theorem runbMay0 (gl : List (Nat × SVal)) (b : Mc) (y z : Int) : (TbMay0 gl b y z) = (
  (decide (y < (128 : Int)) && enOk z && (!enT z || decide ((17 : Int) ≤ enF z) && decide (enF z < b.quota))) = mayB b.quota y z) := by kernel_rfl
theorem gbMay0 (b : Mc) (y z : Int) (h0 : 0 ≤ y) : Box (TbMay0 gl b y z) := by
  refine .of (runbMay0 gl b y z) ?_
  unfold mayB
  rw [decide_eq_true h0]; simp
theorem cbMay0 : Con ea has gl 106 kbMay0 := by
  refine plain_mkB Tryz.func106 38 (con := [(107, kmOf)]) ⟨cmOf, trivial⟩ (fun hA hr hv => ?_) (by kernel_rfl) (by kernel_rfl) Tryz.ntmps106
  unfold kbMay0 at hr; split at hr
  · rename_i l x pc ie eie epc tv ca ad ks sc on at_ se qu no ov us y z
    have := ret_ok hr; subst this
    exact ⟨_, [], rfl, rfl, .of (argbMay0 l x pc ie eie epc tv ca ad ks sc on at_ se qu no ov us y z) (by simp), rfl, (fun W R ρ0 own0 hown => noSums (by kernel_rfl)), gbMay0 ⟨l, ⟨x, pc.val, ie.val, eie.val, epc.val, tv.val, ca.val, ad.val⟩, ⟨ks, sc, on.val, at_.val, se⟩, qu.val, no.val, ov.val, us⟩ y.val z.val (u32_second hA)⟩
  · cases hr
abbrev kbMay := bor [.box [.box [.ro .u32], .any, .any, .any, .any, .any, .any, .any, .any, .box [.ro .u32, .any, .any, .any, .ro seenT], .any, .any, .any, .ro updT], .any, .any] kbMay0
theorem cbMay : Con ea has gl 106 kbMay := bor_ok cbMay0 _
def kbSync : List SVal → Nat → Acc ORes := fun a n => match a with
  | [.ptr q 0] => .look q fun cc => match cc with | some (.cells [.ptr m 0, .arr .u32 16 x, .int .u32 pc, .bool ie, .bool eie, .int .u32 epc, .int .u32 tv, .int .u32 ca, .int .u32 ad, .ptr d 0, .int .i64 qu, .int .i64 no, .bool ov, .own w]) => (.look m fun cc => match cc with | some (.cells [.own p]) => (.look d fun cc => match cc with | some (.cells [.own k, .arr .u32 16 sc, .bool on, .int .i64 at_, .own e]) => (.look p fun cc => match cc with | some (.recs .u32 l) => (.look w fun cc => match cc with | some (.recs (.flat (.int .i64) [.int .u32]) us) => (.look k fun cc => match cc with | some (.recs .u32 ks) => (.look e fun cc => match cc with | some (.recs (.flat (.int .i64) [.int .u32, .int .u32]) se) => (match nodupB [q, m, d, p, w, k, e] with | true => .ret (genR [q, m, d, p] (gone [w, k, e]) n (.tuple []) (mHp (syncM (mcV l x pc ie eie epc tv ca ad ks sc on at_ se qu no ov us))) 3 (some (mcOk (mcV l x pc ie eie epc tv ca ad ks sc on at_ se qu no ov us) ∧ few (mcV l x pc ie eie epc tv ca ad ks sc on at_ se qu no ov us).l))) | false => .fail "bSync") | _ => .fail "bSync") | _ => .fail "bSync") | _ => .fail "bSync") | _ => .fail "bSync") | _ => .fail "bSync") | _ => .fail "bSync") | _ => .fail "bSync"
  | _ => .fail "bSync"
theorem fitbSync (gl : List (Nat × SVal)) (x : List Int) (pc : SI) (ie eie : SB) (epc tv ca ad : SI) (qu no : SI) (ov : SB) (sc : List Int) (on : SB) (at_ : SI) (l : List Int) (us : List (Int × Int)) (ks : List Int) (se : List (Int × Int × Int)) : (fits (envK gl [(102, kmReadB), (107, kmOf), (21, kmWrite)] 4) (S1 [.ptr 0 0] (numC 0 (mC0 l x pc ie eie epc tv ca ad ks sc on at_ se qu no ov us)) 7 56) (S1 [.ptr 0 0] (mHpO (mcV l x pc ie eie epc tv ca ad ks sc on at_ se qu no ov us)) 7 56)) = (
  x = x ∧ SI.val pc = SI.val pc ∧ SB.val ie = SB.val ie ∧ SB.val eie = SB.val eie ∧ SI.val epc = SI.val epc ∧ SI.val tv = SI.val tv ∧ SI.val ca = SI.val ca ∧ SI.val ad = SI.val ad ∧ SI.val qu = SI.val qu ∧ SI.val no = SI.val no ∧ SB.val ov = SB.val ov ∧ sc = sc ∧ SB.val on = SB.val on ∧ SI.val at_ = SI.val at_ ∧ l = l ∧ us = us ∧ ks = ks ∧ se = se) := by kernel_rfl
abbrev TbSync (gl : List (Nat × SVal)) (b : Mc) : Prop := Tr.sat (newQ (envK gl [(102, kmReadB), (107, kmOf), (21, kmWrite)] 4) (.tuple []) (mHp (syncM b)) (4 + 3)) (run (envK gl [(102, kmReadB), (107, kmOf), (21, kmWrite)] 4) [(1, LbSync' b)] (bodyOf Tryz.f71) (S1 [.ptr 0 0] (mHpO b) 7 56) (ends (envK gl [(102, kmReadB), (107, kmOf), (21, kmWrite)] 4) Tryz.f71.results.toList))
theorem runbSync (gl : List (Nat × SVal)) (b : Mc) : (TbSync gl b) = (
  RQ ((mcOk b ∧ few b.l) ∧ ((List.length b.w) : Int) = ((List.length b.w) : Int) ∧ (0 : Int) = ((0 : Nat) : Int) ∧ EqM b (syB b (0 : Nat))) ((syB b (List.length b.w)).c.r = (syncM b).c.r ∧ (syB b (List.length b.w)).c.pc = (syncM b).c.pc ∧ (syB b (List.length b.w)).c.ie = (syncM b).c.ie ∧ (syB b (List.length b.w)).c.eie = (syncM b).c.eie ∧ (syB b (List.length b.w)).c.epc = (syncM b).c.epc ∧ (syB b (List.length b.w)).c.tv = (syncM b).c.tv ∧ (syB b (List.length b.w)).c.cause = (syncM b).c.cause ∧ (syB b (List.length b.w)).c.addr = (syncM b).c.addr ∧ (syB b (List.length b.w)).quota = (syncM b).quota ∧ (syB b (List.length b.w)).now = (syncM b).now ∧ (syB b (List.length b.w)).over = (syncM b).over ∧ (syB b (List.length b.w)).d.sec = (syncM b).d.sec ∧ (syB b (List.length b.w)).d.on = (syncM b).d.on ∧ (syB b (List.length b.w)).d.at_ = (syncM b).d.at_ ∧ (syB b (List.length b.w)).l = (syncM b).l ∧ (syncM b).w = @List.nil (RT.ty updT) ∧ (syB b (List.length b.w)).d.keys = (syncM b).d.keys ∧ (syB b (List.length b.w)).d.seen = (syncM b).d.seen)) := by kernel_rfl
theorem gbSync (b : Mc) (hv : mcOk b ∧ few b.l) : Box (TbSync gl b) := by
  refine .of (runbSync gl b) ?_
  have e0 : b = syB b 0 := by unfold syB syncL; simp
  have e1 : syB b b.w.length = { syncM b with w := b.w } := by unfold syB syncM; rw [List.take_length]
  refine ⟨⟨hv, rfl, rfl, mc_eq e0⟩, fun _ => ?_⟩
  rw [e1]
  exact ⟨rfl, rfl, rfl, rfl, rfl, rfl, rfl, rfl, rfl, rfl, rfl, rfl, rfl, rfl, rfl, rfl, rfl, rfl⟩
theorem cbSync : Con ea has gl 71 kbSync := by
  refine gen_mk Tryz.func71 56 4 (con := [(102, kmReadB), (107, kmOf), (21, kmWrite)]) ⟨cmReadB, cmOf, cmWrite, trivial⟩ (fun hA hr hv => ?_) (by kernel_rfl) (by kernel_rfl) Tryz.ntmps71
  unfold kbSync at hr; split at hr
  · rename_i q
    simp only [Acc.run] at hr
    split at hr
    · rename_i m x pc ie eie epc tv ca ad d qu no ov w hq
      simp only [Acc.run] at hr
      split at hr
      · rename_i p hm
        simp only [Acc.run] at hr
        split at hr
        · rename_i k sc on at_ e hd
          simp only [Acc.run] at hr
          split at hr
          · rename_i l hp
            simp only [Acc.run] at hr
            split at hr
            · rename_i us hw
              simp only [Acc.run] at hr
              split at hr
              · rename_i ks hk
                simp only [Acc.run] at hr
                split at hr
                · rename_i se he
                  split at hr
                  · rename_i hnd
                    have := ret_ok hr; subst this
                    refine ⟨[q, m, d, p], [w, k, e], (mC0 l x pc ie eie epc tv ca ad ks sc on at_ se qu no ov us), [.ptr 0 0], (S1 [.ptr 0 0] (mHpO (mcV l x pc ie eie epc tv ca ad ks sc on at_ se qu no ov us)) 7 56), [(1, LbSync' (mcV l x pc ie eie epc tv ca ad ks sc on at_ se qu no ov us))], .tuple [], mHp (syncM (mcV l x pc ie eie epc tv ca ad ks sc on at_ se qu no ov us)), 3, rfl, rfl, ⟨rfl, rfl, rfl⟩, hnd, ⟨hq, hm, hd, hp, hw, hk, he, trivial⟩, rfl, rfl, .of (fitbSync gl x pc ie eie epc tv ca ad qu no ov sc on at_ l us ks se) (by simp [nilR]), rfl, (fun W R ρ0 own0 hown => hl1 (by kernel_rfl) (by kernel_rfl) (lbSync' (mcV l x pc ie eie epc tv ca ad ks sc on at_ se qu no ov us) hown)), gbSync ⟨l, ⟨x, pc.val, ie.val, eie.val, epc.val, tv.val, ca.val, ad.val⟩, ⟨ks, sc, on.val, at_.val, se⟩, qu.val, no.val, ov.val, us⟩ (hv _ rfl)⟩
                  · cases hr
                · cases hr
              · cases hr
            · cases hr
          · cases hr
        · cases hr
      · cases hr
    · cases hr
  · cases hr
def kbPut : List SVal → Nat → Acc ORes := fun a n => match a with
  | [.ptr q 0, .int .u32 y, .int .u32 z] => .look q fun cc => match cc with | some (.cells [.ptr m 0, .arr .u32 16 x, .int .u32 pc, .bool ie, .bool eie, .int .u32 epc, .int .u32 tv, .int .u32 ca, .int .u32 ad, .ptr d 0, .int .i64 qu, .int .i64 no, .bool ov, .own w]) => (.look m fun cc => match cc with | some (.cells [.own p]) => (.look d fun cc => match cc with | some (.cells [.own k, .arr .u32 16 sc, .bool on, .int .i64 at_, .own e]) => (.look p fun cc => match cc with | some (.recs .u32 l) => (.look w fun cc => match cc with | some (.recs (.flat (.int .i64) [.int .u32]) us) => (.look k fun cc => match cc with | some (.recs .u32 ks) => (.look e fun cc => match cc with | some (.recs (.flat (.int .i64) [.int .u32, .int .u32]) se) => (match nodupB [q, m, d, p, w, k, e] with | true => .ret (genR [q, m, d, p] (gone [w, k, e]) n (.tuple []) (mHp (putM (mcV l x pc ie eie epc tv ca ad ks sc on at_ se qu no ov us) y.val z.val)) 3 (some (mcOk (mcV l x pc ie eie epc tv ca ad ks sc on at_ se qu no ov us) ∧ few (mcV l x pc ie eie epc tv ca ad ks sc on at_ se qu no ov us).l))) | false => .fail "bPut") | _ => .fail "bPut") | _ => .fail "bPut") | _ => .fail "bPut") | _ => .fail "bPut") | _ => .fail "bPut") | _ => .fail "bPut") | _ => .fail "bPut"
  | _ => .fail "bPut"
theorem fitbPut (gl : List (Nat × SVal)) (y z : SI) (x : List Int) (pc : SI) (ie eie : SB) (epc tv ca ad : SI) (qu no : SI) (ov : SB) (sc : List Int) (on : SB) (at_ : SI) (l : List Int) (us : List (Int × Int)) (ks : List Int) (se : List (Int × Int × Int)) : (fits (envK gl [(106, kbMay), (71, kbSync)] 4) (S1 [.ptr 0 0, .int .u32 y, .int .u32 z] (numC 0 (mC0 l x pc ie eie epc tv ca ad ks sc on at_ se qu no ov us)) 7 32) (S1 [.ptr 0 0, .int .u32 (.full y.val), .int .u32 (.full z.val)] (mHpO (mcV l x pc ie eie epc tv ca ad ks sc on at_ se qu no ov us)) 7 32)) = (
  SI.val y = SI.val y ∧ SI.val z = SI.val z ∧ x = x ∧ SI.val pc = SI.val pc ∧ SB.val ie = SB.val ie ∧ SB.val eie = SB.val eie ∧ SI.val epc = SI.val epc ∧ SI.val tv = SI.val tv ∧ SI.val ca = SI.val ca ∧ SI.val ad = SI.val ad ∧ SI.val qu = SI.val qu ∧ SI.val no = SI.val no ∧ SB.val ov = SB.val ov ∧ sc = sc ∧ SB.val on = SB.val on ∧ SI.val at_ = SI.val at_ ∧ l = l ∧ us = us ∧ ks = ks ∧ se = se) := by kernel_rfl
abbrev TbPut (gl : List (Nat × SVal)) (y z : Int) (b : Mc) : Prop := Tr.sat (newQ (envK gl [(106, kbMay), (71, kbSync)] 4) (.tuple []) (mHp (putM b y z)) (4 + 3)) (run (envK gl [(106, kbMay), (71, kbSync)] 4) [] (bodyOf Tryz.f70) (S1 [.ptr 0 0, .int .u32 (.full y), .int .u32 (.full z)] (mHpO b) 7 32) (ends (envK gl [(106, kbMay), (71, kbSync)] 4) Tryz.f70.results.toList))
theorem runbPut (gl : List (Nat × SVal)) (y z : Int) (b : Mc) : (TbPut gl y z b) = (
  IT (!mayB b.quota y z) (EqM b (putM b y z)) (IT (decide ((16 : Int) ≤ ((List.length b.w) : Int))) (RQ (mcOk b ∧ few b.l) (RQ (List.length (syncM b).w + List.length [(y, z)] ≤ 137438953472) (EgM ((syncM b).c) ((syncM b).d) ((syncM b).l) ((syncM b).quota) ((syncM b).now) ((syncM b).over) ((syncM b).w ++ [(y, z)]) (putM b y z)))) (RQ (List.length b.w + List.length [(y, z)] ≤ 137438953472) (EgM b.c b.d b.l b.quota b.now b.over (b.w ++ [(y, z)]) (putM b y z))))) := by kernel_rfl
theorem gbPut (y z : Int) (b : Mc) (hv : mcOk b ∧ few b.l) : Box (TbPut gl y z b) := by
  refine .of (runbPut gl y z b) ?_
  obtain ⟨⟨k1, k2, k3, k4⟩, k5⟩ := id hv
  unfold few at k3
  rw [putM_def]
  refine ⟨fun h => mc_eq ?_, fun h => ⟨fun g => ⟨hv, fun _ => ⟨by simp [syncM], fun _ => mc_eq (a := { syncM b with w := (syncM b).w ++ [(y, z)] }) ?_⟩⟩, fun g => ⟨by simp only [List.length_singleton]; omega, fun _ => mc_eq (a := { b with w := b.w ++ [(y, z)] }) ?_⟩⟩⟩
  · unfold putM0; rw [if_neg (by simpa using h)]
  · unfold putM0; rw [if_pos (by simpa using h), if_pos (of_decide_eq_true g)]; rfl
  · unfold putM0; rw [if_pos (by simpa using h), if_neg (of_decide_eq_false g)]
theorem cbPut : Con ea has gl 70 kbPut := by
  refine gen_mk Tryz.func70 32 4 (con := [(106, kbMay), (71, kbSync)]) ⟨cbMay, cbSync, trivial⟩ (fun hA hr hv => ?_) (by kernel_rfl) (by kernel_rfl) Tryz.ntmps70
  unfold kbPut at hr; split at hr
  · rename_i q y z
    simp only [Acc.run] at hr
    split at hr
    · rename_i m x pc ie eie epc tv ca ad d qu no ov w hq
      simp only [Acc.run] at hr
      split at hr
      · rename_i p hm
        simp only [Acc.run] at hr
        split at hr
        · rename_i k sc on at_ e hd
          simp only [Acc.run] at hr
          split at hr
          · rename_i l hp
            simp only [Acc.run] at hr
            split at hr
            · rename_i us hw
              simp only [Acc.run] at hr
              split at hr
              · rename_i ks hk
                simp only [Acc.run] at hr
                split at hr
                · rename_i se he
                  split at hr
                  · rename_i hnd
                    have := ret_ok hr; subst this
                    refine ⟨[q, m, d, p], [w, k, e], (mC0 l x pc ie eie epc tv ca ad ks sc on at_ se qu no ov us), [.ptr 0 0, .int .u32 y, .int .u32 z], (S1 [.ptr 0 0, .int .u32 (.full y.val), .int .u32 (.full z.val)] (mHpO (mcV l x pc ie eie epc tv ca ad ks sc on at_ se qu no ov us)) 7 32), [], .tuple [], mHp (putM (mcV l x pc ie eie epc tv ca ad ks sc on at_ se qu no ov us) y.val z.val), 3, rfl, rfl, ⟨rfl, rfl, rfl⟩, hnd, ⟨hq, hm, hd, hp, hw, hk, he, trivial⟩, rfl, rfl, .of (fitbPut gl y z x pc ie eie epc tv ca ad qu no ov sc on at_ l us ks se) (by simp [nilR]), rfl, (fun W R ρ0 own0 hown => noSums (by kernel_rfl)), gbPut y.val z.val ⟨l, ⟨x, pc.val, ie.val, eie.val, epc.val, tv.val, ca.val, ad.val⟩, ⟨ks, sc, on.val, at_.val, se⟩, qu.val, no.val, ov.val, us⟩ (hv _ rfl)⟩
                  · cases hr
                · cases hr
              · cases hr
            · cases hr
          · cases hr
        · cases hr
      · cases hr
    · cases hr
  · cases hr
def kbDev : List SVal → Nat → Acc ORes := fun a n => match a with
  | [.agg [.int .i64 op, .int .i64 a1, .int .i64 a2, .int .i64 a3, .int .u32 imm], .agg [.arr .u32 16 x, .int .u32 pc, .bool ie, .bool eie, .int .u32 epc, .int .u32 tv, .int .u32 ca, .int .u32 ad], .ptr q 0, .int .i64 z] => .look q fun cc => match cc with | some (.cells [.own k, .arr .u32 16 sc, .bool on, .int .i64 at_, .own e]) => (.look k fun cc => match cc with | some (.recs .u32 ks) => (.look e fun cc => match cc with | some (.recs (.flat (.int .i64) [.int .u32, .int .u32]) se) => (match nodupB [q, k, e] with | true => .ret (genR [q] (gone [k, e]) n (.agg (devC (⟨op.val, a1.val, a2.val, a3.val, imm.val⟩ : In5) (⟨x, pc.val, ie.val, eie.val, epc.val, tv.val, ca.val, ad.val⟩ : Cpu) (dV ks sc on at_ se) z.val).enc) ([(0, .cells (dCells 1 2 (devD true (⟨op.val, a1.val, a2.val, a3.val, imm.val⟩ : In5) (⟨x, pc.val, ie.val, eie.val, epc.val, tv.val, ca.val, ad.val⟩ : Cpu) (dV ks sc on at_ se) z.val))), (1, .recs .u32 (devD true (⟨op.val, a1.val, a2.val, a3.val, imm.val⟩ : In5) (⟨x, pc.val, ie.val, eie.val, epc.val, tv.val, ca.val, ad.val⟩ : Cpu) (dV ks sc on at_ se) z.val).keys), (2, .recs seenT (devD true (⟨op.val, a1.val, a2.val, a3.val, imm.val⟩ : In5) (⟨x, pc.val, ie.val, eie.val, epc.val, tv.val, ca.val, ad.val⟩ : Cpu) (dV ks sc on at_ se) z.val).seen)]) 2 (some ((In5.ok (⟨op.val, a1.val, a2.val, a3.val, imm.val⟩ : In5) = true ∧ few (dV ks sc on at_ se).keys) ∧ few (dV ks sc on at_ se).seen))) | false => .fail "bDev") | _ => .fail "bDev") | _ => .fail "bDev") | _ => .fail "bDev"
  | _ => .fail "bDev"
theorem fitbDev (gl : List (Nat × SVal)) (op a1 a2 a3 imm : SI) (x : List Int) (pc : SI) (ie eie : SB) (epc tv ca ad : SI) (z : SI) (sc : List Int) (on : SB) (at_ : SI) (ks : List Int) (se : List (Int × Int × Int)) : (fits (envK gl [(121, kmOut), (122, kmIn), (123, kmPut), (124, kmGet), (125, kmSet)] 1) (S1 [.agg [.int .i64 op, .int .i64 a1, .int .i64 a2, .int .i64 a3, .int .u32 imm], .agg [.arr .u32 16 x, .int .u32 pc, .bool ie, .bool eie, .int .u32 epc, .int .u32 tv, .int .u32 ca, .int .u32 ad], .ptr 0 0, .int .i64 z] (numC 0 (dC0 ks sc on at_ se)) 3 74) (S1 [.agg [.int .i64 (.full (⟨op.val, a1.val, a2.val, a3.val, imm.val⟩ : In5).op), .int .i64 (.full (⟨op.val, a1.val, a2.val, a3.val, imm.val⟩ : In5).a), .int .i64 (.full (⟨op.val, a1.val, a2.val, a3.val, imm.val⟩ : In5).b), .int .i64 (.full (⟨op.val, a1.val, a2.val, a3.val, imm.val⟩ : In5).c), .int .u32 (.full (⟨op.val, a1.val, a2.val, a3.val, imm.val⟩ : In5).imm)], .agg (⟨x, pc.val, ie.val, eie.val, epc.val, tv.val, ca.val, ad.val⟩ : Cpu).enc, .ptr 0 0, .int .i64 (.full z.val)] [(0, some (.cells (dCells 1 2 (dV ks sc on at_ se)))), (1, some (.recs .u32 (dV ks sc on at_ se).keys)), (2, some (.recs seenT (dV ks sc on at_ se).seen))] 3 74)) = (
  SI.val op = SI.val op ∧ SI.val a1 = SI.val a1 ∧ SI.val a2 = SI.val a2 ∧ SI.val a3 = SI.val a3 ∧ SI.val imm = SI.val imm ∧ x = x ∧ SI.val pc = SI.val pc ∧ SB.val ie = SB.val ie ∧ SB.val eie = SB.val eie ∧ SI.val epc = SI.val epc ∧ SI.val tv = SI.val tv ∧ SI.val ca = SI.val ca ∧ SI.val ad = SI.val ad ∧ SI.val z = SI.val z ∧ sc = sc ∧ SB.val on = SB.val on ∧ SI.val at_ = SI.val at_ ∧ ks = ks ∧ se = se) := by kernel_rfl
abbrev TbDev (gl : List (Nat × SVal)) (i : In5) (p : Cpu) (z : Int) (d : Dv) : Prop := Tr.sat (newQ (envK gl [(121, kmOut), (122, kmIn), (123, kmPut), (124, kmGet), (125, kmSet)] 1) (.agg (devC i p d z).enc) ([(0, .cells (dCells 1 2 (devD true i p d z))), (1, .recs .u32 (devD true i p d z).keys), (2, .recs seenT (devD true i p d z).seen)]) (1 + 2)) (run (envK gl [(121, kmOut), (122, kmIn), (123, kmPut), (124, kmGet), (125, kmSet)] 1) [] (bodyOf Tryz.f109) (S1 [.agg [.int .i64 (.full i.op), .int .i64 (.full i.a), .int .i64 (.full i.b), .int .i64 (.full i.c), .int .u32 (.full i.imm)], .agg p.enc, .ptr 0 0, .int .i64 (.full z)] [(0, some (.cells (dCells 1 2 d))), (1, some (.recs .u32 d.keys)), (2, some (.recs seenT d.seen))] 3 74) (ends (envK gl [(121, kmOut), (122, kmIn), (123, kmPut), (124, kmGet), (125, kmSet)] 1) Tryz.f109.results.toList))
theorem runbDev (gl : List (Nat × SVal)) (i : In5) (p : Cpu) (z : Int) (d : Dv) : (TbDev gl i p z d) = (
  IT (decide (i.op = 35)) (RQ (0 ≤ i.a ∧ i.a < ((16 : Nat) : Int)) (RQ (few d.seen) (p.r = (devC i p d z).r ∧ p.pc = (devC i p d z).pc ∧ p.ie = (devC i p d z).ie ∧ p.eie = (devC i p d z).eie ∧ p.epc = (devC i p d z).epc ∧ p.tv = (devC i p d z).tv ∧ p.cause = (devC i p d z).cause ∧ p.addr = (devC i p d z).addr ∧ (dOut d (List.getD p.r (Int.toNat i.a) (RT.dflt RT.u32))).sec = (devD true i p d z).sec ∧ (dOut d (List.getD p.r (Int.toNat i.a) (RT.dflt RT.u32))).on = (devD true i p d z).on ∧ (dOut d (List.getD p.r (Int.toNat i.a) (RT.dflt RT.u32))).at_ = (devD true i p d z).at_ ∧ (dOut d (List.getD p.r (Int.toNat i.a) (RT.dflt RT.u32))).keys = (devD true i p d z).keys ∧ (dOut d (List.getD p.r (Int.toNat i.a) (RT.dflt RT.u32))).seen = (devD true i p d z).seen))) (IT (decide (i.op = 36)) (RQ (few d.keys) (RQ (0 ≤ i.a ∧ i.a < ((16 : Nat) : Int)) (List.set p.r (Int.toNat i.a) (dInW d) = (devC i p d z).r ∧ p.pc = (devC i p d z).pc ∧ p.ie = (devC i p d z).ie ∧ p.eie = (devC i p d z).eie ∧ p.epc = (devC i p d z).epc ∧ p.tv = (devC i p d z).tv ∧ p.cause = (devC i p d z).cause ∧ p.addr = (devC i p d z).addr ∧ (dIn d).sec = (devD true i p d z).sec ∧ (dIn d).on = (devD true i p d z).on ∧ (dIn d).at_ = (devD true i p d z).at_ ∧ (dIn d).keys = (devD true i p d z).keys ∧ (dIn d).seen = (devD true i p d z).seen))) (IT (decide (i.op = 37)) (RQ (0 ≤ i.a ∧ i.a < ((16 : Nat) : Int)) (RQ (0 ≤ i.b ∧ i.b < ((16 : Nat) : Int)) (RQ (few d.seen) (p.r = (devC i p d z).r ∧ p.pc = (devC i p d z).pc ∧ p.ie = (devC i p d z).ie ∧ p.eie = (devC i p d z).eie ∧ p.epc = (devC i p d z).epc ∧ p.tv = (devC i p d z).tv ∧ p.cause = (devC i p d z).cause ∧ p.addr = (devC i p d z).addr ∧ (dPut d (List.getD p.r (Int.toNat i.a) (RT.dflt RT.u32)) (List.getD p.r (Int.toNat i.b) (RT.dflt RT.u32))).sec = (devD true i p d z).sec ∧ (dPut d (List.getD p.r (Int.toNat i.a) (RT.dflt RT.u32)) (List.getD p.r (Int.toNat i.b) (RT.dflt RT.u32))).on = (devD true i p d z).on ∧ (dPut d (List.getD p.r (Int.toNat i.a) (RT.dflt RT.u32)) (List.getD p.r (Int.toNat i.b) (RT.dflt RT.u32))).at_ = (devD true i p d z).at_ ∧ (dPut d (List.getD p.r (Int.toNat i.a) (RT.dflt RT.u32)) (List.getD p.r (Int.toNat i.b) (RT.dflt RT.u32))).keys = (devD true i p d z).keys ∧ (dPut d (List.getD p.r (Int.toNat i.a) (RT.dflt RT.u32)) (List.getD p.r (Int.toNat i.b) (RT.dflt RT.u32))).seen = (devD true i p d z).seen)))) (IT (decide (i.op = 38)) (RQ (0 ≤ i.b ∧ i.b < ((16 : Nat) : Int)) (RQ (0 ≤ i.a ∧ i.a < ((16 : Nat) : Int)) (List.set p.r (Int.toNat i.a) (dGet d (List.getD p.r (Int.toNat i.b) (RT.dflt RT.u32))) = (devC i p d z).r ∧ p.pc = (devC i p d z).pc ∧ p.ie = (devC i p d z).ie ∧ p.eie = (devC i p d z).eie ∧ p.epc = (devC i p d z).epc ∧ p.tv = (devC i p d z).tv ∧ p.cause = (devC i p d z).cause ∧ p.addr = (devC i p d z).addr ∧ d.sec = (devD true i p d z).sec ∧ d.on = (devD true i p d z).on ∧ d.at_ = (devD true i p d z).at_ ∧ d.keys = (devD true i p d z).keys ∧ d.seen = (devD true i p d z).seen))) (IT (decide (i.op = 39)) (RQ (0 ≤ i.a ∧ i.a < ((16 : Nat) : Int)) (p.r = (devC i p d z).r ∧ p.pc = (devC i p d z).pc ∧ p.ie = (devC i p d z).ie ∧ p.eie = (devC i p d z).eie ∧ p.epc = (devC i p d z).epc ∧ p.tv = (devC i p d z).tv ∧ p.cause = (devC i p d z).cause ∧ p.addr = (devC i p d z).addr ∧ (dSet true d z (List.getD p.r (Int.toNat i.a) (RT.dflt RT.u32))).sec = (devD true i p d z).sec ∧ (dSet true d z (List.getD p.r (Int.toNat i.a) (RT.dflt RT.u32))).on = (devD true i p d z).on ∧ (dSet true d z (List.getD p.r (Int.toNat i.a) (RT.dflt RT.u32))).at_ = (devD true i p d z).at_ ∧ (dSet true d z (List.getD p.r (Int.toNat i.a) (RT.dflt RT.u32))).keys = (devD true i p d z).keys ∧ (dSet true d z (List.getD p.r (Int.toNat i.a) (RT.dflt RT.u32))).seen = (devD true i p d z).seen)) (IT (decide (i.op = 40)) (RQ (0 ≤ i.a ∧ i.a < ((16 : Nat) : Int)) (List.set p.r (Int.toNat i.a) (IntKind.wrap IntKind.u32 z) = (devC i p d z).r ∧ p.pc = (devC i p d z).pc ∧ p.ie = (devC i p d z).ie ∧ p.eie = (devC i p d z).eie ∧ p.epc = (devC i p d z).epc ∧ p.tv = (devC i p d z).tv ∧ p.cause = (devC i p d z).cause ∧ p.addr = (devC i p d z).addr ∧ d.sec = (devD true i p d z).sec ∧ d.on = (devD true i p d z).on ∧ d.at_ = (devD true i p d z).at_ ∧ d.keys = (devD true i p d z).keys ∧ d.seen = (devD true i p d z).seen)) (p.r = (devC i p d z).r ∧ p.pc = (devC i p d z).pc ∧ p.ie = (devC i p d z).ie ∧ p.eie = (devC i p d z).eie ∧ p.epc = (devC i p d z).epc ∧ p.tv = (devC i p d z).tv ∧ p.cause = (devC i p d z).cause ∧ p.addr = (devC i p d z).addr ∧ d.sec = (devD true i p d z).sec ∧ d.on = (devD true i p d z).on ∧ d.at_ = (devD true i p d z).at_ ∧ d.keys = (devD true i p d z).keys ∧ d.seen = (devD true i p d z).seen))))))) := by kernel_rfl
theorem gbDev (i : In5) (p : Cpu) (z : Int) (d : Dv) (hv : (In5.ok i = true ∧ few d.keys) ∧ few d.seen) : Box (TbDev gl i p z d) := by
  refine .of (runbDev gl i p z d) ?_
  obtain ⟨⟨hi, hk⟩, hs⟩ := hv
  obtain ⟨⟨a1, a2⟩, ⟨b1, b2⟩, _⟩ := word_rng hi
  have A : (0 : Int) ≤ i.a ∧ i.a < (↑(16 : Nat) : Int) := ⟨a1, by omega⟩
  have B : (0 : Int) ≤ i.b ∧ i.b < (↑(16 : Nat) : Int) := ⟨b1, by omega⟩
  have d0 : RT.dflt RT.u32 = (0 : Int) := rfl
  refine ⟨fun h => ⟨A, fun _ => ⟨hs, fun _ => ?_⟩⟩, fun n1 => ⟨fun h => ⟨hk, fun _ => ⟨A, fun _ => ?_⟩⟩, fun n2 => ⟨fun h => ⟨A, fun _ => ⟨B, fun _ => ⟨hs, fun _ => ?_⟩⟩⟩, fun n3 => ⟨fun h => ⟨B, fun _ => ⟨A, fun _ => ?_⟩⟩, fun n4 => ⟨fun h => ⟨A, fun _ => ?_⟩, fun n5 => ⟨fun h => ⟨A, fun _ => ?_⟩, fun n6 => ?_⟩⟩⟩⟩⟩⟩
  all_goals
    clear A B hi hk hs
    simp only [decide_eq_true_eq, decide_eq_false_iff_not] at *
    simp [devC, devD, rg, d0, *]
theorem cbDev : Con ea has gl 109 kbDev := by
  refine gen_mk Tryz.func109 74 1 (con := [(121, kmOut), (122, kmIn), (123, kmPut), (124, kmGet), (125, kmSet)]) ⟨cmOut, cmIn, cmPut, cmGet, cmSet, trivial⟩ (fun hA hr hv => ?_) (by kernel_rfl) (by kernel_rfl) Tryz.ntmps109
  unfold kbDev at hr; split at hr
  · rename_i op a1 a2 a3 imm x pc ie eie epc tv ca ad q z
    simp only [Acc.run] at hr
    split at hr
    · rename_i k sc on at_ e hq
      simp only [Acc.run] at hr
      split at hr
      · rename_i ks hk
        simp only [Acc.run] at hr
        split at hr
        · rename_i se he
          split at hr
          · rename_i hnd
            have := ret_ok hr; subst this
            refine ⟨[q], [k, e], (dC0 ks sc on at_ se), [.agg [.int .i64 op, .int .i64 a1, .int .i64 a2, .int .i64 a3, .int .u32 imm], .agg [.arr .u32 16 x, .int .u32 pc, .bool ie, .bool eie, .int .u32 epc, .int .u32 tv, .int .u32 ca, .int .u32 ad], .ptr 0 0, .int .i64 z], (S1 [.agg [.int .i64 (.full (⟨op.val, a1.val, a2.val, a3.val, imm.val⟩ : In5).op), .int .i64 (.full (⟨op.val, a1.val, a2.val, a3.val, imm.val⟩ : In5).a), .int .i64 (.full (⟨op.val, a1.val, a2.val, a3.val, imm.val⟩ : In5).b), .int .i64 (.full (⟨op.val, a1.val, a2.val, a3.val, imm.val⟩ : In5).c), .int .u32 (.full (⟨op.val, a1.val, a2.val, a3.val, imm.val⟩ : In5).imm)], .agg (⟨x, pc.val, ie.val, eie.val, epc.val, tv.val, ca.val, ad.val⟩ : Cpu).enc, .ptr 0 0, .int .i64 (.full z.val)] [(0, some (.cells (dCells 1 2 (dV ks sc on at_ se)))), (1, some (.recs .u32 (dV ks sc on at_ se).keys)), (2, some (.recs seenT (dV ks sc on at_ se).seen))] 3 74), [], .agg (devC (⟨op.val, a1.val, a2.val, a3.val, imm.val⟩ : In5) (⟨x, pc.val, ie.val, eie.val, epc.val, tv.val, ca.val, ad.val⟩ : Cpu) (dV ks sc on at_ se) z.val).enc, [(0, .cells (dCells 1 2 (devD true (⟨op.val, a1.val, a2.val, a3.val, imm.val⟩ : In5) (⟨x, pc.val, ie.val, eie.val, epc.val, tv.val, ca.val, ad.val⟩ : Cpu) (dV ks sc on at_ se) z.val))), (1, .recs .u32 (devD true (⟨op.val, a1.val, a2.val, a3.val, imm.val⟩ : In5) (⟨x, pc.val, ie.val, eie.val, epc.val, tv.val, ca.val, ad.val⟩ : Cpu) (dV ks sc on at_ se) z.val).keys), (2, .recs seenT (devD true (⟨op.val, a1.val, a2.val, a3.val, imm.val⟩ : In5) (⟨x, pc.val, ie.val, eie.val, epc.val, tv.val, ca.val, ad.val⟩ : Cpu) (dV ks sc on at_ se) z.val).seen)], 2, rfl, rfl, ⟨rfl, rfl, rfl⟩, hnd, ⟨hq, hk, he, trivial⟩, rfl, rfl, .of (fitbDev gl op a1 a2 a3 imm x pc ie eie epc tv ca ad z sc on at_ ks se) (by simp [nilR]), rfl, (fun W R ρ0 own0 hown => noSums (by kernel_rfl)), gbDev ⟨op.val, a1.val, a2.val, a3.val, imm.val⟩ ⟨x, pc.val, ie.val, eie.val, epc.val, tv.val, ca.val, ad.val⟩ z.val ⟨ks, sc, on.val, at_.val, se⟩ (hv _ rfl)⟩
          · cases hr
        · cases hr
      · cases hr
    · cases hr
  · cases hr
def kbDo : List SVal → Nat → Acc ORes := fun a n => match a with
  | [.agg [.int .i64 op, .int .i64 a1, .int .i64 a2, .int .i64 a3, .int .u32 imm], .int .u32 y, .agg [.arr .u32 16 x, .int .u32 pc, .bool ie, .bool eie, .int .u32 epc, .int .u32 tv, .int .u32 ca, .int .u32 ad], .ptr q 0, .int .i64 z] => .look q fun cc => match cc with | some (.cells [.own k, .arr .u32 16 sc, .bool on, .int .i64 at_, .own e]) => (.look k fun cc => match cc with | some (.recs .u32 ks) => (.look e fun cc => match cc with | some (.recs (.flat (.int .i64) [.int .u32, .int .u32]) se) => (match nodupB [q, k, e] with | true => .ret (genR [q] (gone [k, e]) n (.tuple [.agg (doC (⟨op.val, a1.val, a2.val, a3.val, imm.val⟩ : In5) y.val (⟨x, pc.val, ie.val, eie.val, epc.val, tv.val, ca.val, ad.val⟩ : Cpu) (dV ks sc on at_ se) z.val).enc, .bool (.sym (decide ((⟨op.val, a1.val, a2.val, a3.val, imm.val⟩ : In5).op = 32)))]) ([(0, .cells (dCells 1 2 (doD true (⟨op.val, a1.val, a2.val, a3.val, imm.val⟩ : In5) (⟨x, pc.val, ie.val, eie.val, epc.val, tv.val, ca.val, ad.val⟩ : Cpu) (dV ks sc on at_ se) z.val))), (1, .recs .u32 (doD true (⟨op.val, a1.val, a2.val, a3.val, imm.val⟩ : In5) (⟨x, pc.val, ie.val, eie.val, epc.val, tv.val, ca.val, ad.val⟩ : Cpu) (dV ks sc on at_ se) z.val).keys), (2, .recs seenT (doD true (⟨op.val, a1.val, a2.val, a3.val, imm.val⟩ : In5) (⟨x, pc.val, ie.val, eie.val, epc.val, tv.val, ca.val, ad.val⟩ : Cpu) (dV ks sc on at_ se) z.val).seen)]) 2 (some ((In5.ok (⟨op.val, a1.val, a2.val, a3.val, imm.val⟩ : In5) = true ∧ few (dV ks sc on at_ se).keys) ∧ few (dV ks sc on at_ se).seen))) | false => .fail "bDo") | _ => .fail "bDo") | _ => .fail "bDo") | _ => .fail "bDo"
  | _ => .fail "bDo"
theorem fitbDo (gl : List (Nat × SVal)) (op a1 a2 a3 imm y : SI) (x : List Int) (pc : SI) (ie eie : SB) (epc tv ca ad : SI) (z : SI) (sc : List Int) (on : SB) (at_ : SI) (ks : List Int) (se : List (Int × Int × Int)) : (fits (envK gl [(65, kmEnd), (108, kmReturn), (109, kbDev)] 1) (S1 [.agg [.int .i64 op, .int .i64 a1, .int .i64 a2, .int .i64 a3, .int .u32 imm], .int .u32 y, .agg [.arr .u32 16 x, .int .u32 pc, .bool ie, .bool eie, .int .u32 epc, .int .u32 tv, .int .u32 ca, .int .u32 ad], .ptr 0 0, .int .i64 z] (numC 0 (dC0 ks sc on at_ se)) 3 95) (S1 [.agg [.int .i64 (.full (⟨op.val, a1.val, a2.val, a3.val, imm.val⟩ : In5).op), .int .i64 (.full (⟨op.val, a1.val, a2.val, a3.val, imm.val⟩ : In5).a), .int .i64 (.full (⟨op.val, a1.val, a2.val, a3.val, imm.val⟩ : In5).b), .int .i64 (.full (⟨op.val, a1.val, a2.val, a3.val, imm.val⟩ : In5).c), .int .u32 (.full (⟨op.val, a1.val, a2.val, a3.val, imm.val⟩ : In5).imm)], .int .u32 (.full y.val), .agg (⟨x, pc.val, ie.val, eie.val, epc.val, tv.val, ca.val, ad.val⟩ : Cpu).enc, .ptr 0 0, .int .i64 (.full z.val)] [(0, some (.cells (dCells 1 2 (dV ks sc on at_ se)))), (1, some (.recs .u32 (dV ks sc on at_ se).keys)), (2, some (.recs seenT (dV ks sc on at_ se).seen))] 3 95)) = (
  SI.val op = SI.val op ∧ SI.val a1 = SI.val a1 ∧ SI.val a2 = SI.val a2 ∧ SI.val a3 = SI.val a3 ∧ SI.val imm = SI.val imm ∧ SI.val y = SI.val y ∧ x = x ∧ SI.val pc = SI.val pc ∧ SB.val ie = SB.val ie ∧ SB.val eie = SB.val eie ∧ SI.val epc = SI.val epc ∧ SI.val tv = SI.val tv ∧ SI.val ca = SI.val ca ∧ SI.val ad = SI.val ad ∧ SI.val z = SI.val z ∧ sc = sc ∧ SB.val on = SB.val on ∧ SI.val at_ = SI.val at_ ∧ ks = ks ∧ se = se) := by kernel_rfl
abbrev TbDo (gl : List (Nat × SVal)) (i : In5) (y : Int) (p : Cpu) (z : Int) (d : Dv) : Prop := Tr.sat (newQ (envK gl [(65, kmEnd), (108, kmReturn), (109, kbDev)] 1) (.tuple [.agg (doC i y p d z).enc, .bool (.sym (decide (i.op = 32)))]) ([(0, .cells (dCells 1 2 (doD true i p d z))), (1, .recs .u32 (doD true i p d z).keys), (2, .recs seenT (doD true i p d z).seen)]) (1 + 2)) (run (envK gl [(65, kmEnd), (108, kmReturn), (109, kbDev)] 1) [] (bodyOf Tryz.f72) (S1 [.agg [.int .i64 (.full i.op), .int .i64 (.full i.a), .int .i64 (.full i.b), .int .i64 (.full i.c), .int .u32 (.full i.imm)], .int .u32 (.full y), .agg p.enc, .ptr 0 0, .int .i64 (.full z)] [(0, some (.cells (dCells 1 2 d))), (1, some (.recs .u32 d.keys)), (2, some (.recs seenT d.seen))] 3 95) (ends (envK gl [(65, kmEnd), (108, kmReturn), (109, kbDev)] 1) Tryz.f72.results.toList))
theorem runbDo (gl : List (Nat × SVal)) (i : In5) (y : Int) (p : Cpu) (z : Int) (d : Dv) : (TbDo gl i y p z d) = (
  IT (decide (i.op = 32)) (RQ (0 ≤ i.a ∧ i.a < ((16 : Nat) : Int)) (RQ (few d.seen) (p.r = (doC i y p d z).r ∧ p.pc = (doC i y p d z).pc ∧ p.ie = (doC i y p d z).ie ∧ p.eie = (doC i y p d z).eie ∧ p.epc = (doC i y p d z).epc ∧ p.tv = (doC i y p d z).tv ∧ p.cause = (doC i y p d z).cause ∧ p.addr = (doC i y p d z).addr ∧ true = decide (i.op = 32) ∧ (dEnd d (3 : Int) (List.getD p.r (Int.toNat i.a) (RT.dflt RT.u32))).sec = (doD true i p d z).sec ∧ (dEnd d (3 : Int) (List.getD p.r (Int.toNat i.a) (RT.dflt RT.u32))).on = (doD true i p d z).on ∧ (dEnd d (3 : Int) (List.getD p.r (Int.toNat i.a) (RT.dflt RT.u32))).at_ = (doD true i p d z).at_ ∧ (dEnd d (3 : Int) (List.getD p.r (Int.toNat i.a) (RT.dflt RT.u32))).keys = (doD true i p d z).keys ∧ (dEnd d (3 : Int) (List.getD p.r (Int.toNat i.a) (RT.dflt RT.u32))).seen = (doD true i p d z).seen))) (IT (decide (i.op = 34)) ((returnC p).r = (doC i y p d z).r ∧ (returnC p).pc = (doC i y p d z).pc ∧ (returnC p).ie = (doC i y p d z).ie ∧ (returnC p).eie = (doC i y p d z).eie ∧ (0 : Int) = (doC i y p d z).epc ∧ (returnC p).tv = (doC i y p d z).tv ∧ (returnC p).cause = (doC i y p d z).cause ∧ (returnC p).addr = (doC i y p d z).addr ∧ false = decide (i.op = 32) ∧ d.sec = (doD true i p d z).sec ∧ d.on = (doD true i p d z).on ∧ d.at_ = (doD true i p d z).at_ ∧ d.keys = (doD true i p d z).keys ∧ d.seen = (doD true i p d z).seen) (IT (decide (i.op = 33)) (RQ (0 ≤ i.a ∧ i.a < ((16 : Nat) : Int)) (p.r = (doC i y p d z).r ∧ IntKind.wrap IntKind.u32 (p.pc + y) = (doC i y p d z).pc ∧ p.ie = (doC i y p d z).ie ∧ p.eie = (doC i y p d z).eie ∧ p.epc = (doC i y p d z).epc ∧ List.getD p.r (Int.toNat i.a) (RT.dflt RT.u32) = (doC i y p d z).tv ∧ p.cause = (doC i y p d z).cause ∧ p.addr = (doC i y p d z).addr ∧ false = decide (i.op = 32) ∧ d.sec = (doD true i p d z).sec ∧ d.on = (doD true i p d z).on ∧ d.at_ = (doD true i p d z).at_ ∧ d.keys = (doD true i p d z).keys ∧ d.seen = (doD true i p d z).seen)) (IT (decide (i.op = 64)) (p.r = (doC i y p d z).r ∧ IntKind.wrap IntKind.u32 (p.pc + y) = (doC i y p d z).pc ∧ false = (doC i y p d z).ie ∧ p.eie = (doC i y p d z).eie ∧ p.epc = (doC i y p d z).epc ∧ p.tv = (doC i y p d z).tv ∧ p.cause = (doC i y p d z).cause ∧ p.addr = (doC i y p d z).addr ∧ false = decide (i.op = 32) ∧ d.sec = (doD true i p d z).sec ∧ d.on = (doD true i p d z).on ∧ d.at_ = (doD true i p d z).at_ ∧ d.keys = (doD true i p d z).keys ∧ d.seen = (doD true i p d z).seen) (IT (decide (i.op = 65)) (p.r = (doC i y p d z).r ∧ IntKind.wrap IntKind.u32 (p.pc + y) = (doC i y p d z).pc ∧ true = (doC i y p d z).ie ∧ p.eie = (doC i y p d z).eie ∧ p.epc = (doC i y p d z).epc ∧ p.tv = (doC i y p d z).tv ∧ p.cause = (doC i y p d z).cause ∧ p.addr = (doC i y p d z).addr ∧ false = decide (i.op = 32) ∧ d.sec = (doD true i p d z).sec ∧ d.on = (doD true i p d z).on ∧ d.at_ = (doD true i p d z).at_ ∧ d.keys = (doD true i p d z).keys ∧ d.seen = (doD true i p d z).seen) (IT (decide (i.op = 67)) (RQ (0 ≤ i.a ∧ i.a < ((16 : Nat) : Int)) (p.r = (doC i y p d z).r ∧ IntKind.wrap IntKind.u32 (p.pc + y) = (doC i y p d z).pc ∧ decide (List.getD p.r (Int.toNat i.a) (RT.dflt RT.u32) % Int.ofNat (nat_lit 1 + (1 : Nat)) = 1) = (doC i y p d z).ie ∧ p.eie = (doC i y p d z).eie ∧ p.epc = (doC i y p d z).epc ∧ p.tv = (doC i y p d z).tv ∧ p.cause = (doC i y p d z).cause ∧ p.addr = (doC i y p d z).addr ∧ false = decide (i.op = 32) ∧ d.sec = (doD true i p d z).sec ∧ d.on = (doD true i p d z).on ∧ d.at_ = (doD true i p d z).at_ ∧ d.keys = (doD true i p d z).keys ∧ d.seen = (doD true i p d z).seen)) (IT (decide (i.op = 66)) (RQ (0 ≤ i.a ∧ i.a < ((16 : Nat) : Int)) (IT p.ie (RQ (0 ≤ i.a ∧ i.a < ((16 : Nat) : Int)) (RQ (0 ≤ i.a ∧ i.a < ((16 : Nat) : Int)) (List.set (List.set p.r (Int.toNat i.a) (2 : Int)) (Int.toNat i.a) (IntKind.wrap IntKind.u32 (List.getD (List.set p.r (Int.toNat i.a) (2 : Int)) (Int.toNat i.a) (RT.dflt RT.u32) + 1)) = (doC i y p d z).r ∧ IntKind.wrap IntKind.u32 (p.pc + y) = (doC i y p d z).pc ∧ p.ie = (doC i y p d z).ie ∧ p.eie = (doC i y p d z).eie ∧ p.epc = (doC i y p d z).epc ∧ p.tv = (doC i y p d z).tv ∧ p.cause = (doC i y p d z).cause ∧ p.addr = (doC i y p d z).addr ∧ false = decide (i.op = 32) ∧ d.sec = (doD true i p d z).sec ∧ d.on = (doD true i p d z).on ∧ d.at_ = (doD true i p d z).at_ ∧ d.keys = (doD true i p d z).keys ∧ d.seen = (doD true i p d z).seen))) (List.set p.r (Int.toNat i.a) (2 : Int) = (doC i y p d z).r ∧ IntKind.wrap IntKind.u32 (p.pc + y) = (doC i y p d z).pc ∧ p.ie = (doC i y p d z).ie ∧ p.eie = (doC i y p d z).eie ∧ p.epc = (doC i y p d z).epc ∧ p.tv = (doC i y p d z).tv ∧ p.cause = (doC i y p d z).cause ∧ p.addr = (doC i y p d z).addr ∧ false = decide (i.op = 32) ∧ d.sec = (doD true i p d z).sec ∧ d.on = (doD true i p d z).on ∧ d.at_ = (doD true i p d z).at_ ∧ d.keys = (doD true i p d z).keys ∧ d.seen = (doD true i p d z).seen))) (IT (decide (i.op = 43)) (RQ (0 ≤ i.a ∧ i.a < ((16 : Nat) : Int)) (List.set p.r (Int.toNat i.a) p.cause = (doC i y p d z).r ∧ IntKind.wrap IntKind.u32 (p.pc + y) = (doC i y p d z).pc ∧ p.ie = (doC i y p d z).ie ∧ p.eie = (doC i y p d z).eie ∧ p.epc = (doC i y p d z).epc ∧ p.tv = (doC i y p d z).tv ∧ p.cause = (doC i y p d z).cause ∧ p.addr = (doC i y p d z).addr ∧ false = decide (i.op = 32) ∧ d.sec = (doD true i p d z).sec ∧ d.on = (doD true i p d z).on ∧ d.at_ = (doD true i p d z).at_ ∧ d.keys = (doD true i p d z).keys ∧ d.seen = (doD true i p d z).seen)) (IT (decide (i.op = 44)) (RQ (0 ≤ i.a ∧ i.a < ((16 : Nat) : Int)) (List.set p.r (Int.toNat i.a) p.addr = (doC i y p d z).r ∧ IntKind.wrap IntKind.u32 (p.pc + y) = (doC i y p d z).pc ∧ p.ie = (doC i y p d z).ie ∧ p.eie = (doC i y p d z).eie ∧ p.epc = (doC i y p d z).epc ∧ p.tv = (doC i y p d z).tv ∧ p.cause = (doC i y p d z).cause ∧ p.addr = (doC i y p d z).addr ∧ false = decide (i.op = 32) ∧ d.sec = (doD true i p d z).sec ∧ d.on = (doD true i p d z).on ∧ d.at_ = (doD true i p d z).at_ ∧ d.keys = (doD true i p d z).keys ∧ d.seen = (doD true i p d z).seen)) (RQ ((In5.ok i = true ∧ few d.keys) ∧ few d.seen) ((devC i p d z).r = (doC i y p d z).r ∧ IntKind.wrap IntKind.u32 ((devC i p d z).pc + y) = (doC i y p d z).pc ∧ (devC i p d z).ie = (doC i y p d z).ie ∧ (devC i p d z).eie = (doC i y p d z).eie ∧ (devC i p d z).epc = (doC i y p d z).epc ∧ (devC i p d z).tv = (doC i y p d z).tv ∧ (devC i p d z).cause = (doC i y p d z).cause ∧ (devC i p d z).addr = (doC i y p d z).addr ∧ false = decide (i.op = 32) ∧ (devD true i p d z).sec = (doD true i p d z).sec ∧ (devD true i p d z).on = (doD true i p d z).on ∧ (devD true i p d z).at_ = (doD true i p d z).at_ ∧ (devD true i p d z).keys = (doD true i p d z).keys ∧ (devD true i p d z).seen = (doD true i p d z).seen))))))))))) := by kernel_rfl
theorem gbDo (i : In5) (y : Int) (p : Cpu) (z : Int) (d : Dv) (hv : (In5.ok i = true ∧ few d.keys) ∧ few d.seen) : Box (TbDo gl i y p z d) := by
  refine .of (runbDo gl i y p z d) ?_
  obtain ⟨⟨hi, hk⟩, hs⟩ := id hv
  obtain ⟨⟨a1, a2⟩, _, _⟩ := word_rng hi
  have A : (0 : Int) ≤ i.a ∧ i.a < (↑(16 : Nat) : Int) := ⟨a1, by omega⟩
  have d0 : RT.dflt RT.u32 = (0 : Int) := rfl
  rw [doC_def, doD_def]
  refine ⟨fun h => ⟨A, fun _ => ⟨hs, fun _ => ?_⟩⟩, fun n1 => ⟨fun h => ?_, fun n2 => ⟨fun h => ⟨A, fun _ => ?_⟩, fun n3 => ⟨fun h => ?_, fun n4 => ⟨fun h => ?_, fun n5 => ⟨fun h => ⟨A, fun _ => ?_⟩, fun n6 => ⟨fun h => ⟨A, fun _ => ⟨fun g => ⟨A, fun _ => ⟨A, fun _ => ?_⟩⟩, fun g => ?_⟩⟩, fun n7 => ⟨fun h => ⟨A, fun _ => ?_⟩, fun n8 => ⟨fun h => ⟨A, fun _ => ?_⟩, fun n9 => ⟨hv, fun _ => ?_⟩⟩⟩⟩⟩⟩⟩⟩⟩⟩
  all_goals
    have l16 := A.2
    clear A hi hk hs hv
    simp only [decide_eq_true_eq, decide_eq_false_iff_not] at *
    first | (simp [doC0, doC1, doD0, doIs, returnC, rg, d0, devC_pc, *]; done) | (simp [doC0, doC1, doD0, doIs, returnC, rg, d0, devC_pc, *]; exact set_twice _ _)
theorem cbDo : Con ea has gl 72 kbDo := by
  refine gen_mk Tryz.func72 95 1 (con := [(65, kmEnd), (108, kmReturn), (109, kbDev)]) ⟨cmEnd, cmReturn, cbDev, trivial⟩ (fun hA hr hv => ?_) (by kernel_rfl) (by kernel_rfl) Tryz.ntmps72
  unfold kbDo at hr; split at hr
  · rename_i op a1 a2 a3 imm y x pc ie eie epc tv ca ad q z
    simp only [Acc.run] at hr
    split at hr
    · rename_i k sc on at_ e hq
      simp only [Acc.run] at hr
      split at hr
      · rename_i ks hk
        simp only [Acc.run] at hr
        split at hr
        · rename_i se he
          split at hr
          · rename_i hnd
            have := ret_ok hr; subst this
            refine ⟨[q], [k, e], (dC0 ks sc on at_ se), [.agg [.int .i64 op, .int .i64 a1, .int .i64 a2, .int .i64 a3, .int .u32 imm], .int .u32 y, .agg [.arr .u32 16 x, .int .u32 pc, .bool ie, .bool eie, .int .u32 epc, .int .u32 tv, .int .u32 ca, .int .u32 ad], .ptr 0 0, .int .i64 z], (S1 [.agg [.int .i64 (.full (⟨op.val, a1.val, a2.val, a3.val, imm.val⟩ : In5).op), .int .i64 (.full (⟨op.val, a1.val, a2.val, a3.val, imm.val⟩ : In5).a), .int .i64 (.full (⟨op.val, a1.val, a2.val, a3.val, imm.val⟩ : In5).b), .int .i64 (.full (⟨op.val, a1.val, a2.val, a3.val, imm.val⟩ : In5).c), .int .u32 (.full (⟨op.val, a1.val, a2.val, a3.val, imm.val⟩ : In5).imm)], .int .u32 (.full y.val), .agg (⟨x, pc.val, ie.val, eie.val, epc.val, tv.val, ca.val, ad.val⟩ : Cpu).enc, .ptr 0 0, .int .i64 (.full z.val)] [(0, some (.cells (dCells 1 2 (dV ks sc on at_ se)))), (1, some (.recs .u32 (dV ks sc on at_ se).keys)), (2, some (.recs seenT (dV ks sc on at_ se).seen))] 3 95), [], .tuple [.agg (doC (⟨op.val, a1.val, a2.val, a3.val, imm.val⟩ : In5) y.val (⟨x, pc.val, ie.val, eie.val, epc.val, tv.val, ca.val, ad.val⟩ : Cpu) (dV ks sc on at_ se) z.val).enc, .bool (.sym (decide ((⟨op.val, a1.val, a2.val, a3.val, imm.val⟩ : In5).op = 32)))], [(0, .cells (dCells 1 2 (doD true (⟨op.val, a1.val, a2.val, a3.val, imm.val⟩ : In5) (⟨x, pc.val, ie.val, eie.val, epc.val, tv.val, ca.val, ad.val⟩ : Cpu) (dV ks sc on at_ se) z.val))), (1, .recs .u32 (doD true (⟨op.val, a1.val, a2.val, a3.val, imm.val⟩ : In5) (⟨x, pc.val, ie.val, eie.val, epc.val, tv.val, ca.val, ad.val⟩ : Cpu) (dV ks sc on at_ se) z.val).keys), (2, .recs seenT (doD true (⟨op.val, a1.val, a2.val, a3.val, imm.val⟩ : In5) (⟨x, pc.val, ie.val, eie.val, epc.val, tv.val, ca.val, ad.val⟩ : Cpu) (dV ks sc on at_ se) z.val).seen)], 2, rfl, rfl, ⟨rfl, rfl, rfl⟩, hnd, ⟨hq, hk, he, trivial⟩, rfl, rfl, .of (fitbDo gl op a1 a2 a3 imm y x pc ie eie epc tv ca ad z sc on at_ ks se) (by simp [nilR]), rfl, (fun W R ρ0 own0 hown => noSums (by kernel_rfl)), gbDo ⟨op.val, a1.val, a2.val, a3.val, imm.val⟩ y.val ⟨x, pc.val, ie.val, eie.val, epc.val, tv.val, ca.val, ad.val⟩ z.val ⟨ks, sc, on.val, at_.val, se⟩ (hv _ rfl)⟩
          · cases hr
        · cases hr
      · cases hr
    · cases hr
  · cases hr
def kbdo : List SVal → Nat → Acc ORes := fun a n => match a with
  | [.ptr q 0, .agg [.int .i64 ss, .int .u32 sa, .int .i64 op, .int .i64 a1, .int .i64 a2, .int .i64 a3, .int .u32 imm, .int .u32 sl]] => .look q fun cc => match cc with | some (.cells [.ptr m 0, .arr .u32 16 x, .int .u32 pc, .bool ie, .bool eie, .int .u32 epc, .int .u32 tv, .int .u32 ca, .int .u32 ad, .ptr d 0, .int .i64 qu, .int .i64 no, .bool ov, .own w]) => (.look m fun cc => match cc with | some (.cells [.own p]) => (.look d fun cc => match cc with | some (.cells [.own k, .arr .u32 16 sc, .bool on, .int .i64 at_, .own e]) => (.look p fun cc => match cc with | some (.recs .u32 l) => (.look w fun cc => match cc with | some (.recs (.flat (.int .i64) [.int .u32]) us) => (.look k fun cc => match cc with | some (.recs .u32 ks) => (.look e fun cc => match cc with | some (.recs (.flat (.int .i64) [.int .u32, .int .u32]) se) => (match nodupB [q, m, d, p, w, k, e] with | true => .ret (genR [q, m, d, p] (gone [w, k, e]) n (.tuple []) (mHp (supM true (mcV l x pc ie eie epc tv ca ad ks sc on at_ se qu no ov us) (⟨ss.val, sa.val, ⟨op.val, a1.val, a2.val, a3.val, imm.val⟩, sl.val⟩ : Stp))) 3 (some (In5.ok (⟨ss.val, sa.val, ⟨op.val, a1.val, a2.val, a3.val, imm.val⟩, sl.val⟩ : Stp).i = true ∧ mcOk (mcV l x pc ie eie epc tv ca ad ks sc on at_ se qu no ov us) ∧ few (mcV l x pc ie eie epc tv ca ad ks sc on at_ se qu no ov us).l))) | false => .fail "bdo") | _ => .fail "bdo") | _ => .fail "bdo") | _ => .fail "bdo") | _ => .fail "bdo") | _ => .fail "bdo") | _ => .fail "bdo") | _ => .fail "bdo"
  | _ => .fail "bdo"
theorem fitbdo (gl : List (Nat × SVal)) (ss sa op a1 a2 a3 imm sl : SI) (x : List Int) (pc : SI) (ie eie : SB) (epc tv ca ad : SI) (qu no : SI) (ov : SB) (sc : List Int) (on : SB) (at_ : SI) (l : List Int) (us : List (Int × Int)) (ks : List Int) (se : List (Int × Int × Int)) : (fits (envK gl [(70, kbPut), (71, kbSync), (72, kbDo)] 4) (S1 [.ptr 0 0, .agg [.int .i64 ss, .int .u32 sa, .int .i64 op, .int .i64 a1, .int .i64 a2, .int .i64 a3, .int .u32 imm, .int .u32 sl]] (numC 0 (mC0 l x pc ie eie epc tv ca ad ks sc on at_ se qu no ov us)) 7 80) (S1 [.ptr 0 0, .agg (⟨ss.val, sa.val, ⟨op.val, a1.val, a2.val, a3.val, imm.val⟩, sl.val⟩ : Stp).enc] (mHpO (mcV l x pc ie eie epc tv ca ad ks sc on at_ se qu no ov us)) 7 80)) = (
  SI.val ss = SI.val ss ∧ SI.val sa = SI.val sa ∧ SI.val op = SI.val op ∧ SI.val a1 = SI.val a1 ∧ SI.val a2 = SI.val a2 ∧ SI.val a3 = SI.val a3 ∧ SI.val imm = SI.val imm ∧ SI.val sl = SI.val sl ∧ x = x ∧ SI.val pc = SI.val pc ∧ SB.val ie = SB.val ie ∧ SB.val eie = SB.val eie ∧ SI.val epc = SI.val epc ∧ SI.val tv = SI.val tv ∧ SI.val ca = SI.val ca ∧ SI.val ad = SI.val ad ∧ SI.val qu = SI.val qu ∧ SI.val no = SI.val no ∧ SB.val ov = SB.val ov ∧ sc = sc ∧ SB.val on = SB.val on ∧ SI.val at_ = SI.val at_ ∧ l = l ∧ us = us ∧ ks = ks ∧ se = se) := by kernel_rfl
abbrev Tbdo (gl : List (Nat × SVal)) (s : Stp) (b : Mc) : Prop := Tr.sat (newQ (envK gl [(70, kbPut), (71, kbSync), (72, kbDo)] 4) (.tuple []) (mHp (supM true b s)) (4 + 3)) (run (envK gl [(70, kbPut), (71, kbSync), (72, kbDo)] 4) [] (bodyOf Tryz.f35) (S1 [.ptr 0 0, .agg s.enc] (mHpO b) 7 80) (ends (envK gl [(70, kbPut), (71, kbSync), (72, kbDo)] 4) Tryz.f35.results.toList))
theorem runbdo (gl : List (Nat × SVal)) (s : Stp) (b : Mc) : (Tbdo gl s b) = (
  IT (decide (s.i.op = 41)) (RQ (0 ≤ s.i.a ∧ s.i.a < ((16 : Nat) : Int)) (RQ (0 ≤ s.i.b ∧ s.i.b < ((16 : Nat) : Int)) (RQ (mcOk b ∧ few b.l) (EgM ⟨(putM b (List.getD b.c.r (Int.toNat s.i.a) (RT.dflt RT.u32)) (List.getD b.c.r (Int.toNat s.i.b) (RT.dflt RT.u32))).c.r, IntKind.wrap IntKind.u32 ((putM b (List.getD b.c.r (Int.toNat s.i.a) (RT.dflt RT.u32)) (List.getD b.c.r (Int.toNat s.i.b) (RT.dflt RT.u32))).c.pc + s.len), (putM b (List.getD b.c.r (Int.toNat s.i.a) (RT.dflt RT.u32)) (List.getD b.c.r (Int.toNat s.i.b) (RT.dflt RT.u32))).c.ie, (putM b (List.getD b.c.r (Int.toNat s.i.a) (RT.dflt RT.u32)) (List.getD b.c.r (Int.toNat s.i.b) (RT.dflt RT.u32))).c.eie, (putM b (List.getD b.c.r (Int.toNat s.i.a) (RT.dflt RT.u32)) (List.getD b.c.r (Int.toNat s.i.b) (RT.dflt RT.u32))).c.epc, (putM b (List.getD b.c.r (Int.toNat s.i.a) (RT.dflt RT.u32)) (List.getD b.c.r (Int.toNat s.i.b) (RT.dflt RT.u32))).c.tv, (putM b (List.getD b.c.r (Int.toNat s.i.a) (RT.dflt RT.u32)) (List.getD b.c.r (Int.toNat s.i.b) (RT.dflt RT.u32))).c.cause, (putM b (List.getD b.c.r (Int.toNat s.i.a) (RT.dflt RT.u32)) (List.getD b.c.r (Int.toNat s.i.b) (RT.dflt RT.u32))).c.addr⟩ ((putM b (List.getD b.c.r (Int.toNat s.i.a) (RT.dflt RT.u32)) (List.getD b.c.r (Int.toNat s.i.b) (RT.dflt RT.u32))).d) ((putM b (List.getD b.c.r (Int.toNat s.i.a) (RT.dflt RT.u32)) (List.getD b.c.r (Int.toNat s.i.b) (RT.dflt RT.u32))).l) ((putM b (List.getD b.c.r (Int.toNat s.i.a) (RT.dflt RT.u32)) (List.getD b.c.r (Int.toNat s.i.b) (RT.dflt RT.u32))).quota) ((putM b (List.getD b.c.r (Int.toNat s.i.a) (RT.dflt RT.u32)) (List.getD b.c.r (Int.toNat s.i.b) (RT.dflt RT.u32))).now) ((putM b (List.getD b.c.r (Int.toNat s.i.a) (RT.dflt RT.u32)) (List.getD b.c.r (Int.toNat s.i.b) (RT.dflt RT.u32))).over) ((putM b (List.getD b.c.r (Int.toNat s.i.a) (RT.dflt RT.u32)) (List.getD b.c.r (Int.toNat s.i.b) (RT.dflt RT.u32))).w) (supM true b s))))) (IT (decide (s.i.op = 42)) (RQ (mcOk b ∧ few b.l) (EgM ⟨(syncM b).c.r, IntKind.wrap IntKind.u32 ((syncM b).c.pc + s.len), (syncM b).c.ie, (syncM b).c.eie, (syncM b).c.epc, (syncM b).c.tv, (syncM b).c.cause, (syncM b).c.addr⟩ ((syncM b).d) ((syncM b).l) ((syncM b).quota) ((syncM b).now) ((syncM b).over) ((syncM b).w) (supM true b s))) (RQ ((In5.ok s.i = true ∧ few b.d.keys) ∧ few b.d.seen) (EgM (doC s.i s.len b.c b.d b.now) (doD true s.i b.c b.d b.now) b.l b.quota b.now (decide (s.i.op = 32)) b.w (supM true b s))))) := by kernel_rfl
theorem gbdo (s : Stp) (b : Mc) (hv : In5.ok s.i = true ∧ mcOk b ∧ few b.l) : Box (Tbdo gl s b) := by
  refine .of (runbdo gl s b) ?_
  obtain ⟨hi, hm⟩ := id hv
  obtain ⟨⟨a1, a2⟩, ⟨b1, b2⟩, _⟩ := word_rng hi
  have A : (0 : Int) ≤ s.i.a ∧ s.i.a < (↑(16 : Nat) : Int) := ⟨a1, by omega⟩
  have B : (0 : Int) ≤ s.i.b ∧ s.i.b < (↑(16 : Nat) : Int) := ⟨b1, by omega⟩
  have d0 : RT.dflt RT.u32 = (0 : Int) := rfl
  rw [supM_def]
  refine ⟨fun h => ⟨A, fun _ => ⟨B, fun _ => ⟨hm, fun _ => ?_⟩⟩⟩, fun n1 => ⟨fun h => ⟨hm, fun _ => ?_⟩, fun n2 => ⟨⟨⟨hi, hm.1.1⟩, hm.1.2.1⟩, fun _ => ?_⟩⟩⟩
  · rw [d0]
    refine mc_eq (a := { putM b (rg b.c.r s.i.a) (rg b.c.r s.i.b) with c := { (putM b (rg b.c.r s.i.a) (rg b.c.r s.i.b)).c with pc := IntKind.u32.wrap ((putM b (rg b.c.r s.i.a) (rg b.c.r s.i.b)).c.pc + s.len) } }) ?_
    unfold supM0; rw [if_pos (of_decide_eq_true h)]
  · refine mc_eq (a := { syncM b with c := { (syncM b).c with pc := IntKind.u32.wrap ((syncM b).c.pc + s.len) } }) ?_
    unfold supM0; rw [if_neg (of_decide_eq_false n1), if_pos (of_decide_eq_true h)]; rfl
  · refine mc_eq (a := { b with c := doC s.i s.len b.c b.d b.now, d := doD true s.i b.c b.d b.now, over := decide (s.i.op = 32) }) ?_
    unfold supM0; rw [if_neg (of_decide_eq_false n1), if_neg (of_decide_eq_false n2)]
theorem cbdo : Con ea has gl 35 kbdo := by
  refine gen_mk Tryz.func35 80 4 (con := [(70, kbPut), (71, kbSync), (72, kbDo)]) ⟨cbPut, cbSync, cbDo, trivial⟩ (fun hA hr hv => ?_) (by kernel_rfl) (by kernel_rfl) Tryz.ntmps35
  unfold kbdo at hr; split at hr
  · rename_i q ss sa op a1 a2 a3 imm sl
    simp only [Acc.run] at hr
    split at hr
    · rename_i m x pc ie eie epc tv ca ad d qu no ov w hq
      simp only [Acc.run] at hr
      split at hr
      · rename_i p hm
        simp only [Acc.run] at hr
        split at hr
        · rename_i k sc on at_ e hd
          simp only [Acc.run] at hr
          split at hr
          · rename_i l hp
            simp only [Acc.run] at hr
            split at hr
            · rename_i us hw
              simp only [Acc.run] at hr
              split at hr
              · rename_i ks hk
                simp only [Acc.run] at hr
                split at hr
                · rename_i se he
                  split at hr
                  · rename_i hnd
                    have := ret_ok hr; subst this
                    refine ⟨[q, m, d, p], [w, k, e], (mC0 l x pc ie eie epc tv ca ad ks sc on at_ se qu no ov us), [.ptr 0 0, .agg [.int .i64 ss, .int .u32 sa, .int .i64 op, .int .i64 a1, .int .i64 a2, .int .i64 a3, .int .u32 imm, .int .u32 sl]], (S1 [.ptr 0 0, .agg (⟨ss.val, sa.val, ⟨op.val, a1.val, a2.val, a3.val, imm.val⟩, sl.val⟩ : Stp).enc] (mHpO (mcV l x pc ie eie epc tv ca ad ks sc on at_ se qu no ov us)) 7 80), [], .tuple [], mHp (supM true (mcV l x pc ie eie epc tv ca ad ks sc on at_ se qu no ov us) (⟨ss.val, sa.val, ⟨op.val, a1.val, a2.val, a3.val, imm.val⟩, sl.val⟩ : Stp)), 3, rfl, rfl, ⟨rfl, rfl, rfl⟩, hnd, ⟨hq, hm, hd, hp, hw, hk, he, trivial⟩, rfl, rfl, .of (fitbdo gl ss sa op a1 a2 a3 imm sl x pc ie eie epc tv ca ad qu no ov sc on at_ l us ks se) (by simp [nilR]), rfl, (fun W R ρ0 own0 hown => noSums (by kernel_rfl)), gbdo ⟨ss.val, sa.val, ⟨op.val, a1.val, a2.val, a3.val, imm.val⟩, sl.val⟩ ⟨l, ⟨x, pc.val, ie.val, eie.val, epc.val, tv.val, ca.val, ad.val⟩, ⟨ks, sc, on.val, at_.val, se⟩, qu.val, no.val, ov.val, us⟩ (hv _ rfl)⟩
                  · cases hr
                · cases hr
              · cases hr
            · cases hr
          · cases hr
        · cases hr
      · cases hr
    · cases hr
  · cases hr
def kbPress : List SVal → Nat → Acc ORes := fun a n => match a with
  | [.ptr q 0, .int .u32 y] => .look q fun cc => match cc with | some (.cells [.ptr m 0, .arr .u32 16 x, .int .u32 pc, .bool ie, .bool eie, .int .u32 epc, .int .u32 tv, .int .u32 ca, .int .u32 ad, .ptr d 0, .int .i64 qu, .int .i64 no, .bool ov, .own w]) => (.look m fun cc => match cc with | some (.cells [.own p]) => (.look d fun cc => match cc with | some (.cells [.own k, .arr .u32 16 sc, .bool on, .int .i64 at_, .own e]) => (.look p fun cc => match cc with | some (.recs .u32 l) => (.look w fun cc => match cc with | some (.recs (.flat (.int .i64) [.int .u32]) us) => (.look k fun cc => match cc with | some (.recs .u32 ks) => (.look e fun cc => match cc with | some (.recs (.flat (.int .i64) [.int .u32, .int .u32]) se) => (match nodupB [q, m, d, p, w, k, e] with | true => .ret (genR [q, m, d, p] (gone [w, k, e]) n (.bool (.sym (dPressB (mcV l x pc ie eie epc tv ca ad ks sc on at_ se qu no ov us).d))) (mHp ({ (mcV l x pc ie eie epc tv ca ad ks sc on at_ se qu no ov us) with d := dPress (mcV l x pc ie eie epc tv ca ad ks sc on at_ se qu no ov us).d y.val })) 3) | false => .fail "bPress") | _ => .fail "bPress") | _ => .fail "bPress") | _ => .fail "bPress") | _ => .fail "bPress") | _ => .fail "bPress") | _ => .fail "bPress") | _ => .fail "bPress"
  | _ => .fail "bPress"
theorem fitbPress (gl : List (Nat × SVal)) (y : SI) (x : List Int) (pc : SI) (ie eie : SB) (epc tv ca ad : SI) (qu no : SI) (ov : SB) (sc : List Int) (on : SB) (at_ : SI) (l : List Int) (us : List (Int × Int)) (ks : List Int) (se : List (Int × Int × Int)) : (fits (envK gl [(28, kmPress)] 4) (S1 [.ptr 0 0, .int .u32 y] (numC 0 (mC0 l x pc ie eie epc tv ca ad ks sc on at_ se qu no ov us)) 7 11) (S1 [.ptr 0 0, .int .u32 (.full y.val)] (mHpO (mcV l x pc ie eie epc tv ca ad ks sc on at_ se qu no ov us)) 7 11)) = (
  SI.val y = SI.val y ∧ x = x ∧ SI.val pc = SI.val pc ∧ SB.val ie = SB.val ie ∧ SB.val eie = SB.val eie ∧ SI.val epc = SI.val epc ∧ SI.val tv = SI.val tv ∧ SI.val ca = SI.val ca ∧ SI.val ad = SI.val ad ∧ SI.val qu = SI.val qu ∧ SI.val no = SI.val no ∧ SB.val ov = SB.val ov ∧ sc = sc ∧ SB.val on = SB.val on ∧ SI.val at_ = SI.val at_ ∧ l = l ∧ us = us ∧ ks = ks ∧ se = se) := by kernel_rfl
abbrev TbPress (gl : List (Nat × SVal)) (y : Int) (b : Mc) : Prop := Tr.sat (newQ (envK gl [(28, kmPress)] 4) (.bool (.sym (dPressB b.d))) (mHp ({ b with d := dPress b.d y })) (4 + 3)) (run (envK gl [(28, kmPress)] 4) [] (bodyOf Tryz.f9) (S1 [.ptr 0 0, .int .u32 (.full y)] (mHpO b) 7 11) (ends (envK gl [(28, kmPress)] 4) Tryz.f9.results.toList))
theorem runbPress (gl : List (Nat × SVal)) (y : Int) (b : Mc) : (TbPress gl y b) = (
  dPressB b.d = dPressB b.d ∧ b.c.r = b.c.r ∧ b.c.pc = b.c.pc ∧ b.c.ie = b.c.ie ∧ b.c.eie = b.c.eie ∧ b.c.epc = b.c.epc ∧ b.c.tv = b.c.tv ∧ b.c.cause = b.c.cause ∧ b.c.addr = b.c.addr ∧ b.quota = b.quota ∧ b.now = b.now ∧ b.over = b.over ∧ (dPress b.d y).sec = (dPress b.d y).sec ∧ (dPress b.d y).on = (dPress b.d y).on ∧ (dPress b.d y).at_ = (dPress b.d y).at_ ∧ b.l = b.l ∧ b.w = b.w ∧ (dPress b.d y).keys = (dPress b.d y).keys ∧ (dPress b.d y).seen = (dPress b.d y).seen) := by kernel_rfl
theorem gbPress (y : Int) (b : Mc)  : Box (TbPress gl y b) := by
  refine .of (runbPress gl y b) ?_
  exact ⟨rfl, rfl, rfl, rfl, rfl, rfl, rfl, rfl, rfl, rfl, rfl, rfl, rfl, rfl, rfl, rfl, rfl, rfl, rfl⟩
theorem cbPress : Con ea has gl 9 kbPress := by
  refine gen_mk Tryz.func9 11 4 (con := [(28, kmPress)]) ⟨cmPress, trivial⟩ (fun hA hr hv => ?_) (by kernel_rfl) (by kernel_rfl) Tryz.ntmps9
  unfold kbPress at hr; split at hr
  · rename_i q y
    simp only [Acc.run] at hr
    split at hr
    · rename_i m x pc ie eie epc tv ca ad d qu no ov w hq
      simp only [Acc.run] at hr
      split at hr
      · rename_i p hm
        simp only [Acc.run] at hr
        split at hr
        · rename_i k sc on at_ e hd
          simp only [Acc.run] at hr
          split at hr
          · rename_i l hp
            simp only [Acc.run] at hr
            split at hr
            · rename_i us hw
              simp only [Acc.run] at hr
              split at hr
              · rename_i ks hk
                simp only [Acc.run] at hr
                split at hr
                · rename_i se he
                  split at hr
                  · rename_i hnd
                    have := ret_ok hr; subst this
                    refine ⟨[q, m, d, p], [w, k, e], (mC0 l x pc ie eie epc tv ca ad ks sc on at_ se qu no ov us), [.ptr 0 0, .int .u32 y], (S1 [.ptr 0 0, .int .u32 (.full y.val)] (mHpO (mcV l x pc ie eie epc tv ca ad ks sc on at_ se qu no ov us)) 7 11), [], .bool (.sym (dPressB (mcV l x pc ie eie epc tv ca ad ks sc on at_ se qu no ov us).d)), mHp ({ (mcV l x pc ie eie epc tv ca ad ks sc on at_ se qu no ov us) with d := dPress (mcV l x pc ie eie epc tv ca ad ks sc on at_ se qu no ov us).d y.val }), 3, rfl, rfl, ⟨rfl, rfl, rfl⟩, hnd, ⟨hq, hm, hd, hp, hw, hk, he, trivial⟩, rfl, rfl, .of (fitbPress gl y x pc ie eie epc tv ca ad qu no ov sc on at_ l us ks se) (by simp [nilR]), rfl, (fun W R ρ0 own0 hown => noSums (by kernel_rfl)), gbPress y.val ⟨l, ⟨x, pc.val, ie.val, eie.val, epc.val, tv.val, ca.val, ad.val⟩, ⟨ks, sc, on.val, at_.val, se⟩, qu.val, no.val, ov.val, us⟩⟩
                  · cases hr
                · cases hr
              · cases hr
            · cases hr
          · cases hr
        · cases hr
      · cases hr
    · cases hr
  · cases hr
def kbCPU0 : List SVal → Nat → Acc ORes := fun a n => match a with | [.rop [.rop [.ro .u32 l], .arr .u32 16 x, .int .u32 pc, .bool ie, .bool eie, .int .u32 epc, .int .u32 tv, .int .u32 ca, .int .u32 ad, .rop [.ro .u32 ks, .arr .u32 16 sc, .bool on, .int .i64 at_, .ro (.flat (.int .i64) [.int .u32, .int .u32]) se], .int .i64 qu, .int .i64 no, .bool ov, .ro (.flat (.int .i64) [.int .u32]) us]] => .ret ({ v := .agg (mcV l x pc ie eie epc tv ca ad ks sc on at_ se qu no ov us).c.enc }) | _ => .fail "bCPU0"
theorem argbCPU0 (l : List Int) (x : List Int) (pc : SI) (ie eie : SB) (epc tv ca ad : SI) (ks : List Int) (sc : List Int) (on : SB) (at_ : SI) (se : List (Int × Int × Int)) (qu no : SI) (ov : SB) (us : List (Int × Int)) : (all (subL tAtN none' [] deep [.rop [.rop [.ro .u32 l], .arr .u32 16 x, .int .u32 pc, .bool ie, .bool eie, .int .u32 epc, .int .u32 tv, .int .u32 ca, .int .u32 ad, .rop [.ro .u32 ks, .arr .u32 16 sc, .bool on, .int .i64 at_, .ro (.flat (.int .i64) [.int .u32, .int .u32]) se], .int .i64 qu, .int .i64 no, .bool ov, .ro (.flat (.int .i64) [.int .u32]) us]] [.rop [.rop [.ro .u32 (mcV l x pc ie eie epc tv ca ad ks sc on at_ se qu no ov us).l], .arr .u32 16 (mcV l x pc ie eie epc tv ca ad ks sc on at_ se qu no ov us).c.r, .int .u32 (.full (mcV l x pc ie eie epc tv ca ad ks sc on at_ se qu no ov us).c.pc), .bool (.sym (mcV l x pc ie eie epc tv ca ad ks sc on at_ se qu no ov us).c.ie), .bool (.sym (mcV l x pc ie eie epc tv ca ad ks sc on at_ se qu no ov us).c.eie), .int .u32 (.full (mcV l x pc ie eie epc tv ca ad ks sc on at_ se qu no ov us).c.epc), .int .u32 (.full (mcV l x pc ie eie epc tv ca ad ks sc on at_ se qu no ov us).c.tv), .int .u32 (.full (mcV l x pc ie eie epc tv ca ad ks sc on at_ se qu no ov us).c.cause), .int .u32 (.full (mcV l x pc ie eie epc tv ca ad ks sc on at_ se qu no ov us).c.addr), .rop [.ro .u32 (mcV l x pc ie eie epc tv ca ad ks sc on at_ se qu no ov us).d.keys, .arr .u32 16 (mcV l x pc ie eie epc tv ca ad ks sc on at_ se qu no ov us).d.sec, .bool (.sym (mcV l x pc ie eie epc tv ca ad ks sc on at_ se qu no ov us).d.on), .int .i64 (.full (mcV l x pc ie eie epc tv ca ad ks sc on at_ se qu no ov us).d.at_), .ro seenT (mcV l x pc ie eie epc tv ca ad ks sc on at_ se qu no ov us).d.seen], .int .i64 (.full (mcV l x pc ie eie epc tv ca ad ks sc on at_ se qu no ov us).quota), .int .i64 (.full (mcV l x pc ie eie epc tv ca ad ks sc on at_ se qu no ov us).now), .bool (.sym (mcV l x pc ie eie epc tv ca ad ks sc on at_ se qu no ov us).over), .ro updT (mcV l x pc ie eie epc tv ca ad ks sc on at_ se qu no ov us).w]])) = (
  l = l ∧ x = x ∧ SI.val pc = SI.val pc ∧ SB.val ie = SB.val ie ∧ SB.val eie = SB.val eie ∧ SI.val epc = SI.val epc ∧ SI.val tv = SI.val tv ∧ SI.val ca = SI.val ca ∧ SI.val ad = SI.val ad ∧ ks = ks ∧ sc = sc ∧ SB.val on = SB.val on ∧ SI.val at_ = SI.val at_ ∧ se = se ∧ SI.val qu = SI.val qu ∧ SI.val no = SI.val no ∧ SB.val ov = SB.val ov ∧ us = us) := by kernel_rfl
abbrev TbCPU0 (gl : List (Nat × SVal)) (b : Mc) : Prop := Tr.sat (plainQ (.agg b.c.enc)) (run (env gl []) [] (bodyOf Tryz.f44) (start [(mLt b)] 7) (ends (env gl []) Tryz.f44.results.toList))
theorem runbCPU0 (gl : List (Nat × SVal)) (b : Mc) : (TbCPU0 gl b) = (
  b.c.r = b.c.r ∧ b.c.pc = b.c.pc ∧ b.c.ie = b.c.ie ∧ b.c.eie = b.c.eie ∧ b.c.epc = b.c.epc ∧ b.c.tv = b.c.tv ∧ b.c.cause = b.c.cause ∧ b.c.addr = b.c.addr) := by kernel_rfl
theorem gbCPU0 (b : Mc)  : Box (TbCPU0 gl b) := by
  refine .of (runbCPU0 gl b) ?_
  exact ⟨rfl, rfl, rfl, rfl, rfl, rfl, rfl, rfl⟩
theorem cbCPU0 : Con ea has gl 44 kbCPU0 := by
  refine plain_mkB Tryz.func44 7 (con := []) trivial (fun hA hr hv => ?_) (by kernel_rfl) (by kernel_rfl) Tryz.ntmps44
  unfold kbCPU0 at hr; split at hr
  · rename_i l x pc ie eie epc tv ca ad ks sc on at_ se qu no ov us
    have := ret_ok hr; subst this
    exact ⟨_, [], rfl, rfl, .of (argbCPU0 l x pc ie eie epc tv ca ad ks sc on at_ se qu no ov us) (by simp), rfl, (fun W R ρ0 own0 hown => noSums (by kernel_rfl)), gbCPU0 ⟨l, ⟨x, pc.val, ie.val, eie.val, epc.val, tv.val, ca.val, ad.val⟩, ⟨ks, sc, on.val, at_.val, se⟩, qu.val, no.val, ov.val, us⟩ ⟩
  · cases hr
abbrev kbCPU := bor [.box [.box [.ro .u32], .any, .any, .any, .any, .any, .any, .any, .any, .box [.ro .u32, .any, .any, .any, .ro seenT], .any, .any, .any, .ro updT]] kbCPU0
theorem cbCPU : Con ea has gl 44 kbCPU := bor_ok cbCPU0 _
def kbNow0 : List SVal → Nat → Acc ORes := fun a n => match a with | [.rop [.rop [.ro .u32 l], .arr .u32 16 x, .int .u32 pc, .bool ie, .bool eie, .int .u32 epc, .int .u32 tv, .int .u32 ca, .int .u32 ad, .rop [.ro .u32 ks, .arr .u32 16 sc, .bool on, .int .i64 at_, .ro (.flat (.int .i64) [.int .u32, .int .u32]) se], .int .i64 qu, .int .i64 no, .bool ov, .ro (.flat (.int .i64) [.int .u32]) us]] => .ret ({ v := .int .i64 (.full (mcV l x pc ie eie epc tv ca ad ks sc on at_ se qu no ov us).now) }) | _ => .fail "bNow0"
theorem argbNow0 (l : List Int) (x : List Int) (pc : SI) (ie eie : SB) (epc tv ca ad : SI) (ks : List Int) (sc : List Int) (on : SB) (at_ : SI) (se : List (Int × Int × Int)) (qu no : SI) (ov : SB) (us : List (Int × Int)) : (all (subL tAtN none' [] deep [.rop [.rop [.ro .u32 l], .arr .u32 16 x, .int .u32 pc, .bool ie, .bool eie, .int .u32 epc, .int .u32 tv, .int .u32 ca, .int .u32 ad, .rop [.ro .u32 ks, .arr .u32 16 sc, .bool on, .int .i64 at_, .ro (.flat (.int .i64) [.int .u32, .int .u32]) se], .int .i64 qu, .int .i64 no, .bool ov, .ro (.flat (.int .i64) [.int .u32]) us]] [.rop [.rop [.ro .u32 (mcV l x pc ie eie epc tv ca ad ks sc on at_ se qu no ov us).l], .arr .u32 16 (mcV l x pc ie eie epc tv ca ad ks sc on at_ se qu no ov us).c.r, .int .u32 (.full (mcV l x pc ie eie epc tv ca ad ks sc on at_ se qu no ov us).c.pc), .bool (.sym (mcV l x pc ie eie epc tv ca ad ks sc on at_ se qu no ov us).c.ie), .bool (.sym (mcV l x pc ie eie epc tv ca ad ks sc on at_ se qu no ov us).c.eie), .int .u32 (.full (mcV l x pc ie eie epc tv ca ad ks sc on at_ se qu no ov us).c.epc), .int .u32 (.full (mcV l x pc ie eie epc tv ca ad ks sc on at_ se qu no ov us).c.tv), .int .u32 (.full (mcV l x pc ie eie epc tv ca ad ks sc on at_ se qu no ov us).c.cause), .int .u32 (.full (mcV l x pc ie eie epc tv ca ad ks sc on at_ se qu no ov us).c.addr), .rop [.ro .u32 (mcV l x pc ie eie epc tv ca ad ks sc on at_ se qu no ov us).d.keys, .arr .u32 16 (mcV l x pc ie eie epc tv ca ad ks sc on at_ se qu no ov us).d.sec, .bool (.sym (mcV l x pc ie eie epc tv ca ad ks sc on at_ se qu no ov us).d.on), .int .i64 (.full (mcV l x pc ie eie epc tv ca ad ks sc on at_ se qu no ov us).d.at_), .ro seenT (mcV l x pc ie eie epc tv ca ad ks sc on at_ se qu no ov us).d.seen], .int .i64 (.full (mcV l x pc ie eie epc tv ca ad ks sc on at_ se qu no ov us).quota), .int .i64 (.full (mcV l x pc ie eie epc tv ca ad ks sc on at_ se qu no ov us).now), .bool (.sym (mcV l x pc ie eie epc tv ca ad ks sc on at_ se qu no ov us).over), .ro updT (mcV l x pc ie eie epc tv ca ad ks sc on at_ se qu no ov us).w]])) = (
  l = l ∧ x = x ∧ SI.val pc = SI.val pc ∧ SB.val ie = SB.val ie ∧ SB.val eie = SB.val eie ∧ SI.val epc = SI.val epc ∧ SI.val tv = SI.val tv ∧ SI.val ca = SI.val ca ∧ SI.val ad = SI.val ad ∧ ks = ks ∧ sc = sc ∧ SB.val on = SB.val on ∧ SI.val at_ = SI.val at_ ∧ se = se ∧ SI.val qu = SI.val qu ∧ SI.val no = SI.val no ∧ SB.val ov = SB.val ov ∧ us = us) := by kernel_rfl
abbrev TbNow0 (gl : List (Nat × SVal)) (b : Mc) : Prop := Tr.sat (plainQ (.int .i64 (.full b.now))) (run (env gl []) [] (bodyOf Tryz.f15) (start [(mLt b)] 7) (ends (env gl []) Tryz.f15.results.toList))
theorem runbNow0 (gl : List (Nat × SVal)) (b : Mc) : (TbNow0 gl b) = (
  b.now = b.now) := by kernel_rfl
theorem gbNow0 (b : Mc)  : Box (TbNow0 gl b) := by
  refine .of (runbNow0 gl b) ?_
  rfl
theorem cbNow0 : Con ea has gl 15 kbNow0 := by
  refine plain_mkB Tryz.func15 7 (con := []) trivial (fun hA hr hv => ?_) (by kernel_rfl) (by kernel_rfl) Tryz.ntmps15
  unfold kbNow0 at hr; split at hr
  · rename_i l x pc ie eie epc tv ca ad ks sc on at_ se qu no ov us
    have := ret_ok hr; subst this
    exact ⟨_, [], rfl, rfl, .of (argbNow0 l x pc ie eie epc tv ca ad ks sc on at_ se qu no ov us) (by simp), rfl, (fun W R ρ0 own0 hown => noSums (by kernel_rfl)), gbNow0 ⟨l, ⟨x, pc.val, ie.val, eie.val, epc.val, tv.val, ca.val, ad.val⟩, ⟨ks, sc, on.val, at_.val, se⟩, qu.val, no.val, ov.val, us⟩ ⟩
  · cases hr
abbrev kbNow := bor [.box [.box [.ro .u32], .any, .any, .any, .any, .any, .any, .any, .any, .box [.ro .u32, .any, .any, .any, .ro seenT], .any, .any, .any, .ro updT]] kbNow0
theorem cbNow : Con ea has gl 15 kbNow := bor_ok cbNow0 _
def kbOver0 : List SVal → Nat → Acc ORes := fun a n => match a with | [.rop [.rop [.ro .u32 l], .arr .u32 16 x, .int .u32 pc, .bool ie, .bool eie, .int .u32 epc, .int .u32 tv, .int .u32 ca, .int .u32 ad, .rop [.ro .u32 ks, .arr .u32 16 sc, .bool on, .int .i64 at_, .ro (.flat (.int .i64) [.int .u32, .int .u32]) se], .int .i64 qu, .int .i64 no, .bool ov, .ro (.flat (.int .i64) [.int .u32]) us]] => .ret ({ v := .bool (.sym (mcV l x pc ie eie epc tv ca ad ks sc on at_ se qu no ov us).over) }) | _ => .fail "bOver0"
theorem argbOver0 (l : List Int) (x : List Int) (pc : SI) (ie eie : SB) (epc tv ca ad : SI) (ks : List Int) (sc : List Int) (on : SB) (at_ : SI) (se : List (Int × Int × Int)) (qu no : SI) (ov : SB) (us : List (Int × Int)) : (all (subL tAtN none' [] deep [.rop [.rop [.ro .u32 l], .arr .u32 16 x, .int .u32 pc, .bool ie, .bool eie, .int .u32 epc, .int .u32 tv, .int .u32 ca, .int .u32 ad, .rop [.ro .u32 ks, .arr .u32 16 sc, .bool on, .int .i64 at_, .ro (.flat (.int .i64) [.int .u32, .int .u32]) se], .int .i64 qu, .int .i64 no, .bool ov, .ro (.flat (.int .i64) [.int .u32]) us]] [.rop [.rop [.ro .u32 (mcV l x pc ie eie epc tv ca ad ks sc on at_ se qu no ov us).l], .arr .u32 16 (mcV l x pc ie eie epc tv ca ad ks sc on at_ se qu no ov us).c.r, .int .u32 (.full (mcV l x pc ie eie epc tv ca ad ks sc on at_ se qu no ov us).c.pc), .bool (.sym (mcV l x pc ie eie epc tv ca ad ks sc on at_ se qu no ov us).c.ie), .bool (.sym (mcV l x pc ie eie epc tv ca ad ks sc on at_ se qu no ov us).c.eie), .int .u32 (.full (mcV l x pc ie eie epc tv ca ad ks sc on at_ se qu no ov us).c.epc), .int .u32 (.full (mcV l x pc ie eie epc tv ca ad ks sc on at_ se qu no ov us).c.tv), .int .u32 (.full (mcV l x pc ie eie epc tv ca ad ks sc on at_ se qu no ov us).c.cause), .int .u32 (.full (mcV l x pc ie eie epc tv ca ad ks sc on at_ se qu no ov us).c.addr), .rop [.ro .u32 (mcV l x pc ie eie epc tv ca ad ks sc on at_ se qu no ov us).d.keys, .arr .u32 16 (mcV l x pc ie eie epc tv ca ad ks sc on at_ se qu no ov us).d.sec, .bool (.sym (mcV l x pc ie eie epc tv ca ad ks sc on at_ se qu no ov us).d.on), .int .i64 (.full (mcV l x pc ie eie epc tv ca ad ks sc on at_ se qu no ov us).d.at_), .ro seenT (mcV l x pc ie eie epc tv ca ad ks sc on at_ se qu no ov us).d.seen], .int .i64 (.full (mcV l x pc ie eie epc tv ca ad ks sc on at_ se qu no ov us).quota), .int .i64 (.full (mcV l x pc ie eie epc tv ca ad ks sc on at_ se qu no ov us).now), .bool (.sym (mcV l x pc ie eie epc tv ca ad ks sc on at_ se qu no ov us).over), .ro updT (mcV l x pc ie eie epc tv ca ad ks sc on at_ se qu no ov us).w]])) = (
  l = l ∧ x = x ∧ SI.val pc = SI.val pc ∧ SB.val ie = SB.val ie ∧ SB.val eie = SB.val eie ∧ SI.val epc = SI.val epc ∧ SI.val tv = SI.val tv ∧ SI.val ca = SI.val ca ∧ SI.val ad = SI.val ad ∧ ks = ks ∧ sc = sc ∧ SB.val on = SB.val on ∧ SI.val at_ = SI.val at_ ∧ se = se ∧ SI.val qu = SI.val qu ∧ SI.val no = SI.val no ∧ SB.val ov = SB.val ov ∧ us = us) := by kernel_rfl
abbrev TbOver0 (gl : List (Nat × SVal)) (b : Mc) : Prop := Tr.sat (plainQ (.bool (.sym b.over))) (run (env gl []) [] (bodyOf Tryz.f17) (start [(mLt b)] 7) (ends (env gl []) Tryz.f17.results.toList))
theorem runbOver0 (gl : List (Nat × SVal)) (b : Mc) : (TbOver0 gl b) = (
  b.over = b.over) := by kernel_rfl
theorem gbOver0 (b : Mc)  : Box (TbOver0 gl b) := by
  refine .of (runbOver0 gl b) ?_
  rfl
theorem cbOver0 : Con ea has gl 17 kbOver0 := by
  refine plain_mkB Tryz.func17 7 (con := []) trivial (fun hA hr hv => ?_) (by kernel_rfl) (by kernel_rfl) Tryz.ntmps17
  unfold kbOver0 at hr; split at hr
  · rename_i l x pc ie eie epc tv ca ad ks sc on at_ se qu no ov us
    have := ret_ok hr; subst this
    exact ⟨_, [], rfl, rfl, .of (argbOver0 l x pc ie eie epc tv ca ad ks sc on at_ se qu no ov us) (by simp), rfl, (fun W R ρ0 own0 hown => noSums (by kernel_rfl)), gbOver0 ⟨l, ⟨x, pc.val, ie.val, eie.val, epc.val, tv.val, ca.val, ad.val⟩, ⟨ks, sc, on.val, at_.val, se⟩, qu.val, no.val, ov.val, us⟩ ⟩
  · cases hr
abbrev kbOver := bor [.box [.box [.ro .u32], .any, .any, .any, .any, .any, .any, .any, .any, .box [.ro .u32, .any, .any, .any, .ro seenT], .any, .any, .any, .ro updT]] kbOver0
theorem cbOver : Con ea has gl 17 kbOver := bor_ok cbOver0 _
def kbWaiting0 : List SVal → Nat → Acc ORes := fun a n => match a with | [.rop [.rop [.ro .u32 l], .arr .u32 16 x, .int .u32 pc, .bool ie, .bool eie, .int .u32 epc, .int .u32 tv, .int .u32 ca, .int .u32 ad, .rop [.ro .u32 ks, .arr .u32 16 sc, .bool on, .int .i64 at_, .ro (.flat (.int .i64) [.int .u32, .int .u32]) se], .int .i64 qu, .int .i64 no, .bool ov, .ro (.flat (.int .i64) [.int .u32]) us]] => .ret ({ v := .int .i64 (.full (mcV l x pc ie eie epc tv ca ad ks sc on at_ se qu no ov us).w.length) }) | _ => .fail "bWaiting0"
theorem argbWaiting0 (l : List Int) (x : List Int) (pc : SI) (ie eie : SB) (epc tv ca ad : SI) (ks : List Int) (sc : List Int) (on : SB) (at_ : SI) (se : List (Int × Int × Int)) (qu no : SI) (ov : SB) (us : List (Int × Int)) : (all (subL tAtN none' [] deep [.rop [.rop [.ro .u32 l], .arr .u32 16 x, .int .u32 pc, .bool ie, .bool eie, .int .u32 epc, .int .u32 tv, .int .u32 ca, .int .u32 ad, .rop [.ro .u32 ks, .arr .u32 16 sc, .bool on, .int .i64 at_, .ro (.flat (.int .i64) [.int .u32, .int .u32]) se], .int .i64 qu, .int .i64 no, .bool ov, .ro (.flat (.int .i64) [.int .u32]) us]] [.rop [.rop [.ro .u32 (mcV l x pc ie eie epc tv ca ad ks sc on at_ se qu no ov us).l], .arr .u32 16 (mcV l x pc ie eie epc tv ca ad ks sc on at_ se qu no ov us).c.r, .int .u32 (.full (mcV l x pc ie eie epc tv ca ad ks sc on at_ se qu no ov us).c.pc), .bool (.sym (mcV l x pc ie eie epc tv ca ad ks sc on at_ se qu no ov us).c.ie), .bool (.sym (mcV l x pc ie eie epc tv ca ad ks sc on at_ se qu no ov us).c.eie), .int .u32 (.full (mcV l x pc ie eie epc tv ca ad ks sc on at_ se qu no ov us).c.epc), .int .u32 (.full (mcV l x pc ie eie epc tv ca ad ks sc on at_ se qu no ov us).c.tv), .int .u32 (.full (mcV l x pc ie eie epc tv ca ad ks sc on at_ se qu no ov us).c.cause), .int .u32 (.full (mcV l x pc ie eie epc tv ca ad ks sc on at_ se qu no ov us).c.addr), .rop [.ro .u32 (mcV l x pc ie eie epc tv ca ad ks sc on at_ se qu no ov us).d.keys, .arr .u32 16 (mcV l x pc ie eie epc tv ca ad ks sc on at_ se qu no ov us).d.sec, .bool (.sym (mcV l x pc ie eie epc tv ca ad ks sc on at_ se qu no ov us).d.on), .int .i64 (.full (mcV l x pc ie eie epc tv ca ad ks sc on at_ se qu no ov us).d.at_), .ro seenT (mcV l x pc ie eie epc tv ca ad ks sc on at_ se qu no ov us).d.seen], .int .i64 (.full (mcV l x pc ie eie epc tv ca ad ks sc on at_ se qu no ov us).quota), .int .i64 (.full (mcV l x pc ie eie epc tv ca ad ks sc on at_ se qu no ov us).now), .bool (.sym (mcV l x pc ie eie epc tv ca ad ks sc on at_ se qu no ov us).over), .ro updT (mcV l x pc ie eie epc tv ca ad ks sc on at_ se qu no ov us).w]])) = (
  l = l ∧ x = x ∧ SI.val pc = SI.val pc ∧ SB.val ie = SB.val ie ∧ SB.val eie = SB.val eie ∧ SI.val epc = SI.val epc ∧ SI.val tv = SI.val tv ∧ SI.val ca = SI.val ca ∧ SI.val ad = SI.val ad ∧ ks = ks ∧ sc = sc ∧ SB.val on = SB.val on ∧ SI.val at_ = SI.val at_ ∧ se = se ∧ SI.val qu = SI.val qu ∧ SI.val no = SI.val no ∧ SB.val ov = SB.val ov ∧ us = us) := by kernel_rfl
abbrev TbWaiting0 (gl : List (Nat × SVal)) (b : Mc) : Prop := Tr.sat (plainQ (.int .i64 (.full b.w.length))) (run (env gl []) [] (bodyOf Tryz.f45) (start [(mLt b)] 8) (ends (env gl []) Tryz.f45.results.toList))
theorem runbWaiting0 (gl : List (Nat × SVal)) (b : Mc) : (TbWaiting0 gl b) = (
  (↑(List.length b.w) : Int) = (↑(List.length b.w) : Int)) := by kernel_rfl
theorem gbWaiting0 (b : Mc)  : Box (TbWaiting0 gl b) := by
  refine .of (runbWaiting0 gl b) ?_
  rfl
theorem cbWaiting0 : Con ea has gl 45 kbWaiting0 := by
  refine plain_mkB Tryz.func45 8 (con := []) trivial (fun hA hr hv => ?_) (by kernel_rfl) (by kernel_rfl) Tryz.ntmps45
  unfold kbWaiting0 at hr; split at hr
  · rename_i l x pc ie eie epc tv ca ad ks sc on at_ se qu no ov us
    have := ret_ok hr; subst this
    exact ⟨_, [], rfl, rfl, .of (argbWaiting0 l x pc ie eie epc tv ca ad ks sc on at_ se qu no ov us) (by simp), rfl, (fun W R ρ0 own0 hown => noSums (by kernel_rfl)), gbWaiting0 ⟨l, ⟨x, pc.val, ie.val, eie.val, epc.val, tv.val, ca.val, ad.val⟩, ⟨ks, sc, on.val, at_.val, se⟩, qu.val, no.val, ov.val, us⟩ ⟩
  · cases hr
abbrev kbWaiting := bor [.box [.box [.ro .u32], .any, .any, .any, .any, .any, .any, .any, .any, .box [.ro .u32, .any, .any, .any, .ro seenT], .any, .any, .any, .ro updT]] kbWaiting0
theorem cbWaiting : Con ea has gl 45 kbWaiting := bor_ok cbWaiting0 _
def kbSeen0 : List SVal → Nat → Acc ORes := fun a n => match a with | [.rop [.rop [.ro .u32 l], .arr .u32 16 x, .int .u32 pc, .bool ie, .bool eie, .int .u32 epc, .int .u32 tv, .int .u32 ca, .int .u32 ad, .rop [.ro .u32 ks, .arr .u32 16 sc, .bool on, .int .i64 at_, .ro (.flat (.int .i64) [.int .u32, .int .u32]) se], .int .i64 qu, .int .i64 no, .bool ov, .ro (.flat (.int .i64) [.int .u32]) us]] => .ret (newR n (.own 0) ([(0, .recs seenT (mcV l x pc ie eie epc tv ca ad ks sc on at_ se qu no ov us).d.seen)]) 1 (some (few (mcV l x pc ie eie epc tv ca ad ks sc on at_ se qu no ov us).d.seen))) | _ => .fail "bSeen0"
theorem argbSeen0 (l : List Int) (x : List Int) (pc : SI) (ie eie : SB) (epc tv ca ad : SI) (ks : List Int) (sc : List Int) (on : SB) (at_ : SI) (se : List (Int × Int × Int)) (qu no : SI) (ov : SB) (us : List (Int × Int)) : (all (subL tAtN none' [] deep [.rop [.rop [.ro .u32 l], .arr .u32 16 x, .int .u32 pc, .bool ie, .bool eie, .int .u32 epc, .int .u32 tv, .int .u32 ca, .int .u32 ad, .rop [.ro .u32 ks, .arr .u32 16 sc, .bool on, .int .i64 at_, .ro (.flat (.int .i64) [.int .u32, .int .u32]) se], .int .i64 qu, .int .i64 no, .bool ov, .ro (.flat (.int .i64) [.int .u32]) us]] [.rop [.rop [.ro .u32 (mcV l x pc ie eie epc tv ca ad ks sc on at_ se qu no ov us).l], .arr .u32 16 (mcV l x pc ie eie epc tv ca ad ks sc on at_ se qu no ov us).c.r, .int .u32 (.full (mcV l x pc ie eie epc tv ca ad ks sc on at_ se qu no ov us).c.pc), .bool (.sym (mcV l x pc ie eie epc tv ca ad ks sc on at_ se qu no ov us).c.ie), .bool (.sym (mcV l x pc ie eie epc tv ca ad ks sc on at_ se qu no ov us).c.eie), .int .u32 (.full (mcV l x pc ie eie epc tv ca ad ks sc on at_ se qu no ov us).c.epc), .int .u32 (.full (mcV l x pc ie eie epc tv ca ad ks sc on at_ se qu no ov us).c.tv), .int .u32 (.full (mcV l x pc ie eie epc tv ca ad ks sc on at_ se qu no ov us).c.cause), .int .u32 (.full (mcV l x pc ie eie epc tv ca ad ks sc on at_ se qu no ov us).c.addr), .rop [.ro .u32 (mcV l x pc ie eie epc tv ca ad ks sc on at_ se qu no ov us).d.keys, .arr .u32 16 (mcV l x pc ie eie epc tv ca ad ks sc on at_ se qu no ov us).d.sec, .bool (.sym (mcV l x pc ie eie epc tv ca ad ks sc on at_ se qu no ov us).d.on), .int .i64 (.full (mcV l x pc ie eie epc tv ca ad ks sc on at_ se qu no ov us).d.at_), .ro seenT (mcV l x pc ie eie epc tv ca ad ks sc on at_ se qu no ov us).d.seen], .int .i64 (.full (mcV l x pc ie eie epc tv ca ad ks sc on at_ se qu no ov us).quota), .int .i64 (.full (mcV l x pc ie eie epc tv ca ad ks sc on at_ se qu no ov us).now), .bool (.sym (mcV l x pc ie eie epc tv ca ad ks sc on at_ se qu no ov us).over), .ro updT (mcV l x pc ie eie epc tv ca ad ks sc on at_ se qu no ov us).w]])) = (
  l = l ∧ x = x ∧ SI.val pc = SI.val pc ∧ SB.val ie = SB.val ie ∧ SB.val eie = SB.val eie ∧ SI.val epc = SI.val epc ∧ SI.val tv = SI.val tv ∧ SI.val ca = SI.val ca ∧ SI.val ad = SI.val ad ∧ ks = ks ∧ sc = sc ∧ SB.val on = SB.val on ∧ SI.val at_ = SI.val at_ ∧ se = se ∧ SI.val qu = SI.val qu ∧ SI.val no = SI.val no ∧ SB.val ov = SB.val ov ∧ us = us) := by kernel_rfl
abbrev TbSeen0 (gl : List (Nat × SVal)) (b : Mc) : Prop := Tr.sat (newQ (env gl [(91, kmSeen)]) (.own 0) ([(0, .recs seenT b.d.seen)]) 1) (run (env gl [(91, kmSeen)]) [] (bodyOf Tryz.f47) (start [(mLt b)] 8) (ends (env gl [(91, kmSeen)]) Tryz.f47.results.toList))
theorem runbSeen0 (gl : List (Nat × SVal)) (b : Mc) : (TbSeen0 gl b) = (
  RQ (few b.d.seen) (b.d.seen = b.d.seen)) := by kernel_rfl
theorem gbSeen0 (b : Mc)  (hv : few b.d.seen) : Box (TbSeen0 gl b) := by
  refine .of (runbSeen0 gl b) ?_
  exact ⟨hv, fun _ => rfl⟩
theorem cbSeen0 : Con ea has gl 47 kbSeen0 := by
  refine new_mkB Tryz.func47 8 (con := [(91, kmSeen)]) ⟨cmSeen, trivial⟩ (fun hA hr hv => ?_) (by kernel_rfl) (by kernel_rfl) Tryz.ntmps47
  unfold kbSeen0 at hr; split at hr
  · rename_i l x pc ie eie epc tv ca ad ks sc on at_ se qu no ov us
    have := ret_ok hr; subst this
    replace hv := hv _ rfl
    exact ⟨_, [], _, _, _, ⟨rfl, rfl, rfl⟩, .of (argbSeen0 l x pc ie eie epc tv ca ad ks sc on at_ se qu no ov us) (by simp), rfl, rfl, (fun W R ρ0 own0 hown => noSums (by kernel_rfl)), gbSeen0 ⟨l, ⟨x, pc.val, ie.val, eie.val, epc.val, tv.val, ca.val, ad.val⟩, ⟨ks, sc, on.val, at_.val, se⟩, qu.val, no.val, ov.val, us⟩  hv⟩
  · cases hr
abbrev kbSeen := borN [.box [.box [.ro .u32], .any, .any, .any, .any, .any, .any, .any, .any, .box [.ro .u32, .any, .any, .any, .ro seenT], .any, .any, .any, .ro updT]] kbSeen0
theorem cbSeen : Con ea has gl 47 kbSeen := borN_ok cbSeen0 _
def kbMem0 : List SVal → Nat → Acc ORes := fun a n => match a with | [.rop [.rop [.ro .u32 l], .arr .u32 16 x, .int .u32 pc, .bool ie, .bool eie, .int .u32 epc, .int .u32 tv, .int .u32 ca, .int .u32 ad, .rop [.ro .u32 ks, .arr .u32 16 sc, .bool on, .int .i64 at_, .ro (.flat (.int .i64) [.int .u32, .int .u32]) se], .int .i64 qu, .int .i64 no, .bool ov, .ro (.flat (.int .i64) [.int .u32]) us]] => .ret (newR n (.ptr 0 0) ([(0, .cells [.own 1]), (1, .recs .u32 (mcV l x pc ie eie epc tv ca ad ks sc on at_ se qu no ov us).l)]) 2 (some (few (mcV l x pc ie eie epc tv ca ad ks sc on at_ se qu no ov us).l))) | _ => .fail "bMem0"
theorem argbMem0 (l : List Int) (x : List Int) (pc : SI) (ie eie : SB) (epc tv ca ad : SI) (ks : List Int) (sc : List Int) (on : SB) (at_ : SI) (se : List (Int × Int × Int)) (qu no : SI) (ov : SB) (us : List (Int × Int)) : (all (subL tAtN none' [] deep [.rop [.rop [.ro .u32 l], .arr .u32 16 x, .int .u32 pc, .bool ie, .bool eie, .int .u32 epc, .int .u32 tv, .int .u32 ca, .int .u32 ad, .rop [.ro .u32 ks, .arr .u32 16 sc, .bool on, .int .i64 at_, .ro (.flat (.int .i64) [.int .u32, .int .u32]) se], .int .i64 qu, .int .i64 no, .bool ov, .ro (.flat (.int .i64) [.int .u32]) us]] [.rop [.rop [.ro .u32 (mcV l x pc ie eie epc tv ca ad ks sc on at_ se qu no ov us).l], .arr .u32 16 (mcV l x pc ie eie epc tv ca ad ks sc on at_ se qu no ov us).c.r, .int .u32 (.full (mcV l x pc ie eie epc tv ca ad ks sc on at_ se qu no ov us).c.pc), .bool (.sym (mcV l x pc ie eie epc tv ca ad ks sc on at_ se qu no ov us).c.ie), .bool (.sym (mcV l x pc ie eie epc tv ca ad ks sc on at_ se qu no ov us).c.eie), .int .u32 (.full (mcV l x pc ie eie epc tv ca ad ks sc on at_ se qu no ov us).c.epc), .int .u32 (.full (mcV l x pc ie eie epc tv ca ad ks sc on at_ se qu no ov us).c.tv), .int .u32 (.full (mcV l x pc ie eie epc tv ca ad ks sc on at_ se qu no ov us).c.cause), .int .u32 (.full (mcV l x pc ie eie epc tv ca ad ks sc on at_ se qu no ov us).c.addr), .rop [.ro .u32 (mcV l x pc ie eie epc tv ca ad ks sc on at_ se qu no ov us).d.keys, .arr .u32 16 (mcV l x pc ie eie epc tv ca ad ks sc on at_ se qu no ov us).d.sec, .bool (.sym (mcV l x pc ie eie epc tv ca ad ks sc on at_ se qu no ov us).d.on), .int .i64 (.full (mcV l x pc ie eie epc tv ca ad ks sc on at_ se qu no ov us).d.at_), .ro seenT (mcV l x pc ie eie epc tv ca ad ks sc on at_ se qu no ov us).d.seen], .int .i64 (.full (mcV l x pc ie eie epc tv ca ad ks sc on at_ se qu no ov us).quota), .int .i64 (.full (mcV l x pc ie eie epc tv ca ad ks sc on at_ se qu no ov us).now), .bool (.sym (mcV l x pc ie eie epc tv ca ad ks sc on at_ se qu no ov us).over), .ro updT (mcV l x pc ie eie epc tv ca ad ks sc on at_ se qu no ov us).w]])) = (
  l = l ∧ x = x ∧ SI.val pc = SI.val pc ∧ SB.val ie = SB.val ie ∧ SB.val eie = SB.val eie ∧ SI.val epc = SI.val epc ∧ SI.val tv = SI.val tv ∧ SI.val ca = SI.val ca ∧ SI.val ad = SI.val ad ∧ ks = ks ∧ sc = sc ∧ SB.val on = SB.val on ∧ SI.val at_ = SI.val at_ ∧ se = se ∧ SI.val qu = SI.val qu ∧ SI.val no = SI.val no ∧ SB.val ov = SB.val ov ∧ us = us) := by kernel_rfl
abbrev TbMem0 (gl : List (Nat × SVal)) (b : Mc) : Prop := Tr.sat (newQ (env gl [(24, kmClone)]) (.ptr 0 0) ([(0, .cells [.own 1]), (1, .recs .u32 b.l)]) 2) (run (env gl [(24, kmClone)]) [] (bodyOf Tryz.f51) (start [(mLt b)] 8) (ends (env gl [(24, kmClone)]) Tryz.f51.results.toList))
theorem runbMem0 (gl : List (Nat × SVal)) (b : Mc) : (TbMem0 gl b) = (
  RQ (few b.l) (b.l = b.l)) := by kernel_rfl
theorem gbMem0 (b : Mc)  (hv : few b.l) : Box (TbMem0 gl b) := by
  refine .of (runbMem0 gl b) ?_
  exact ⟨hv, fun _ => rfl⟩
theorem cbMem0 : Con ea has gl 51 kbMem0 := by
  refine new_mkB Tryz.func51 8 (con := [(24, kmClone)]) ⟨cmClone, trivial⟩ (fun hA hr hv => ?_) (by kernel_rfl) (by kernel_rfl) Tryz.ntmps51
  unfold kbMem0 at hr; split at hr
  · rename_i l x pc ie eie epc tv ca ad ks sc on at_ se qu no ov us
    have := ret_ok hr; subst this
    replace hv := hv _ rfl
    exact ⟨_, [], _, _, _, ⟨rfl, rfl, rfl⟩, .of (argbMem0 l x pc ie eie epc tv ca ad ks sc on at_ se qu no ov us) (by simp), rfl, rfl, (fun W R ρ0 own0 hown => noSums (by kernel_rfl)), gbMem0 ⟨l, ⟨x, pc.val, ie.val, eie.val, epc.val, tv.val, ca.val, ad.val⟩, ⟨ks, sc, on.val, at_.val, se⟩, qu.val, no.val, ov.val, us⟩  hv⟩
  · cases hr
abbrev kbMem := borN [.box [.box [.ro .u32], .any, .any, .any, .any, .any, .any, .any, .any, .box [.ro .u32, .any, .any, .any, .ro seenT], .any, .any, .any, .ro updT]] kbMem0
theorem cbMem : Con ea has gl 51 kbMem := borN_ok cbMem0 _
def kbAt0 : List SVal → Nat → Acc ORes := fun a n => match a with | [.rop [.rop [.ro .u32 l], .arr .u32 16 x, .int .u32 pc, .bool ie, .bool eie, .int .u32 epc, .int .u32 tv, .int .u32 ca, .int .u32 ad, .rop [.ro .u32 ks, .arr .u32 16 sc, .bool on, .int .i64 at_, .ro (.flat (.int .i64) [.int .u32, .int .u32]) se], .int .i64 qu, .int .i64 no, .bool ov, .ro (.flat (.int .i64) [.int .u32]) us], .int .u32 y] => .ret ({ v := .tuple [.agg (fetchS (mcV l x pc ie eie epc tv ca ad ks sc on at_ se qu no ov us).l 0 y.val false).i.enc, .bool (.sym (decide ((fetchS (mcV l x pc ie eie epc tv ca ad ks sc on at_ se qu no ov us).l 0 y.val false).cause = 0)))] }) | _ => .fail "bAt0"
theorem argbAt0 (l : List Int) (x : List Int) (pc : SI) (ie eie : SB) (epc tv ca ad : SI) (ks : List Int) (sc : List Int) (on : SB) (at_ : SI) (se : List (Int × Int × Int)) (qu no : SI) (ov : SB) (us : List (Int × Int)) (y : SI) : (all (subL tAtN none' [] deep [.rop [.rop [.ro .u32 l], .arr .u32 16 x, .int .u32 pc, .bool ie, .bool eie, .int .u32 epc, .int .u32 tv, .int .u32 ca, .int .u32 ad, .rop [.ro .u32 ks, .arr .u32 16 sc, .bool on, .int .i64 at_, .ro (.flat (.int .i64) [.int .u32, .int .u32]) se], .int .i64 qu, .int .i64 no, .bool ov, .ro (.flat (.int .i64) [.int .u32]) us], .int .u32 y] [.rop [.rop [.ro .u32 (mcV l x pc ie eie epc tv ca ad ks sc on at_ se qu no ov us).l], .arr .u32 16 (mcV l x pc ie eie epc tv ca ad ks sc on at_ se qu no ov us).c.r, .int .u32 (.full (mcV l x pc ie eie epc tv ca ad ks sc on at_ se qu no ov us).c.pc), .bool (.sym (mcV l x pc ie eie epc tv ca ad ks sc on at_ se qu no ov us).c.ie), .bool (.sym (mcV l x pc ie eie epc tv ca ad ks sc on at_ se qu no ov us).c.eie), .int .u32 (.full (mcV l x pc ie eie epc tv ca ad ks sc on at_ se qu no ov us).c.epc), .int .u32 (.full (mcV l x pc ie eie epc tv ca ad ks sc on at_ se qu no ov us).c.tv), .int .u32 (.full (mcV l x pc ie eie epc tv ca ad ks sc on at_ se qu no ov us).c.cause), .int .u32 (.full (mcV l x pc ie eie epc tv ca ad ks sc on at_ se qu no ov us).c.addr), .rop [.ro .u32 (mcV l x pc ie eie epc tv ca ad ks sc on at_ se qu no ov us).d.keys, .arr .u32 16 (mcV l x pc ie eie epc tv ca ad ks sc on at_ se qu no ov us).d.sec, .bool (.sym (mcV l x pc ie eie epc tv ca ad ks sc on at_ se qu no ov us).d.on), .int .i64 (.full (mcV l x pc ie eie epc tv ca ad ks sc on at_ se qu no ov us).d.at_), .ro seenT (mcV l x pc ie eie epc tv ca ad ks sc on at_ se qu no ov us).d.seen], .int .i64 (.full (mcV l x pc ie eie epc tv ca ad ks sc on at_ se qu no ov us).quota), .int .i64 (.full (mcV l x pc ie eie epc tv ca ad ks sc on at_ se qu no ov us).now), .bool (.sym (mcV l x pc ie eie epc tv ca ad ks sc on at_ se qu no ov us).over), .ro updT (mcV l x pc ie eie epc tv ca ad ks sc on at_ se qu no ov us).w], .int .u32 (.full y.val)])) = (
  l = l ∧ x = x ∧ SI.val pc = SI.val pc ∧ SB.val ie = SB.val ie ∧ SB.val eie = SB.val eie ∧ SI.val epc = SI.val epc ∧ SI.val tv = SI.val tv ∧ SI.val ca = SI.val ca ∧ SI.val ad = SI.val ad ∧ ks = ks ∧ sc = sc ∧ SB.val on = SB.val on ∧ SI.val at_ = SI.val at_ ∧ se = se ∧ SI.val qu = SI.val qu ∧ SI.val no = SI.val no ∧ SB.val ov = SB.val ov ∧ us = us ∧ SI.val y = SI.val y) := by kernel_rfl
abbrev TbAt0 (gl : List (Nat × SVal)) (b : Mc) (y : Int) : Prop := Tr.sat (plainQ (.tuple [.agg (fetchS b.l 0 y false).i.enc, .bool (.sym (decide ((fetchS b.l 0 y false).cause = 0)))])) (run (env gl [(66, kmFetchB)]) [] (bodyOf Tryz.f92) (start [(mLt b), .int .u32 (.full y)] 21) (ends (env gl [(66, kmFetchB)]) Tryz.f92.results.toList))
theorem runbAt0 (gl : List (Nat × SVal)) (b : Mc) (y : Int) : (TbAt0 gl b y) = (
  (fetchS b.l (0 : Int) y false).i.op = (fetchS b.l (0 : Int) y false).i.op ∧ (fetchS b.l (0 : Int) y false).i.a = (fetchS b.l (0 : Int) y false).i.a ∧ (fetchS b.l (0 : Int) y false).i.b = (fetchS b.l (0 : Int) y false).i.b ∧ (fetchS b.l (0 : Int) y false).i.c = (fetchS b.l (0 : Int) y false).i.c ∧ (fetchS b.l (0 : Int) y false).i.imm = (fetchS b.l (0 : Int) y false).i.imm ∧ decide ((fetchS b.l (0 : Int) y false).cause = 0) = decide ((fetchS b.l (0 : Int) y false).cause = 0)) := by kernel_rfl
theorem gbAt0 (b : Mc) (y : Int)  : Box (TbAt0 gl b y) := by
  refine .of (runbAt0 gl b y) ?_
  exact ⟨rfl, rfl, rfl, rfl, rfl, rfl⟩
theorem cbAt0 : Con ea has gl 92 kbAt0 := by
  refine plain_mkB Tryz.func92 21 (con := [(66, kmFetchB)]) ⟨cmFetchB, trivial⟩ (fun hA hr hv => ?_) (by kernel_rfl) (by kernel_rfl) Tryz.ntmps92
  unfold kbAt0 at hr; split at hr
  · rename_i l x pc ie eie epc tv ca ad ks sc on at_ se qu no ov us y
    have := ret_ok hr; subst this
    exact ⟨_, [], rfl, rfl, .of (argbAt0 l x pc ie eie epc tv ca ad ks sc on at_ se qu no ov us y) (by simp), rfl, (fun W R ρ0 own0 hown => noSums (by kernel_rfl)), gbAt0 ⟨l, ⟨x, pc.val, ie.val, eie.val, epc.val, tv.val, ca.val, ad.val⟩, ⟨ks, sc, on.val, at_.val, se⟩, qu.val, no.val, ov.val, us⟩ y.val ⟩
  · cases hr
abbrev kbAt := bor [.box [.box [.ro .u32], .any, .any, .any, .any, .any, .any, .any, .any, .box [.ro .u32, .any, .any, .any, .ro seenT], .any, .any, .any, .ro updT], .any] kbAt0
theorem cbAt : Con ea has gl 92 kbAt := bor_ok cbAt0 _
def kbNext0 : List SVal → Nat → Acc ORes := fun a n => match a with | [.rop [.rop [.ro .u32 l], .arr .u32 16 x, .int .u32 pc, .bool ie, .bool eie, .int .u32 epc, .int .u32 tv, .int .u32 ca, .int .u32 ad, .rop [.ro .u32 ks, .arr .u32 16 sc, .bool on, .int .i64 at_, .ro (.flat (.int .i64) [.int .u32, .int .u32]) se], .int .i64 qu, .int .i64 no, .bool ov, .ro (.flat (.int .i64) [.int .u32]) us]] => .ret ({ v := .tuple [.agg (fetchS (mcV l x pc ie eie epc tv ca ad ks sc on at_ se qu no ov us).l 0 (mcV l x pc ie eie epc tv ca ad ks sc on at_ se qu no ov us).c.pc false).i.enc, .bool (.sym (decide ((fetchS (mcV l x pc ie eie epc tv ca ad ks sc on at_ se qu no ov us).l 0 (mcV l x pc ie eie epc tv ca ad ks sc on at_ se qu no ov us).c.pc false).cause = 0)))] }) | _ => .fail "bNext0"
theorem argbNext0 (l : List Int) (x : List Int) (pc : SI) (ie eie : SB) (epc tv ca ad : SI) (ks : List Int) (sc : List Int) (on : SB) (at_ : SI) (se : List (Int × Int × Int)) (qu no : SI) (ov : SB) (us : List (Int × Int)) : (all (subL tAtN none' [] deep [.rop [.rop [.ro .u32 l], .arr .u32 16 x, .int .u32 pc, .bool ie, .bool eie, .int .u32 epc, .int .u32 tv, .int .u32 ca, .int .u32 ad, .rop [.ro .u32 ks, .arr .u32 16 sc, .bool on, .int .i64 at_, .ro (.flat (.int .i64) [.int .u32, .int .u32]) se], .int .i64 qu, .int .i64 no, .bool ov, .ro (.flat (.int .i64) [.int .u32]) us]] [.rop [.rop [.ro .u32 (mcV l x pc ie eie epc tv ca ad ks sc on at_ se qu no ov us).l], .arr .u32 16 (mcV l x pc ie eie epc tv ca ad ks sc on at_ se qu no ov us).c.r, .int .u32 (.full (mcV l x pc ie eie epc tv ca ad ks sc on at_ se qu no ov us).c.pc), .bool (.sym (mcV l x pc ie eie epc tv ca ad ks sc on at_ se qu no ov us).c.ie), .bool (.sym (mcV l x pc ie eie epc tv ca ad ks sc on at_ se qu no ov us).c.eie), .int .u32 (.full (mcV l x pc ie eie epc tv ca ad ks sc on at_ se qu no ov us).c.epc), .int .u32 (.full (mcV l x pc ie eie epc tv ca ad ks sc on at_ se qu no ov us).c.tv), .int .u32 (.full (mcV l x pc ie eie epc tv ca ad ks sc on at_ se qu no ov us).c.cause), .int .u32 (.full (mcV l x pc ie eie epc tv ca ad ks sc on at_ se qu no ov us).c.addr), .rop [.ro .u32 (mcV l x pc ie eie epc tv ca ad ks sc on at_ se qu no ov us).d.keys, .arr .u32 16 (mcV l x pc ie eie epc tv ca ad ks sc on at_ se qu no ov us).d.sec, .bool (.sym (mcV l x pc ie eie epc tv ca ad ks sc on at_ se qu no ov us).d.on), .int .i64 (.full (mcV l x pc ie eie epc tv ca ad ks sc on at_ se qu no ov us).d.at_), .ro seenT (mcV l x pc ie eie epc tv ca ad ks sc on at_ se qu no ov us).d.seen], .int .i64 (.full (mcV l x pc ie eie epc tv ca ad ks sc on at_ se qu no ov us).quota), .int .i64 (.full (mcV l x pc ie eie epc tv ca ad ks sc on at_ se qu no ov us).now), .bool (.sym (mcV l x pc ie eie epc tv ca ad ks sc on at_ se qu no ov us).over), .ro updT (mcV l x pc ie eie epc tv ca ad ks sc on at_ se qu no ov us).w]])) = (
  l = l ∧ x = x ∧ SI.val pc = SI.val pc ∧ SB.val ie = SB.val ie ∧ SB.val eie = SB.val eie ∧ SI.val epc = SI.val epc ∧ SI.val tv = SI.val tv ∧ SI.val ca = SI.val ca ∧ SI.val ad = SI.val ad ∧ ks = ks ∧ sc = sc ∧ SB.val on = SB.val on ∧ SI.val at_ = SI.val at_ ∧ se = se ∧ SI.val qu = SI.val qu ∧ SI.val no = SI.val no ∧ SB.val ov = SB.val ov ∧ us = us) := by kernel_rfl
abbrev TbNext0 (gl : List (Nat × SVal)) (b : Mc) : Prop := Tr.sat (plainQ (.tuple [.agg (fetchS b.l 0 b.c.pc false).i.enc, .bool (.sym (decide ((fetchS b.l 0 b.c.pc false).cause = 0)))])) (run (env gl [(92, kbAt)]) [] (bodyOf Tryz.f48) (start [(mLt b)] 13) (ends (env gl [(92, kbAt)]) Tryz.f48.results.toList))
theorem runbNext0 (gl : List (Nat × SVal)) (b : Mc) : (TbNext0 gl b) = (
  (fetchS b.l (0 : Int) b.c.pc false).i.op = (fetchS b.l (0 : Int) b.c.pc false).i.op ∧ (fetchS b.l (0 : Int) b.c.pc false).i.a = (fetchS b.l (0 : Int) b.c.pc false).i.a ∧ (fetchS b.l (0 : Int) b.c.pc false).i.b = (fetchS b.l (0 : Int) b.c.pc false).i.b ∧ (fetchS b.l (0 : Int) b.c.pc false).i.c = (fetchS b.l (0 : Int) b.c.pc false).i.c ∧ (fetchS b.l (0 : Int) b.c.pc false).i.imm = (fetchS b.l (0 : Int) b.c.pc false).i.imm ∧ decide ((fetchS b.l (0 : Int) b.c.pc false).cause = 0) = decide ((fetchS b.l (0 : Int) b.c.pc false).cause = 0)) := by kernel_rfl
theorem gbNext0 (b : Mc)  : Box (TbNext0 gl b) := by
  refine .of (runbNext0 gl b) ?_
  exact ⟨rfl, rfl, rfl, rfl, rfl, rfl⟩
theorem cbNext0 : Con ea has gl 48 kbNext0 := by
  refine plain_mkB Tryz.func48 13 (con := [(92, kbAt)]) ⟨cbAt, trivial⟩ (fun hA hr hv => ?_) (by kernel_rfl) (by kernel_rfl) Tryz.ntmps48
  unfold kbNext0 at hr; split at hr
  · rename_i l x pc ie eie epc tv ca ad ks sc on at_ se qu no ov us
    have := ret_ok hr; subst this
    exact ⟨_, [], rfl, rfl, .of (argbNext0 l x pc ie eie epc tv ca ad ks sc on at_ se qu no ov us) (by simp), rfl, (fun W R ρ0 own0 hown => noSums (by kernel_rfl)), gbNext0 ⟨l, ⟨x, pc.val, ie.val, eie.val, epc.val, tv.val, ca.val, ad.val⟩, ⟨ks, sc, on.val, at_.val, se⟩, qu.val, no.val, ov.val, us⟩ ⟩
  · cases hr
abbrev kbNext := bor [.box [.box [.ro .u32], .any, .any, .any, .any, .any, .any, .any, .any, .box [.ro .u32, .any, .any, .any, .ro seenT], .any, .any, .any, .ro updT]] kbNext0
theorem cbNext : Con ea has gl 48 kbNext := bor_ok cbNext0 _
def kbClone0 : List SVal → Nat → Acc ORes := fun a n => match a with | [.rop [.rop [.ro .u32 l], .arr .u32 16 x, .int .u32 pc, .bool ie, .bool eie, .int .u32 epc, .int .u32 tv, .int .u32 ca, .int .u32 ad, .rop [.ro .u32 ks, .arr .u32 16 sc, .bool on, .int .i64 at_, .ro (.flat (.int .i64) [.int .u32, .int .u32]) se], .int .i64 qu, .int .i64 no, .bool ov, .ro (.flat (.int .i64) [.int .u32]) us]] => .ret (newR n (.ptr 0 0) (mHp (mcV l x pc ie eie epc tv ca ad ks sc on at_ se qu no ov us)) 7 (some ((few (mcV l x pc ie eie epc tv ca ad ks sc on at_ se qu no ov us).l ∧ few (mcV l x pc ie eie epc tv ca ad ks sc on at_ se qu no ov us).d.keys) ∧ few (mcV l x pc ie eie epc tv ca ad ks sc on at_ se qu no ov us).d.seen ∧ few (mcV l x pc ie eie epc tv ca ad ks sc on at_ se qu no ov us).w))) | _ => .fail "bClone0"
theorem argbClone0 (l : List Int) (x : List Int) (pc : SI) (ie eie : SB) (epc tv ca ad : SI) (ks : List Int) (sc : List Int) (on : SB) (at_ : SI) (se : List (Int × Int × Int)) (qu no : SI) (ov : SB) (us : List (Int × Int)) : (all (subL tAtN none' [] deep [.rop [.rop [.ro .u32 l], .arr .u32 16 x, .int .u32 pc, .bool ie, .bool eie, .int .u32 epc, .int .u32 tv, .int .u32 ca, .int .u32 ad, .rop [.ro .u32 ks, .arr .u32 16 sc, .bool on, .int .i64 at_, .ro (.flat (.int .i64) [.int .u32, .int .u32]) se], .int .i64 qu, .int .i64 no, .bool ov, .ro (.flat (.int .i64) [.int .u32]) us]] [.rop [.rop [.ro .u32 (mcV l x pc ie eie epc tv ca ad ks sc on at_ se qu no ov us).l], .arr .u32 16 (mcV l x pc ie eie epc tv ca ad ks sc on at_ se qu no ov us).c.r, .int .u32 (.full (mcV l x pc ie eie epc tv ca ad ks sc on at_ se qu no ov us).c.pc), .bool (.sym (mcV l x pc ie eie epc tv ca ad ks sc on at_ se qu no ov us).c.ie), .bool (.sym (mcV l x pc ie eie epc tv ca ad ks sc on at_ se qu no ov us).c.eie), .int .u32 (.full (mcV l x pc ie eie epc tv ca ad ks sc on at_ se qu no ov us).c.epc), .int .u32 (.full (mcV l x pc ie eie epc tv ca ad ks sc on at_ se qu no ov us).c.tv), .int .u32 (.full (mcV l x pc ie eie epc tv ca ad ks sc on at_ se qu no ov us).c.cause), .int .u32 (.full (mcV l x pc ie eie epc tv ca ad ks sc on at_ se qu no ov us).c.addr), .rop [.ro .u32 (mcV l x pc ie eie epc tv ca ad ks sc on at_ se qu no ov us).d.keys, .arr .u32 16 (mcV l x pc ie eie epc tv ca ad ks sc on at_ se qu no ov us).d.sec, .bool (.sym (mcV l x pc ie eie epc tv ca ad ks sc on at_ se qu no ov us).d.on), .int .i64 (.full (mcV l x pc ie eie epc tv ca ad ks sc on at_ se qu no ov us).d.at_), .ro seenT (mcV l x pc ie eie epc tv ca ad ks sc on at_ se qu no ov us).d.seen], .int .i64 (.full (mcV l x pc ie eie epc tv ca ad ks sc on at_ se qu no ov us).quota), .int .i64 (.full (mcV l x pc ie eie epc tv ca ad ks sc on at_ se qu no ov us).now), .bool (.sym (mcV l x pc ie eie epc tv ca ad ks sc on at_ se qu no ov us).over), .ro updT (mcV l x pc ie eie epc tv ca ad ks sc on at_ se qu no ov us).w]])) = (
  l = l ∧ x = x ∧ SI.val pc = SI.val pc ∧ SB.val ie = SB.val ie ∧ SB.val eie = SB.val eie ∧ SI.val epc = SI.val epc ∧ SI.val tv = SI.val tv ∧ SI.val ca = SI.val ca ∧ SI.val ad = SI.val ad ∧ ks = ks ∧ sc = sc ∧ SB.val on = SB.val on ∧ SI.val at_ = SI.val at_ ∧ se = se ∧ SI.val qu = SI.val qu ∧ SI.val no = SI.val no ∧ SB.val ov = SB.val ov ∧ us = us) := by kernel_rfl
abbrev TbClone0 (gl : List (Nat × SVal)) (b : Mc) : Prop := Tr.sat (newQ (env gl [(24, kmClone), (29, kdClone)]) (.ptr 0 0) (mHp b) 7) (run (env gl [(24, kmClone), (29, kdClone)]) [] (bodyOf Tryz.f11) (start [(mLt b)] 25) (ends (env gl [(24, kmClone), (29, kdClone)]) Tryz.f11.results.toList))
theorem runbClone0 (gl : List (Nat × SVal)) (b : Mc) : (TbClone0 gl b) = (
  RQ (few b.l) (RQ (few b.d.keys ∧ few b.d.seen) (RQ (List.length b.w ≤ 137438953472) (EqM b b)))) := by kernel_rfl
theorem gbClone0 (b : Mc)  (hv : (few b.l ∧ few b.d.keys) ∧ few b.d.seen ∧ few b.w) : Box (TbClone0 gl b) := by
  refine .of (runbClone0 gl b) ?_
  obtain ⟨⟨h1, h2⟩, h3, h4⟩ := hv
  exact ⟨h1, fun _ => ⟨⟨h2, h3⟩, fun _ => ⟨by unfold few at h4; omega, fun _ => mc_eq rfl⟩⟩⟩
theorem cbClone0 : Con ea has gl 11 kbClone0 := by
  refine new_mkB Tryz.func11 25 (con := [(24, kmClone), (29, kdClone)]) ⟨cmClone, cdClone, trivial⟩ (fun hA hr hv => ?_) (by kernel_rfl) (by kernel_rfl) Tryz.ntmps11
  unfold kbClone0 at hr; split at hr
  · rename_i l x pc ie eie epc tv ca ad ks sc on at_ se qu no ov us
    have := ret_ok hr; subst this
    replace hv := hv _ rfl
    exact ⟨_, [], _, _, _, ⟨rfl, rfl, rfl⟩, .of (argbClone0 l x pc ie eie epc tv ca ad ks sc on at_ se qu no ov us) (by simp), rfl, rfl, (fun W R ρ0 own0 hown => noSums (by kernel_rfl)), gbClone0 ⟨l, ⟨x, pc.val, ie.val, eie.val, epc.val, tv.val, ca.val, ad.val⟩, ⟨ks, sc, on.val, at_.val, se⟩, qu.val, no.val, ov.val, us⟩  hv⟩
  · cases hr
abbrev kbClone := borN [.box [.box [.ro .u32], .any, .any, .any, .any, .any, .any, .any, .any, .box [.ro .u32, .any, .any, .any, .ro seenT], .any, .any, .any, .ro updT]] kbClone0
theorem cbClone : Con ea has gl 11 kbClone := borN_ok cbClone0 _
def kbNewA : List SVal → Nat → Acc ORes := fun a n => match a with | [.rop [.ro .u32 l], .agg [.arr .u32 16 x, .int .u32 pc, .bool ie, .bool eie, .int .u32 epc, .int .u32 tv, .int .u32 ca, .int .u32 ad], .int .i64 qu] => .ret (newR n (.tuple [.ptr 0 0, .nilIface]) (mHp ⟨l, (⟨x, pc.val, ie.val, eie.val, epc.val, tv.val, ca.val, ad.val⟩ : Cpu), Dv.nul, qu.val, 0, false, []⟩) 7 (some ((17 ≤ qu.val ∧ qu.val ≤ 256) ∧ few l))) | _ => .fail "bNewA"
theorem argbNewA (l : List Int) (x : List Int) (pc : SI) (ie eie : SB) (epc tv ca ad : SI) (qu : SI) : (all (subL tAtN none' [] deep [.rop [.ro .u32 l], .agg [.arr .u32 16 x, .int .u32 pc, .bool ie, .bool eie, .int .u32 epc, .int .u32 tv, .int .u32 ca, .int .u32 ad], .int .i64 qu] [.rop [.ro .u32 l], .agg (⟨x, pc.val, ie.val, eie.val, epc.val, tv.val, ca.val, ad.val⟩ : Cpu).enc, .int .i64 (.full qu.val)])) = (
  l = l ∧ x = x ∧ SI.val pc = SI.val pc ∧ SB.val ie = SB.val ie ∧ SB.val eie = SB.val eie ∧ SI.val epc = SI.val epc ∧ SI.val tv = SI.val tv ∧ SI.val ca = SI.val ca ∧ SI.val ad = SI.val ad ∧ SI.val qu = SI.val qu) := by kernel_rfl
abbrev TbNewA (gl : List (Nat × SVal)) (l : List Int) (p : Cpu) (qu : Int) : Prop := Tr.sat (newQ (env gl [(24, kmClone)]) (.tuple [.ptr 0 0, .nilIface]) (mHp ⟨l, p, Dv.nul, qu, 0, false, []⟩) 7) (run (env gl [(24, kmClone)]) [(1000000, cutL { fr := [(0, .rop [.ro .u32 l]), (2, .int .i64 (.sym qu 17 256)), (4, .ptr 0 0)], hp := [(0, some (.cells p.enc))], next := 1, sz := 23 })] (bodyOf Tryz.f6) (start [.rop [.ro .u32 l], .agg p.enc, .int .i64 (.full qu)] 23) (ends (env gl [(24, kmClone)]) Tryz.f6.results.toList))
theorem runbNewA (gl : List (Nat × SVal)) (l : List Int) (p : Cpu) (qu : Int) : (TbNewA gl l p qu) = (
  RQ (l = l ∧ qu = qu ∧ ((17 : Int) ≤ qu ∧ qu ≤ 256) ∧ p.r = p.r ∧ p.pc = p.pc ∧ p.ie = p.ie ∧ p.eie = p.eie ∧ p.epc = p.epc ∧ p.tv = p.tv ∧ p.cause = p.cause ∧ p.addr = p.addr) (RQ (few l) (p.r = p.r ∧ p.pc = p.pc ∧ p.ie = p.ie ∧ p.eie = p.eie ∧ p.epc = p.epc ∧ p.tv = p.tv ∧ p.cause = p.cause ∧ p.addr = p.addr ∧ qu = qu ∧ (0 : Int) = (0 : Int) ∧ false = false ∧ List.replicate (16 : Nat) (0 : RT.ty RT.u32) = Dv.nul.sec ∧ false = Dv.nul.on ∧ (0 : Int) = Dv.nul.at_ ∧ l = l ∧ @List.nil (Int × Int) = @List.nil (RT.ty updT) ∧ Dv.nul.keys = @List.nil (RT.ty RT.u32) ∧ Dv.nul.seen = @List.nil (RT.ty seenT)))) := by kernel_rfl
theorem gbNewA (l : List Int) (p : Cpu) (qu : Int)  (hv : (17 ≤ qu ∧ qu ≤ 256) ∧ few l) : Box (TbNewA gl l p qu) := by
  refine .of (runbNewA gl l p qu) ?_
  exact ⟨⟨rfl, rfl, hv.1, rfl, rfl, rfl, rfl, rfl, rfl, rfl, rfl⟩, fun _ => ⟨hv.2, fun _ => ⟨rfl, rfl, rfl, rfl, rfl, rfl, rfl, rfl, rfl, rfl, rfl, rfl, rfl, rfl, rfl, rfl, rfl, rfl⟩⟩⟩
theorem cbNewA : Con ea has gl 6 kbNewA := by
  refine new_mkB Tryz.func6 23 (con := [(24, kmClone)]) ⟨cmClone, trivial⟩ (fun hA hr hv => ?_) (by kernel_rfl) (by kernel_rfl) Tryz.ntmps6
  unfold kbNewA at hr; split at hr
  · rename_i l x pc ie eie epc tv ca ad qu
    have := ret_ok hr; subst this
    replace hv := hv _ rfl
    exact ⟨_, [(1000000, cutL { fr := [(0, .rop [.ro .u32 l]), (2, .int .i64 (.sym qu.val 17 256)), (4, .ptr 0 0)], hp := [(0, some (.cells (⟨x, pc.val, ie.val, eie.val, epc.val, tv.val, ca.val, ad.val⟩ : Cpu).enc))], next := 1, sz := 23 })], _, _, _, ⟨rfl, rfl, rfl⟩, .of (argbNewA l x pc ie eie epc tv ca ad qu) (by simp), rfl, rfl, (fun W R ρ0 own0 hown => noSums (by kernel_rfl)), gbNewA l ⟨x, pc.val, ie.val, eie.val, epc.val, tv.val, ca.val, ad.val⟩ qu.val  hv⟩
  · cases hr
abbrev kbNewAB := borN [.box [.ro .u32], .any, .any] kbNewA
theorem cbNewAB : Con ea has gl 6 kbNewAB := borN_ok cbNewA _
end
end Go.Proofs.YtpjccdncokamlaaGreatDoor

