/- Contracts. -/
import Derived.Test.YtpjccdncokamlaaGreatDoorQFnStp
set_option linter.unusedVariables false
set_option linter.unusedSimpArgs false
namespace Go.Proofs.YtpjccdncokamlaaGreatDoor
open Go.RowKit Go.Sy Go.Fac
section
variable {ea : Ear} {has : Int → Prop} {gl : List (Nat × SVal)}
theorem stepOk : Cons Tryz.prog (ctx ea has) gl stepCons := ⟨cmWaits, cmRang, cbEnter, cOnce, cbdo, trivial⟩
theorem inv_nt {E : Env} {C : Ctx} {W0 W : World} {R0 own0 R : Nat → Prop} {ρ0 ρ : Nat → Option Value} {s : SState} {vs : Array Value} {n m : Nat} (h : m = n) (I : Inv E C gl W0 R0 own0 ρ0 s ⟨vs ++ Array.replicate (n - vs.size) undef, []⟩ W R ρ) : Inv E C gl W0 R0 own0 ρ0 s ⟨vs ++ Array.replicate (m - vs.size) undef, []⟩ W R ρ := by
  subst h; exact I
set_option maxHeartbeats 400000 in
theorem hbStep (b : Mc) (hv : mcOk b ∧ few b.l) {W : World} {R own0 : Nat → Prop} {ρ0 : Nat → Option Value} {R2 : Nat → Prop} {ρ2 : Nat → Option Value} {vs : List Value} (I : Inv (envK gl stepCons 4) (ctx ea has) gl W R own0 ρ0 (S1 [.ptr 0 0] (mHpO b) 7 72) ⟨vs.toArray ++ Array.replicate (72 - vs.toArray.size) undef, []⟩ W R2 ρ2) (Z : Ending → World → Prop)
    (hZ : ∀ e s v W' R1 ρ1, newQ (envK gl stepCons 4) (.bool (.sym (!b.over))) (mHp (stepM true b)) (4 + 3) e s → Inv (envK gl stepCons 4) (ctx ea has) gl W R own0 ρ0 s ⟨#[v], []⟩ W' R1 ρ1 → Z (.returned v) W') : Calls Tryz.prog 12 vs.toArray W Z :=
  dfr_run (C := ctx ea has) (E := envK gl stepCons 4) (f := 12) (fn := Tryz.f12) (fc := 30) (fnc := Tryz.f30) (cc := bodyOf Tryz.f30) (rt := 2) (k := 1) (d := 10) (q := 7) (w := .bool (.lit true)) (wr := .bool (.lit false))
    (pN := b.over = false) (pR := b.over = true) (pM := (intrM true b).over = false) (pX := True)
    (s0 := S1 [.ptr 0 0] (mHpO b) 7 72) (sA := stA b) (sD := stA b) (sR := stR b) (sI := stA (intrM true b)) (sB := stB (stepN true b)) (sE := stE (tickM (stepN true b))) (ls := []) (ls2 := [])
    (envK_ok stepOk) rfl Tryz.func12 stp_body (by kernel_rfl) Tryz.func30 (by kernel_rfl) (by kernel_rfl) (by kernel_rfl) (by kernel_rfl)
    (inv_nt Tryz.ntmps12 I) (t0 b) (t1 b) (by kernel_rfl) rfl rfl rfl (by kernel_rfl) (by kernel_rfl) (fun ho df => t2 b hv.1 ho df) (fun ho hm df => t4 (intrM true b) (intr_ok hv ho hm) df (stepN true b) (stepN_go hm))
    rfl rfl rfl rfl (fun _ => t3 (stepN true b)) (Qf := newQ (envK gl stepCons 4) (.bool (.sym (!b.over))) (mHp (stepM true b)) 7) (fun h => tR b h) (fun h => tE b h) hZ
def kbStep : List SVal → Nat → Acc ORes := fun a n => match a with
  | [.ptr q 0] => .look q fun cc => match cc with | some (.cells [.ptr m 0, .arr .u32 16 x, .int .u32 pc, .bool ie, .bool eie, .int .u32 epc, .int .u32 tv, .int .u32 ca, .int .u32 ad, .ptr d 0, .int .i64 qu, .int .i64 no, .bool ov, .own w]) => (.look m fun cc => match cc with | some (.cells [.own p]) => (.look d fun cc => match cc with | some (.cells [.own k, .arr .u32 16 sc, .bool on, .int .i64 at_, .own e]) => (.look p fun cc => match cc with | some (.recs .u32 l) => (.look w fun cc => match cc with | some (.recs (.flat (.int .i64) [.int .u32]) us) => (.look k fun cc => match cc with | some (.recs .u32 ks) => (.look e fun cc => match cc with | some (.recs (.flat (.int .i64) [.int .u32, .int .u32]) se) => (match nodupB [q, m, d, p, w, k, e] with | true => .ret (genR [q, m, d, p] (gone [w, k, e]) n (.bool (.sym (!(mcV l x pc ie eie epc tv ca ad ks sc on at_ se qu no ov us).over))) (mHp (stepM true (mcV l x pc ie eie epc tv ca ad ks sc on at_ se qu no ov us))) 3 (some (mcOk (mcV l x pc ie eie epc tv ca ad ks sc on at_ se qu no ov us) ∧ few (mcV l x pc ie eie epc tv ca ad ks sc on at_ se qu no ov us).l))) | false => .fail "bStep") | _ => .fail "bStep") | _ => .fail "bStep") | _ => .fail "bStep") | _ => .fail "bStep") | _ => .fail "bStep") | _ => .fail "bStep") | _ => .fail "bStep"
  | _ => .fail "bStep"
theorem fitbStep (gl : List (Nat × SVal)) (x : List Int) (pc : SI) (ie eie : SB) (epc tv ca ad : SI) (qu no : SI) (ov : SB) (sc : List Int) (on : SB) (at_ : SI) (l : List Int) (us : List (Int × Int)) (ks : List Int) (se : List (Int × Int × Int)) : (fits (envK gl [(31, kmWaits), (32, kmRang), (33, kbEnter), (34, kOnce), (35, kbdo)] 4) (S1 [.ptr 0 0] (numC 0 (mC0 l x pc ie eie epc tv ca ad ks sc on at_ se qu no ov us)) 7 72) (S1 [.ptr 0 0] (mHpO (mcV l x pc ie eie epc tv ca ad ks sc on at_ se qu no ov us)) 7 72)) = (
  x = x ∧ SI.val pc = SI.val pc ∧ SB.val ie = SB.val ie ∧ SB.val eie = SB.val eie ∧ SI.val epc = SI.val epc ∧ SI.val tv = SI.val tv ∧ SI.val ca = SI.val ca ∧ SI.val ad = SI.val ad ∧ SI.val qu = SI.val qu ∧ SI.val no = SI.val no ∧ SB.val ov = SB.val ov ∧ sc = sc ∧ SB.val on = SB.val on ∧ SI.val at_ = SI.val at_ ∧ l = l ∧ us = us ∧ ks = ks ∧ se = se) := by kernel_rfl
set_option maxHeartbeats 4000000 in
theorem cbStep : Con ea has gl 12 kbStep := by
  refine gen_mk0 Tryz.func12 72 4 (con := [(31, kmWaits), (32, kmRang), (33, kbEnter), (34, kOnce), (35, kbdo)]) ⟨cmWaits, cmRang, cbEnter, cOnce, cbdo, trivial⟩ (fun hA hr hv => ?_) (by kernel_rfl) (by kernel_rfl)
  unfold kbStep at hr; split at hr
  · rename_i q
    simp only [Acc.run] at hr
    split at hr
    · rename_i m x pc ie eie epc tv ca ad d qu no ov w hq
      simp only [Acc.run] at hr
      split at hr
      · rename_i p hm
        simp only [Acc.run] at hr
        split at hr
        · rename_i k sc on at_ e hd
          simp only [Acc.run] at hr
          split at hr
          · rename_i l hp
            simp only [Acc.run] at hr
            split at hr
            · rename_i us hw
              simp only [Acc.run] at hr
              split at hr
              · rename_i ks hk
                simp only [Acc.run] at hr
                split at hr
                · rename_i se he
                  split at hr
                  · rename_i hnd
                    have := ret_ok hr; subst this
                    exact ⟨[q, m, d, p], [w, k, e], (mC0 l x pc ie eie epc tv ca ad ks sc on at_ se qu no ov us), [.ptr 0 0], (S1 [.ptr 0 0] (mHpO (mcV l x pc ie eie epc tv ca ad ks sc on at_ se qu no ov us)) 7 72), .bool (.sym (!(mcV l x pc ie eie epc tv ca ad ks sc on at_ se qu no ov us).over)), mHp (stepM true (mcV l x pc ie eie epc tv ca ad ks sc on at_ se qu no ov us)), 3, rfl, rfl, ⟨rfl, rfl, rfl⟩, hnd, ⟨hq, hm, hd, hp, hw, hk, he, trivial⟩, rfl, rfl, .of (fitbStep gl x pc ie eie epc tv ca ad qu no ov sc on at_ l us ks se) (by simp [nilR]), rfl, fun _ _ _ _ _ _ _ I Z hZ => hbStep ⟨l, ⟨x, pc.val, ie.val, eie.val, epc.val, tv.val, ca.val, ad.val⟩, ⟨ks, sc, on.val, at_.val, se⟩, qu.val, no.val, ov.val, us⟩ (hv _ rfl) I Z hZ⟩
                  · cases hr
                · cases hr
              · cases hr
            · cases hr
          · cases hr
        · cases hr
      · cases hr
    · cases hr
  · cases hr
end
end Go.Proofs.YtpjccdncokamlaaGreatDoor

