/- Contracts. -/
import Derived.Test.YtpjccdncokamlaaGreatDoorQFnSeeB
import Derived.Test.YtpjccdncokamlaaGreatDoorQFnBareT
import Derived.Test.YtpjccdncokamlaaGreatDoorQFnStep
import Derived.Test.YtpjccdncokamlaaGreatDoorQFnEq7
import Derived.Test.YtpjccdncokamlaaGreatDoorQBareL
set_option maxHeartbeats 4000000
set_option linter.unusedVariables false
set_option linter.unusedSimpArgs false
namespace Go.Proofs.YtpjccdncokamlaaGreatDoor
open Go.RowKit Go.Sy Go.Fac
section
variable {ea : Ear} {has : Int → Prop} {gl : List (Nat × SVal)}
def kSameSn : List SVal → Nat → Acc ORes := fun a n => match a with | [.agg [.int .i64 a, .int .u32 b, .int .u32 c], .agg [.int .i64 a', .int .u32 b', .int .u32 c']] => .ret ({ v := .bool (.lit true), vc := some ((a'.val, b'.val, c'.val) = (a.val, b.val, c.val)) }) | _ => .fail "SameSn"
theorem argSameSn (a b c a' b' c' : SI) : (all (subL tAtN none' [] deep [.agg [.int .i64 a, .int .u32 b, .int .u32 c], .agg [.int .i64 a', .int .u32 b', .int .u32 c']] [.agg [.int .i64 (.full (a.val, b.val, c.val).1), .int .u32 (.full (a.val, b.val, c.val).2.1), .int .u32 (.full (a.val, b.val, c.val).2.2)], .agg [.int .i64 (.full (a'.val, b'.val, c'.val).1), .int .u32 (.full (a'.val, b'.val, c'.val).2.1), .int .u32 (.full (a'.val, b'.val, c'.val).2.2)]])) = (
  SI.val a = SI.val a ∧ SI.val b = SI.val b ∧ SI.val c = SI.val c ∧ SI.val a' = SI.val a' ∧ SI.val b' = SI.val b' ∧ SI.val c' = SI.val c') := by kernel_rfl
abbrev TSameSn (gl : List (Nat × SVal)) (s t : Int × Int × Int) : Prop := Tr.sat (plainQ (.bool (.lit true))) (run (env gl []) [] (bodyOf Tryz.f90) (start [.agg [.int .i64 (.full s.1), .int .u32 (.full s.2.1), .int .u32 (.full s.2.2)], .agg [.int .i64 (.full t.1), .int .u32 (.full t.2.1), .int .u32 (.full t.2.2)]] 24) (ends (env gl []) Tryz.f90.results.toList))
theorem runSameSn (gl : List (Nat × SVal)) (s t : Int × Int × Int) : (TSameSn gl s t) = (
  (decide (s.fst = t.fst) && decide (s.snd.fst = t.snd.fst) && decide (s.snd.snd = t.snd.snd)) = true) := by kernel_rfl
theorem gSameSn (s t : Int × Int × Int)  (hv : t = s) : Box (TSameSn gl s t) := by
  refine .of (runSameSn gl s t) ?_
  subst hv; simp
theorem cSameSn : Con ea has gl 90 kSameSn := by
  refine plain_mkB Tryz.func90 24 (con := []) trivial (fun hA hr hv => ?_) (by kernel_rfl) (by kernel_rfl) Tryz.ntmps90
  unfold kSameSn at hr; split at hr
  · rename_i a b c a' b' c'
    have := ret_ok hr; subst this
    replace hv := hv _ rfl
    exact ⟨_, [], rfl, rfl, .of (argSameSn a b c a' b' c') (by simp), rfl, (fun W R ρ0 own0 hown => noSums (by kernel_rfl)), gSameSn (a.val, b.val, c.val) (a'.val, b'.val, c'.val)  hv⟩
  · cases hr
def HSameSns' (a b : List (Int × Int × Int)) (i : Nat) : SState := { fr := [(0, .ro seenT a), (1, .ro seenT b), (5, .int .i64 (.sym i 0 1000000))], hp := [], next := 0, sz := 29 }
def XSameSns' (a b : List (Int × Int × Int)) : SState := { fr := [], hp := [], next := 0, sz := 29 }
def LSameSns' (a b : List (Int × Int × Int)) : LSum := ⟨HSameSns' a b 0, fun k => k (.exit 0) (XSameSns' a b), b = a ∧ a.length ≤ 1000000⟩
theorem bSameSns' (gl : List (Nat × SVal)) (a b : List (Int × Int × Int)) (i : Nat) : (Tr.sat (rnd1 (env gl [(90, kSameSn)]) (fun _ => True) (a.length) (HSameSns' a b) 0 (XSameSns' a b) i) (run (env gl [(90, kSameSn)]) [] (loopN (bodyOf Tryz.f46) 0) (HSameSns' a b i) .leaf)) = (
  IT (decide ((i : Int) < ((List.length a) : Int))) (RQ (0 ≤ (i : Int) ∧ (i : Int) < ((List.length a) : Int)) (RQ (0 ≤ (i : Int) ∧ (i : Int) < ((List.length b) : Int)) (RQ (((List.getD b (Int.toNat (i : Int)) (RT.dflt (RT.flat (FK.int IntKind.i64) [FK.int IntKind.u32, FK.int IntKind.u32]))).fst, (List.getD b (Int.toNat (i : Int)) (RT.dflt (RT.flat (FK.int IntKind.i64) [FK.int IntKind.u32, FK.int IntKind.u32]))).snd.fst, (List.getD b (Int.toNat (i : Int)) (RT.dflt (RT.flat (FK.int IntKind.i64) [FK.int IntKind.u32, FK.int IntKind.u32]))).snd.snd) = ((List.getD a (Int.toNat (i : Int)) (RT.dflt (RT.flat (FK.int IntKind.i64) [FK.int IntKind.u32, FK.int IntKind.u32]))).fst, (List.getD a (Int.toNat (i : Int)) (RT.dflt (RT.flat (FK.int IntKind.i64) [FK.int IntKind.u32, FK.int IntKind.u32]))).snd.fst, (List.getD a (Int.toNat (i : Int)) (RT.dflt (RT.flat (FK.int IntKind.i64) [FK.int IntKind.u32, FK.int IntKind.u32]))).snd.snd)) (i < List.length a ∧ True ∧ a = a ∧ b = b ∧ (i : Int) + 1 = ((i + 1) : Int) ∧ 0 ≤ ((i + 1) : Int) ∧ ((i + 1) : Int) ≤ 1000000)))) (Nat.beq (0 : Nat) (0 : Nat) = true ∧ True)) := by kernel_rfl
theorem lSameSns' (a b : List (Int × Int × Int)) {W : World} {R own0 : Nat → Prop} {ρ0 : Nat → Option Value} (hown : HownOk (env gl [(90, kSameSn)]) own0 ρ0) : LOk Tryz.prog (env gl [(90, kSameSn)]) (ctx ea has) gl W R own0 ρ0 (loopN (bodyOf Tryz.f46) 0) (LSameSns' a b) := by
  refine loop1_ok (J := fun _ => True) (N := a.length) (H := HSameSns' a b) (X := XSameSns' a b) (env_ok (con := [(90, kSameSn)]) ⟨cSameSn, trivial⟩) hown (ls := fun i => []) (fun i => noSums (by kernel_rfl)) (fun hm i hi hj => ?_) 0 (fun hm => by first | exact Nat.zero_le _ | omega) (fun hm => trivial)
  rw [bSameSns' gl a b i]
  obtain ⟨rfl, hm⟩ := hm
  refine ⟨fun h => ?_, fun _ => ⟨rfl, trivial⟩⟩
  have h := of_decide_eq_true h
  exact ⟨⟨by omega, by omega⟩, fun _ => ⟨⟨by omega, by omega⟩, fun _ => ⟨rfl, fun _ => ⟨by omega, trivial, rfl, rfl, by omega, by omega, by omega⟩⟩⟩⟩
def kSameSns : List SVal → Nat → Acc ORes := fun a n => match a with | [.ro (.flat (.int .i64) [.int .u32, .int .u32]) a, .ro (.flat (.int .i64) [.int .u32, .int .u32]) b] => .ret ({ v := .bool (.lit true), vc := some (b = a ∧ a.length ≤ 1000000) }) | _ => .fail "SameSns"
theorem argSameSns (a b : List (Int × Int × Int)) : (all (subL tAtN none' [] deep [.ro (.flat (.int .i64) [.int .u32, .int .u32]) a, .ro (.flat (.int .i64) [.int .u32, .int .u32]) b] [.ro seenT a, .ro seenT b])) = (
  a = a ∧ b = b) := by kernel_rfl
abbrev TSameSns (gl : List (Nat × SVal)) (a b : List (Int × Int × Int)) : Prop := Tr.sat (plainQ (.bool (.lit true))) (run (env gl [(90, kSameSn)]) [(4, LSameSns' a b)] (bodyOf Tryz.f46) (start [.ro seenT a, .ro seenT b] 29) (ends (env gl [(90, kSameSn)]) Tryz.f46.results.toList))
theorem runSameSns (gl : List (Nat × SVal)) (a b : List (Int × Int × Int)) : (TSameSns gl a b) = (
  IT (!decide (((List.length a) : Int) = ((List.length b) : Int))) (false = true) (RQ ((b = a ∧ List.length a ≤ 1000000) ∧ a = a ∧ b = b ∧ (0 : Int) = ((0 : Nat) : Int)) (true = true))) := by kernel_rfl
theorem gSameSns (a b : List (Int × Int × Int))  (hv : b = a ∧ a.length ≤ 1000000) : Box (TSameSns gl a b) := by
  refine .of (runSameSns gl a b) ?_
  obtain ⟨rfl, hm⟩ := hv
  exact ⟨fun h => by simp at h, fun _ => ⟨⟨⟨rfl, hm⟩, rfl, rfl, rfl⟩, fun _ => rfl⟩⟩
theorem cSameSns : Con ea has gl 46 kSameSns := by
  refine plain_mkB Tryz.func46 29 (con := [(90, kSameSn)]) ⟨cSameSn, trivial⟩ (fun hA hr hv => ?_) (by kernel_rfl) (by kernel_rfl) Tryz.ntmps46
  unfold kSameSns at hr; split at hr
  · rename_i a b
    have := ret_ok hr; subst this
    replace hv := hv _ rfl
    exact ⟨_, [(4, LSameSns' a b)], rfl, rfl, .of (argSameSns a b) (by simp), rfl, (fun W R ρ0 own0 hown => hl1 (by kernel_rfl) (by kernel_rfl) (lSameSns' a b hown)), gSameSns a b  hv⟩
  · cases hr
abbrev kSameSnsZ := frz [.ro seenT, .ro seenT] kSameSns
theorem cSameSnsZ : Con ea has gl 46 kSameSnsZ := frz_ok cSameSns _
abbrev kSameWZ := frz [.ro .u32, .ro .u32] kSameW
theorem cSameWZ : Con ea has gl 55 kSameWZ := frz_ok cSameW _
abbrev kmFramesB := bor [.box [.ro .u32]] kmFrames
theorem cmFramesB : Con ea has gl 56 kmFramesB := bor_ok cmFrames _
def kmFrame0 : List SVal → Nat → Acc ORes := fun a n => match a with | [.rop [.ro .u32 l], .int .i64 y] => .ret (newR n (.tuple [.own 0, .bool (.lit true)]) ([(0, .recs .u32 ((l.drop (y.val * 16).toNat).take 16))]) 1 (some ((0 ≤ y.val ∧ y.val < frN l) ∧ few l))) | _ => .fail "mFrame0"
theorem argmFrame0 (l : List Int) (y : SI) : (all (subL tAtN none' [] deep [.rop [.ro .u32 l], .int .i64 y] [.rop [.ro .u32 l], .int .i64 (.full y.val)])) = (
  l = l ∧ SI.val y = SI.val y) := by kernel_rfl
abbrev TmFrame0 (gl : List (Nat × SVal)) (l : List Int) (y : Int) : Prop := Tr.sat (newQ (env gl [(56, kmFramesB), (57, kCloneW)]) (.tuple [.own 0, .bool (.lit true)]) ([(0, .recs .u32 ((l.drop (y * 16).toNat).take 16))]) 1) (run (env gl [(56, kmFramesB), (57, kCloneW)]) [] (bodyOf Tryz.f53) (start [.rop [.ro .u32 l], .int .i64 (.full y)] 25) (ends (env gl [(56, kmFramesB), (57, kCloneW)]) Tryz.f53.results.toList))
theorem runmFrame0 (gl : List (Nat × SVal)) (l : List Int) (y : Int) : (TmFrame0 gl l y) = (
  IT (decide (y < 0) || decide (frN l ≤ y)) (false = true ∧ @List.nil (RT.ty RT.u32) = List.take (16 : Nat) (List.drop (Int.toNat (y * 16)) l)) (RQ (0 ≤ IntKind.wrap IntKind.i64 (y * 16) ∧ IntKind.wrap IntKind.i64 (y * 16) ≤ IntKind.wrap IntKind.i64 (IntKind.wrap IntKind.i64 (y + 1) * 16) ∧ IntKind.wrap IntKind.i64 (IntKind.wrap IntKind.i64 (y + 1) * 16) ≤ ((List.length l) : Int)) (RQ (List.length (pieceL l (some (SI.full (IntKind.wrap IntKind.i64 (y * 16)))) (some (SI.full (IntKind.wrap IntKind.i64 (IntKind.wrap IntKind.i64 (y + 1) * 16))))) ≤ 137438953472) (true = true ∧ pieceL l (some (SI.full (IntKind.wrap IntKind.i64 (y * 16)))) (some (SI.full (IntKind.wrap IntKind.i64 (IntKind.wrap IntKind.i64 (y + 1) * 16)))) = List.take (16 : Nat) (List.drop (Int.toNat (y * 16)) l))))) := by kernel_rfl
theorem gmFrame0 (l : List Int) (y : Int)  (hv : (0 ≤ y ∧ y < frN l) ∧ few l) : Box (TmFrame0 gl l y) := by
  refine .of (runmFrame0 gl l y) ?_
  obtain ⟨⟨h1, h2⟩, h3⟩ := hv
  unfold few at h3
  have h2' : y < (l.length : Int) / 16 := h2
  have w1 : ∀ x : Int, 0 ≤ x → x ≤ 100000000 → IntKind.i64.wrap x = x := fun x _ _ => by rw [IntKind.wrap_i64]; omega
  have t : ∀ h : (decide (y < 0) || decide (frN l ≤ y)) = true, False := fun h => by
    rw [Bool.or_eq_true] at h
    rcases h with h | h
    · have := of_decide_eq_true h; omega
    · have h : (l.length : Int) / 16 ≤ y := of_decide_eq_true h
      omega
  rw [w1 (y + 1) (by omega) (by omega), w1 (y * 16) (by omega) (by omega), w1 ((y + 1) * 16) (by omega) (by omega)]
  refine ⟨fun h => (t h).elim, fun _ => ⟨⟨by omega, by omega, by omega⟩, fun _ => ?_⟩⟩
  have e : pieceL l (some (SI.full (y * 16))) (some (SI.full ((y + 1) * 16))) = (l.drop (y * 16).toNat).take 16 := by
    show (l.take ((y + 1) * 16).toNat).drop (y * 16).toNat = _
    rw [List.drop_take, show (y * 16).toNat = (y * 16).toNat by omega, show ((y + 1) * 16).toNat - (y * 16).toNat = 16 by omega]
  rw [e]
  exact ⟨by rw [List.length_take]; omega, fun _ => ⟨rfl, rfl⟩⟩
theorem cmFrame0 : Con ea has gl 53 kmFrame0 := by
  refine new_mkB Tryz.func53 25 (con := [(56, kmFramesB), (57, kCloneW)]) ⟨cmFramesB, cCloneW, trivial⟩ (fun hA hr hv => ?_) (by kernel_rfl) (by kernel_rfl) Tryz.ntmps53
  unfold kmFrame0 at hr; split at hr
  · rename_i l y
    have := ret_ok hr; subst this
    replace hv := hv _ rfl
    exact ⟨_, [], _, _, _, ⟨rfl, rfl, rfl⟩, .of (argmFrame0 l y) (by simp), rfl, rfl, (fun W R ρ0 own0 hown => noSums (by kernel_rfl)), gmFrame0 l y.val  hv⟩
  · cases hr
abbrev kmFrame := borN [.box [.ro .u32], .any] kmFrame0
theorem cmFrame : Con ea has gl 53 kmFrame := borN_ok cmFrame0 _
def krFrame0 : List SVal → Nat → Acc ORes := fun a n => match a with | [.rop [.ro .u32 l], .int .i64 y] => .ret (newR n (.tuple [.own 0, .bool (.lit true)]) ([(0, .recs .u32 ((l.drop (y.val * 16).toNat).take 16))]) 1 (some ((0 ≤ y.val ∧ y.val < frN l) ∧ few l))) | _ => .fail "rFrame0"
theorem argrFrame0 (l : List Int) (y : SI) : (all (subL tAtN none' [] deep [.rop [.ro .u32 l], .int .i64 y] [.rop [.ro .u32 l], .int .i64 (.full y.val)])) = (
  l = l ∧ SI.val y = SI.val y) := by kernel_rfl
abbrev TrFrame0 (gl : List (Nat × SVal)) (l : List Int) (y : Int) : Prop := Tr.sat (newQ (env gl [(52, krFramesB), (60, kWordsN)]) (.tuple [.own 0, .bool (.lit true)]) ([(0, .recs .u32 ((l.drop (y * 16).toNat).take 16))]) 1) (run (env gl [(52, krFramesB), (60, kWordsN)]) [] (bodyOf Tryz.f54) (start [.rop [.ro .u32 l], .int .i64 (.full y)] 25) (ends (env gl [(52, krFramesB), (60, kWordsN)]) Tryz.f54.results.toList))
theorem runrFrame0 (gl : List (Nat × SVal)) (l : List Int) (y : Int) : (TrFrame0 gl l y) = (
  IT (decide (y < 0) || decide (frN l ≤ y)) (false = true ∧ @List.nil (RT.ty RT.u32) = List.take (16 : Nat) (List.drop (Int.toNat (y * 16)) l)) (RQ (0 ≤ IntKind.wrap IntKind.i64 ((16 : Int) * y) ∧ IntKind.wrap IntKind.i64 ((16 : Int) * y) ≤ IntKind.wrap IntKind.i64 (IntKind.wrap IntKind.i64 ((16 : Int) * y) + 16) ∧ IntKind.wrap IntKind.i64 (IntKind.wrap IntKind.i64 ((16 : Int) * y) + 16) ≤ ((List.length l) : Int)) (RQ (List.length (pieceL l (some (SI.full (IntKind.wrap IntKind.i64 ((16 : Int) * y)))) (some (SI.full (IntKind.wrap IntKind.i64 (IntKind.wrap IntKind.i64 ((16 : Int) * y) + 16))))) ≤ 1000000) (true = true ∧ pieceL l (some (SI.full (IntKind.wrap IntKind.i64 ((16 : Int) * y)))) (some (SI.full (IntKind.wrap IntKind.i64 (IntKind.wrap IntKind.i64 ((16 : Int) * y) + 16)))) = List.take (16 : Nat) (List.drop (Int.toNat (y * 16)) l))))) := by kernel_rfl
theorem grFrame0 (l : List Int) (y : Int)  (hv : (0 ≤ y ∧ y < frN l) ∧ few l) : Box (TrFrame0 gl l y) := by
  refine .of (runrFrame0 gl l y) ?_
  obtain ⟨⟨h1, h2⟩, h3⟩ := hv
  unfold few at h3
  have h2' : y < (l.length : Int) / 16 := h2
  have w1 : ∀ x : Int, 0 ≤ x → x ≤ 100000000 → IntKind.i64.wrap x = x := fun x _ _ => by rw [IntKind.wrap_i64]; omega
  have t : ∀ h : (decide (y < 0) || decide (frN l ≤ y)) = true, False := fun h => by
    rw [Bool.or_eq_true] at h
    rcases h with h | h
    · have := of_decide_eq_true h; omega
    · have h : (l.length : Int) / 16 ≤ y := of_decide_eq_true h
      omega
  rw [w1 (16 * y) (by omega) (by omega), w1 (16 * y + 16) (by omega) (by omega)]
  refine ⟨fun h => (t h).elim, fun _ => ⟨⟨by omega, by omega, by omega⟩, fun _ => ?_⟩⟩
  have e : pieceL l (some (SI.full (16 * y))) (some (SI.full (16 * y + 16))) = (l.drop (y * 16).toNat).take 16 := by
    show (l.take (16 * y + 16).toNat).drop (16 * y).toNat = _
    rw [List.drop_take, show (16 * y).toNat = (y * 16).toNat by omega, show (16 * y + 16).toNat - (y * 16).toNat = 16 by omega]
  rw [e]
  exact ⟨by rw [List.length_take]; omega, fun _ => ⟨rfl, rfl⟩⟩
theorem crFrame0 : Con ea has gl 54 krFrame0 := by
  refine new_mkB Tryz.func54 25 (con := [(52, krFramesB), (60, kWordsN)]) ⟨crFramesB, cWordsN, trivial⟩ (fun hA hr hv => ?_) (by kernel_rfl) (by kernel_rfl) Tryz.ntmps54
  unfold krFrame0 at hr; split at hr
  · rename_i l y
    have := ret_ok hr; subst this
    replace hv := hv _ rfl
    exact ⟨_, [], _, _, _, ⟨rfl, rfl, rfl⟩, .of (argrFrame0 l y) (by simp), rfl, rfl, (fun W R ρ0 own0 hown => noSums (by kernel_rfl)), grFrame0 l y.val  hv⟩
  · cases hr
abbrev krFrame := borN [.box [.ro .u32], .any] krFrame0
theorem crFrame : Con ea has gl 54 krFrame := borN_ok crFrame0 _
abbrev mLent (b : Mc) : SVal := (mLt b)
abbrev eLent (b : Mc) : SVal := .rop [.rop [.ro .u32 b.l], .arr .u32 16 b.c.r, .int .u32 (.full b.c.pc), .bool (.sym b.c.ie), .bool (.sym b.c.eie), .int .u32 (.full b.c.epc), .int .u32 (.full b.c.tv), .int .u32 (.full b.c.cause), .int .u32 (.full b.c.addr), .int .i64 (.full b.quota), .rop [.ro .u32 b.d.keys, .ro seenT b.d.seen, .arr .u32 16 b.d.sec, .int .i64 (.full b.d.at_), .bool (.sym b.d.on)], .int .i64 (.full b.now), .bool (.sym b.over), .ro updT b.w]
def ksame80 : List SVal → Nat → Acc ORes := fun a n => match a with | [.rop [.rop [.ro .u32 l], .arr .u32 16 x, .int .u32 pc, .bool ie, .bool eie, .int .u32 epc, .int .u32 tv, .int .u32 ca, .int .u32 ad, .rop [.ro .u32 ks, .arr .u32 16 sc, .bool on, .int .i64 at_, .ro (.flat (.int .i64) [.int .u32, .int .u32]) se], .int .i64 qu, .int .i64 no, .bool ov, .ro (.flat (.int .i64) [.int .u32]) us], .rop [.rop [.ro .u32 l'], .arr .u32 16 x', .int .u32 pc', .bool ie', .bool eie', .int .u32 epc', .int .u32 tv', .int .u32 ca', .int .u32 ad', .int .i64 qu', .rop [.ro .u32 ks', .ro (.flat (.int .i64) [.int .u32, .int .u32]) se', .arr .u32 16 sc', .int .i64 at', .bool on'], .int .i64 no', .bool ov', .ro (.flat (.int .i64) [.int .u32]) us']] => .ret ({ v := .bool (.lit true), vc := some ((mcV l x pc ie eie epc tv ca ad ks sc on at_ se qu no ov us) = nrmM (⟨l', ⟨x', pc'.val, ie'.val, eie'.val, epc'.val, tv'.val, ca'.val, ad'.val⟩, ⟨ks', sc', on'.val, at'.val, se'⟩, qu'.val, no'.val, ov'.val, us'⟩ : Mc) ∧ mcOk (⟨l', ⟨x', pc'.val, ie'.val, eie'.val, epc'.val, tv'.val, ca'.val, ad'.val⟩, ⟨ks', sc', on'.val, at'.val, se'⟩, qu'.val, no'.val, ov'.val, us'⟩ : Mc) ∧ few (⟨l', ⟨x', pc'.val, ie'.val, eie'.val, epc'.val, tv'.val, ca'.val, ad'.val⟩, ⟨ks', sc', on'.val, at'.val, se'⟩, qu'.val, no'.val, ov'.val, us'⟩ : Mc).l) }) | _ => .fail "same80"
theorem argsame80 (l : List Int) (x : List Int) (pc : SI) (ie eie : SB) (epc tv ca ad : SI) (ks : List Int) (sc : List Int) (on : SB) (at_ : SI) (se : List (Int × Int × Int)) (qu no : SI) (ov : SB) (us : List (Int × Int)) (l' : List Int) (x' : List Int) (pc' : SI) (ie' eie' : SB) (epc' tv' ca' ad' : SI) (qu' : SI) (ks' : List Int) (se' : List (Int × Int × Int)) (sc' : List Int) (at' : SI) (on' : SB) (no' : SI) (ov' : SB) (us' : List (Int × Int)) : (all (subL tAtN none' [] deep [.rop [.rop [.ro .u32 l], .arr .u32 16 x, .int .u32 pc, .bool ie, .bool eie, .int .u32 epc, .int .u32 tv, .int .u32 ca, .int .u32 ad, .rop [.ro .u32 ks, .arr .u32 16 sc, .bool on, .int .i64 at_, .ro (.flat (.int .i64) [.int .u32, .int .u32]) se], .int .i64 qu, .int .i64 no, .bool ov, .ro (.flat (.int .i64) [.int .u32]) us], .rop [.rop [.ro .u32 l'], .arr .u32 16 x', .int .u32 pc', .bool ie', .bool eie', .int .u32 epc', .int .u32 tv', .int .u32 ca', .int .u32 ad', .int .i64 qu', .rop [.ro .u32 ks', .ro (.flat (.int .i64) [.int .u32, .int .u32]) se', .arr .u32 16 sc', .int .i64 at', .bool on'], .int .i64 no', .bool ov', .ro (.flat (.int .i64) [.int .u32]) us']] [mLent (mcV l x pc ie eie epc tv ca ad ks sc on at_ se qu no ov us), eLent (⟨l', ⟨x', pc'.val, ie'.val, eie'.val, epc'.val, tv'.val, ca'.val, ad'.val⟩, ⟨ks', sc', on'.val, at'.val, se'⟩, qu'.val, no'.val, ov'.val, us'⟩ : Mc)])) = (
  l = l ∧ x = x ∧ SI.val pc = SI.val pc ∧ SB.val ie = SB.val ie ∧ SB.val eie = SB.val eie ∧ SI.val epc = SI.val epc ∧ SI.val tv = SI.val tv ∧ SI.val ca = SI.val ca ∧ SI.val ad = SI.val ad ∧ ks = ks ∧ sc = sc ∧ SB.val on = SB.val on ∧ SI.val at_ = SI.val at_ ∧ se = se ∧ SI.val qu = SI.val qu ∧ SI.val no = SI.val no ∧ SB.val ov = SB.val ov ∧ us = us ∧ l' = l' ∧ x' = x' ∧ SI.val pc' = SI.val pc' ∧ SB.val ie' = SB.val ie' ∧ SB.val eie' = SB.val eie' ∧ SI.val epc' = SI.val epc' ∧ SI.val tv' = SI.val tv' ∧ SI.val ca' = SI.val ca' ∧ SI.val ad' = SI.val ad' ∧ SI.val qu' = SI.val qu' ∧ ks' = ks' ∧ se' = se' ∧ sc' = sc' ∧ SI.val at' = SI.val at' ∧ SB.val on' = SB.val on' ∧ SI.val no' = SI.val no' ∧ SB.val ov' = SB.val ov' ∧ us' = us') := by kernel_rfl
abbrev Tsame80 (gl : List (Nat × SVal)) (b y : Mc) : Prop := Tr.sat (plainQ (.bool (.lit true))) (run (env gl [(44, kbCPU), (43, kSameC), (15, kbNow), (17, kbOver), (45, kbWaiting), (47, kbSeen), (46, kSameSnsZ), (48, kbNext), (49, krFetchB), (50, kSameI)]) [(4000001, cutL { fr := [(17, .any), (26, .any), (36, .any)], hp := [], next := 0, sz := 86 }), (4000005, cutL { fr := [(5, .any)], hp := [], next := 0, sz := 86 })] (bodyOf Tryz.f14) (start [mLent b, eLent y] 86) (ends (env gl [(44, kbCPU), (43, kSameC), (15, kbNow), (17, kbOver), (45, kbWaiting), (47, kbSeen), (46, kSameSnsZ), (48, kbNext), (49, krFetchB), (50, kSameI)]) Tryz.f14.results.toList))
theorem runsame80 (gl : List (Nat × SVal)) (b y : Mc) : (Tsame80 gl b y) = (
  IT (!decide (b.now = y.now)) (RQ (y.c = b.c) (RQ (True ∧ (!decide (b.now = y.now)) = true) (false = true))) (IT (!b.over == y.over) (RQ (y.c = b.c) (RQ (True ∧ (!decide (b.now = y.now)) = false) (RQ (True ∧ (!b.over == y.over) = true) (false = true)))) (IT (!decide (((List.length b.w) : Int) = ((List.length y.w) : Int))) (RQ (y.c = b.c) (RQ (True ∧ (!decide (b.now = y.now)) = false) (RQ (True ∧ (!b.over == y.over) = false) (RQ (True ∧ (!decide (((List.length b.w) : Int) = ((List.length y.w) : Int))) = true) (false = true))))) (RQ (y.c = b.c) (RQ (True ∧ (!decide (b.now = y.now)) = false) (RQ (True ∧ (!b.over == y.over) = false) (RQ (True ∧ (!decide (((List.length b.w) : Int) = ((List.length y.w) : Int))) = false) (RQ (few b.d.seen) (RQ (y.d.seen = b.d.seen ∧ List.length b.d.seen ≤ 1000000) (IT (decide ((fetchS b.l (0 : Int) b.c.pc false).cause = 0) == decide ((fetchS y.l (0 : Int) y.c.pc false).cause = 0)) (RQ (True ∧ (decide ((fetchS b.l (0 : Int) b.c.pc false).cause = 0) == decide ((fetchS y.l (0 : Int) y.c.pc false).cause = 0)) = true) (RQ ((fetchS y.l (0 : Int) y.c.pc false).i = (fetchS b.l (0 : Int) b.c.pc false).i) (true = true))) (RQ (True ∧ (decide ((fetchS b.l (0 : Int) b.c.pc false).cause = 0) == decide ((fetchS y.l (0 : Int) y.c.pc false).cause = 0)) = false) (false = true)))))))))))) := by kernel_rfl
theorem gsame80 (b y : Mc)  (hv : b = nrmM y ∧ mcOk y ∧ few y.l) : Box (Tsame80 gl b y) := by
  refine .of (runsame80 gl b y) ?_
  obtain ⟨rfl, ⟨k1, k2, k3, k4⟩, k5⟩ := hv
  refine ⟨fun h => ?_, fun h1 => ⟨fun h => ?_, fun h2 => ⟨fun h => ?_, fun h3 => ⟨rfl, fun _ => ⟨⟨trivial, h1⟩, fun _ => ⟨⟨trivial, h2⟩, fun _ => ⟨⟨trivial, h3⟩, fun _ => ⟨k2, fun _ => ⟨⟨rfl, k2⟩, fun _ => ⟨fun h4 => ⟨⟨trivial, h4⟩, fun _ => ⟨rfl, fun _ => rfl⟩⟩, fun h4 => ?_⟩⟩⟩⟩⟩⟩⟩⟩⟩⟩
  · have h : (!decide (y.now = y.now)) = true := h
    simp at h
  · have h : (!y.over == y.over) = true := h
    simp at h
  · have h : (!decide ((y.w.length : Int) = (y.w.length : Int))) = true := h
    simp at h
  · have h : (decide ((fetchS y.l 0 y.c.pc false).cause = 0) == decide ((fetchS y.l 0 y.c.pc false).cause = 0)) = false := h4
    simp at h
theorem csame80 : Con ea has gl 14 ksame80 := by
  refine plain_mkB Tryz.func14 86 (con := [(44, kbCPU), (43, kSameC), (15, kbNow), (17, kbOver), (45, kbWaiting), (47, kbSeen), (46, kSameSnsZ), (48, kbNext), (49, krFetchB), (50, kSameI)]) ⟨cbCPU, cSameC, cbNow, cbOver, cbWaiting, cbSeen, cSameSnsZ, cbNext, crFetchB, cSameI, trivial⟩ (fun hA hr hv => ?_) (by kernel_rfl) (by kernel_rfl) Tryz.ntmps14
  unfold ksame80 at hr; split at hr
  · rename_i l x pc ie eie epc tv ca ad ks sc on at_ se qu no ov us l' x' pc' ie' eie' epc' tv' ca' ad' qu' ks' se' sc' at' on' no' ov' us'
    have := ret_ok hr; subst this
    replace hv := hv _ rfl
    exact ⟨_, [(4000001, cutL { fr := [(17, .any), (26, .any), (36, .any)], hp := [], next := 0, sz := 86 }), (4000005, cutL { fr := [(5, .any)], hp := [], next := 0, sz := 86 })], rfl, rfl, .of (argsame80 l x pc ie eie epc tv ca ad ks sc on at_ se qu no ov us l' x' pc' ie' eie' epc' tv' ca' ad' qu' ks' se' sc' at' on' no' ov' us') (by simp), rfl, (fun W R ρ0 own0 hown => noSums (by kernel_rfl)), gsame80 ⟨l, ⟨x, pc.val, ie.val, eie.val, epc.val, tv.val, ca.val, ad.val⟩, ⟨ks, sc, on.val, at_.val, se⟩, qu.val, no.val, ov.val, us⟩ ⟨l', ⟨x', pc'.val, ie'.val, eie'.val, epc'.val, tv'.val, ca'.val, ad'.val⟩, ⟨ks', sc', on'.val, at'.val, se'⟩, qu'.val, no'.val, ov'.val, us'⟩  hv⟩
  · cases hr
abbrev ksame8 := bor [.box [.box [.ro .u32], .any, .any, .any, .any, .any, .any, .any, .any, .box [.ro .u32, .any, .any, .any, .ro seenT], .any, .any, .any, .ro updT], .box [.box [.ro .u32], .any, .any, .any, .any, .any, .any, .any, .any, .any, .box [.ro .u32, .ro seenT, .any, .any, .any], .any, .any, .ro updT]] ksame80
theorem csame8 : Con ea has gl 14 ksame8 := bor_ok csame80 _
def Hwhole' (b y : Mc) (i : Nat) : SState := { fr := [(1, eLent y), (5, .ptr 0 0), (6, .int .i64 (.sym i 0 1000000))], hp := [(0, some (.cells [.own 1])), (1, some (.recs .u32 b.l))], next := 2, sz := 49 }
def Xwhole' (b y : Mc) : SState := { fr := [(1, eLent y), (5, .ptr 0 0)], hp := [(0, some (.cells [.own 1])), (1, some (.recs .u32 b.l))], next := 2, sz := 49 }
def Lwhole' (b y : Mc) : LSum := ⟨Hwhole' b y 0, fun k => k (.exit 0) (Xwhole' b y), b = nrmM y ∧ few y.l ∧ y.l.length % 16 = 0⟩
theorem bwhole' (gl : List (Nat × SVal)) (b y : Mc) (i : Nat) : (Tr.sat (rnd1 (env gl [(51, kbMem), (53, kmFrame), (54, krFrame), (55, kSameWZ), (56, kmFramesB), (52, krFramesB)]) (fun _ => True) (y.l.length / 16) (Hwhole' b y) 0 (Xwhole' b y) i) (run (env gl [(51, kbMem), (53, kmFrame), (54, krFrame), (55, kSameWZ), (56, kmFramesB), (52, krFramesB)]) [] (loopN (bodyOf Tryz.f16) 0) (Hwhole' b y i) .leaf)) = (
  IT (decide ((i : Int) < frN y.l)) (RQ ((0 ≤ (i : Int) ∧ (i : Int) < frN b.l) ∧ few b.l) (RQ ((0 ≤ (i : Int) ∧ (i : Int) < frN y.l) ∧ few y.l) (RQ (List.take (16 : Nat) (List.drop (Int.toNat ((i : Int) * 16)) y.l) = List.take (16 : Nat) (List.drop (Int.toNat ((i : Int) * 16)) b.l) ∧ List.length (List.take (16 : Nat) (List.drop (Int.toNat ((i : Int) * 16)) b.l)) ≤ 1000000) (i < List.length y.l / 16 ∧ True ∧ y.l = y.l ∧ y.c.r = y.c.r ∧ y.c.pc = y.c.pc ∧ y.c.ie = y.c.ie ∧ y.c.eie = y.c.eie ∧ y.c.epc = y.c.epc ∧ y.c.tv = y.c.tv ∧ y.c.cause = y.c.cause ∧ y.c.addr = y.c.addr ∧ y.quota = y.quota ∧ y.d.keys = y.d.keys ∧ y.d.seen = y.d.seen ∧ y.d.sec = y.d.sec ∧ y.d.at_ = y.d.at_ ∧ y.d.on = y.d.on ∧ y.now = y.now ∧ y.over = y.over ∧ y.w = y.w ∧ (i : Int) + 1 = ((i + 1) : Int) ∧ (0 ≤ ((i + 1) : Int) ∧ ((i + 1) : Int) ≤ 1000000) ∧ b.l = b.l)))) (Nat.beq (0 : Nat) (0 : Nat) = true ∧ y.l = y.l ∧ y.c.r = y.c.r ∧ y.c.pc = y.c.pc ∧ y.c.ie = y.c.ie ∧ y.c.eie = y.c.eie ∧ y.c.epc = y.c.epc ∧ y.c.tv = y.c.tv ∧ y.c.cause = y.c.cause ∧ y.c.addr = y.c.addr ∧ y.quota = y.quota ∧ y.d.keys = y.d.keys ∧ y.d.seen = y.d.seen ∧ y.d.sec = y.d.sec ∧ y.d.at_ = y.d.at_ ∧ y.d.on = y.d.on ∧ y.now = y.now ∧ y.over = y.over ∧ y.w = y.w ∧ b.l = b.l)) := by kernel_rfl
theorem lwhole' (b y : Mc) {W : World} {R own0 : Nat → Prop} {ρ0 : Nat → Option Value} (hown : HownOk (env gl [(51, kbMem), (53, kmFrame), (54, krFrame), (55, kSameWZ), (56, kmFramesB), (52, krFramesB)]) own0 ρ0) : LOk Tryz.prog (env gl [(51, kbMem), (53, kmFrame), (54, krFrame), (55, kSameWZ), (56, kmFramesB), (52, krFramesB)]) (ctx ea has) gl W R own0 ρ0 (loopN (bodyOf Tryz.f16) 0) (Lwhole' b y) := by
  refine loop1_ok (J := fun _ => True) (N := y.l.length / 16) (H := Hwhole' b y) (X := Xwhole' b y) (env_ok (con := [(51, kbMem), (53, kmFrame), (54, krFrame), (55, kSameWZ), (56, kmFramesB), (52, krFramesB)]) ⟨cbMem, cmFrame, crFrame, cSameWZ, cmFramesB, crFramesB, trivial⟩) hown (ls := fun i => []) (fun i => noSums (by kernel_rfl)) (fun hm i hi hj => ?_) 0 (fun hm => by first | exact Nat.zero_le _ | omega) (fun hm => trivial)
  rw [bwhole' gl b y i]
  obtain ⟨rfl, h1, h2⟩ := hm
  unfold few at h1
  have fr : frN y.l = (y.l.length : Int) / 16 := rfl
  have fn : frN (nrmM y).l = (y.l.length : Int) / 16 := rfl
  rw [fr, fn]
  refine ⟨fun h => ?_, fun h => ⟨rfl, rfl, rfl, rfl, rfl, rfl, rfl, rfl, rfl, rfl, rfl, rfl, rfl, rfl, rfl, rfl, rfl, rfl, rfl, rfl⟩⟩
  have h := of_decide_eq_true h
  refine ⟨⟨⟨by omega, h⟩, h1⟩, fun _ => ⟨⟨⟨by omega, h⟩, h1⟩, fun _ => ⟨⟨rfl, by rw [List.length_take]; omega⟩, fun _ => ⟨by omega, trivial, rfl, rfl, rfl, rfl, rfl, rfl, rfl, rfl, rfl, rfl, rfl, rfl, rfl, rfl, rfl, rfl, rfl, rfl, by omega, ⟨by omega, by omega⟩, rfl⟩⟩⟩⟩
def kwhole80 : List SVal → Nat → Acc ORes := fun a n => match a with | [.rop [.rop [.ro .u32 l], .arr .u32 16 x, .int .u32 pc, .bool ie, .bool eie, .int .u32 epc, .int .u32 tv, .int .u32 ca, .int .u32 ad, .rop [.ro .u32 ks, .arr .u32 16 sc, .bool on, .int .i64 at_, .ro (.flat (.int .i64) [.int .u32, .int .u32]) se], .int .i64 qu, .int .i64 no, .bool ov, .ro (.flat (.int .i64) [.int .u32]) us], .rop [.rop [.ro .u32 l'], .arr .u32 16 x', .int .u32 pc', .bool ie', .bool eie', .int .u32 epc', .int .u32 tv', .int .u32 ca', .int .u32 ad', .int .i64 qu', .rop [.ro .u32 ks', .ro (.flat (.int .i64) [.int .u32, .int .u32]) se', .arr .u32 16 sc', .int .i64 at', .bool on'], .int .i64 no', .bool ov', .ro (.flat (.int .i64) [.int .u32]) us']] => .ret ({ v := .bool (.lit true), vc := some ((mcV l x pc ie eie epc tv ca ad ks sc on at_ se qu no ov us) = nrmM (⟨l', ⟨x', pc'.val, ie'.val, eie'.val, epc'.val, tv'.val, ca'.val, ad'.val⟩, ⟨ks', sc', on'.val, at'.val, se'⟩, qu'.val, no'.val, ov'.val, us'⟩ : Mc) ∧ few (⟨l', ⟨x', pc'.val, ie'.val, eie'.val, epc'.val, tv'.val, ca'.val, ad'.val⟩, ⟨ks', sc', on'.val, at'.val, se'⟩, qu'.val, no'.val, ov'.val, us'⟩ : Mc).l ∧ (⟨l', ⟨x', pc'.val, ie'.val, eie'.val, epc'.val, tv'.val, ca'.val, ad'.val⟩, ⟨ks', sc', on'.val, at'.val, se'⟩, qu'.val, no'.val, ov'.val, us'⟩ : Mc).l.length % 16 = 0) }) | _ => .fail "whole80"
theorem argwhole80 (l : List Int) (x : List Int) (pc : SI) (ie eie : SB) (epc tv ca ad : SI) (ks : List Int) (sc : List Int) (on : SB) (at_ : SI) (se : List (Int × Int × Int)) (qu no : SI) (ov : SB) (us : List (Int × Int)) (l' : List Int) (x' : List Int) (pc' : SI) (ie' eie' : SB) (epc' tv' ca' ad' : SI) (qu' : SI) (ks' : List Int) (se' : List (Int × Int × Int)) (sc' : List Int) (at' : SI) (on' : SB) (no' : SI) (ov' : SB) (us' : List (Int × Int)) : (all (subL tAtN none' [] deep [.rop [.rop [.ro .u32 l], .arr .u32 16 x, .int .u32 pc, .bool ie, .bool eie, .int .u32 epc, .int .u32 tv, .int .u32 ca, .int .u32 ad, .rop [.ro .u32 ks, .arr .u32 16 sc, .bool on, .int .i64 at_, .ro (.flat (.int .i64) [.int .u32, .int .u32]) se], .int .i64 qu, .int .i64 no, .bool ov, .ro (.flat (.int .i64) [.int .u32]) us], .rop [.rop [.ro .u32 l'], .arr .u32 16 x', .int .u32 pc', .bool ie', .bool eie', .int .u32 epc', .int .u32 tv', .int .u32 ca', .int .u32 ad', .int .i64 qu', .rop [.ro .u32 ks', .ro (.flat (.int .i64) [.int .u32, .int .u32]) se', .arr .u32 16 sc', .int .i64 at', .bool on'], .int .i64 no', .bool ov', .ro (.flat (.int .i64) [.int .u32]) us']] [mLent (mcV l x pc ie eie epc tv ca ad ks sc on at_ se qu no ov us), eLent (⟨l', ⟨x', pc'.val, ie'.val, eie'.val, epc'.val, tv'.val, ca'.val, ad'.val⟩, ⟨ks', sc', on'.val, at'.val, se'⟩, qu'.val, no'.val, ov'.val, us'⟩ : Mc)])) = (
  l = l ∧ x = x ∧ SI.val pc = SI.val pc ∧ SB.val ie = SB.val ie ∧ SB.val eie = SB.val eie ∧ SI.val epc = SI.val epc ∧ SI.val tv = SI.val tv ∧ SI.val ca = SI.val ca ∧ SI.val ad = SI.val ad ∧ ks = ks ∧ sc = sc ∧ SB.val on = SB.val on ∧ SI.val at_ = SI.val at_ ∧ se = se ∧ SI.val qu = SI.val qu ∧ SI.val no = SI.val no ∧ SB.val ov = SB.val ov ∧ us = us ∧ l' = l' ∧ x' = x' ∧ SI.val pc' = SI.val pc' ∧ SB.val ie' = SB.val ie' ∧ SB.val eie' = SB.val eie' ∧ SI.val epc' = SI.val epc' ∧ SI.val tv' = SI.val tv' ∧ SI.val ca' = SI.val ca' ∧ SI.val ad' = SI.val ad' ∧ SI.val qu' = SI.val qu' ∧ ks' = ks' ∧ se' = se' ∧ sc' = sc' ∧ SI.val at' = SI.val at' ∧ SB.val on' = SB.val on' ∧ SI.val no' = SI.val no' ∧ SB.val ov' = SB.val ov' ∧ us' = us') := by kernel_rfl
abbrev Twhole80 (gl : List (Nat × SVal)) (b y : Mc) : Prop := Tr.sat (plainQ (.bool (.lit true))) (run (env gl [(51, kbMem), (53, kmFrame), (54, krFrame), (55, kSameWZ), (56, kmFramesB), (52, krFramesB)]) [(3, Lwhole' b y)] (bodyOf Tryz.f16) (start [mLent b, eLent y] 49) (ends (env gl [(51, kbMem), (53, kmFrame), (54, krFrame), (55, kSameWZ), (56, kmFramesB), (52, krFramesB)]) Tryz.f16.results.toList))
theorem runwhole80 (gl : List (Nat × SVal)) (b y : Mc) : (Twhole80 gl b y) = (
  RQ (few b.l) (RQ ((b = nrmM y ∧ few y.l ∧ List.length y.l % 16 = (0 : Nat)) ∧ y.l = y.l ∧ y.c.r = y.c.r ∧ y.c.pc = y.c.pc ∧ y.c.ie = y.c.ie ∧ y.c.eie = y.c.eie ∧ y.c.epc = y.c.epc ∧ y.c.tv = y.c.tv ∧ y.c.cause = y.c.cause ∧ y.c.addr = y.c.addr ∧ y.quota = y.quota ∧ y.d.keys = y.d.keys ∧ y.d.seen = y.d.seen ∧ y.d.sec = y.d.sec ∧ y.d.at_ = y.d.at_ ∧ y.d.on = y.d.on ∧ y.now = y.now ∧ y.over = y.over ∧ y.w = y.w ∧ (0 : Int) = ((0 : Nat) : Int) ∧ b.l = b.l) (decide (frN b.l = frN y.l) = true))) := by kernel_rfl
theorem gwhole80 (b y : Mc)  (hv : b = nrmM y ∧ few y.l ∧ y.l.length % 16 = 0) : Box (Twhole80 gl b y) := by
  refine .of (runwhole80 gl b y) ?_
  obtain ⟨rfl, h1, h2⟩ := id hv
  exact ⟨h1, fun _ => ⟨⟨hv, rfl, rfl, rfl, rfl, rfl, rfl, rfl, rfl, rfl, rfl, rfl, rfl, rfl, rfl, rfl, rfl, rfl, rfl, rfl, rfl⟩, fun _ => decide_eq_true rfl⟩⟩
theorem cwhole80 : Con ea has gl 16 kwhole80 := by
  refine plain_mkB Tryz.func16 49 (con := [(51, kbMem), (53, kmFrame), (54, krFrame), (55, kSameWZ), (56, kmFramesB), (52, krFramesB)]) ⟨cbMem, cmFrame, crFrame, cSameWZ, cmFramesB, crFramesB, trivial⟩ (fun hA hr hv => ?_) (by kernel_rfl) (by kernel_rfl) Tryz.ntmps16
  unfold kwhole80 at hr; split at hr
  · rename_i l x pc ie eie epc tv ca ad ks sc on at_ se qu no ov us l' x' pc' ie' eie' epc' tv' ca' ad' qu' ks' se' sc' at' on' no' ov' us'
    have := ret_ok hr; subst this
    replace hv := hv _ rfl
    exact ⟨_, [(3, Lwhole' (mcV l x pc ie eie epc tv ca ad ks sc on at_ se qu no ov us) (⟨l', ⟨x', pc'.val, ie'.val, eie'.val, epc'.val, tv'.val, ca'.val, ad'.val⟩, ⟨ks', sc', on'.val, at'.val, se'⟩, qu'.val, no'.val, ov'.val, us'⟩ : Mc))], rfl, rfl, .of (argwhole80 l x pc ie eie epc tv ca ad ks sc on at_ se qu no ov us l' x' pc' ie' eie' epc' tv' ca' ad' qu' ks' se' sc' at' on' no' ov' us') (by simp), rfl, (fun W R ρ0 own0 hown => hl1 (by kernel_rfl) (by kernel_rfl) (lwhole' (mcV l x pc ie eie epc tv ca ad ks sc on at_ se qu no ov us) (⟨l', ⟨x', pc'.val, ie'.val, eie'.val, epc'.val, tv'.val, ca'.val, ad'.val⟩, ⟨ks', sc', on'.val, at'.val, se'⟩, qu'.val, no'.val, ov'.val, us'⟩ : Mc) hown)), gwhole80 ⟨l, ⟨x, pc.val, ie.val, eie.val, epc.val, tv.val, ca.val, ad.val⟩, ⟨ks, sc, on.val, at_.val, se⟩, qu.val, no.val, ov.val, us⟩ ⟨l', ⟨x', pc'.val, ie'.val, eie'.val, epc'.val, tv'.val, ca'.val, ad'.val⟩, ⟨ks', sc', on'.val, at'.val, se'⟩, qu'.val, no'.val, ov'.val, us'⟩  hv⟩
  · cases hr
abbrev kwhole8 := bor [.box [.box [.ro .u32], .any, .any, .any, .any, .any, .any, .any, .any, .box [.ro .u32, .any, .any, .any, .ro seenT], .any, .any, .any, .ro updT], .box [.box [.ro .u32], .any, .any, .any, .any, .any, .any, .any, .any, .any, .box [.ro .u32, .ro seenT, .any, .any, .any], .any, .any, .ro updT]] kwhole80
theorem cwhole8 : Con ea has gl 16 kwhole8 := bor_ok cwhole80 _
end
end Go.Proofs.YtpjccdncokamlaaGreatDoor

