/- Contracts that the proofs use. -/
import Derived.Test.YtfbagpbncfapbaaDoorQFnEq7
set_option linter.unusedVariables false
set_option linter.unusedSimpArgs false
namespace Go.Proofs.YtfbagpbncfapbaaDoor
open Go.RowKit Go.Sy Go.Fac
section
variable {ea : Int → Addr} {has : Int → Prop} {gl : List (Nat × SVal)}
theorem hl3 {c b1 b2 b3 : Code} {ls : List (Nat × LSum)} {L0 : LSum} {Z : Code → LSum → Prop} (h : loopsOf c = [b1, b2, b3]) (f1 : (find (headId b1) ls).isNone = true) (f2 : (find (headId b2) ls).isNone = true) (f3 : find (headId b3) ls = some L0) (H : Z b3 L0) :
    ∀ b ∈ loopsOf c, ∀ L, find (headId b) ls = some L → Z b L := by
  rw [h]
  intro b hb L hL
  simp only [List.mem_cons, List.mem_nil_iff, or_false] at hb
  rcases hb with rfl | rfl | rfl
  · rw [hL] at f1; cases f1
  · rw [hL] at f2; cases f2
  · rw [f3] at hL; cases hL; exact H
def kNew24 : List SVal → Nat → Acc ORes := fun a n => match a with | [.int .i64 (.lit (.ofNat 24))] => .ret (newR n (.tuple [.ptr 0 0, .nilIface]) ([(0, .cells [.own 1]), (1, .recs .u32 (List.replicate 384 0))]) 2) | _ => .fail "New24"
theorem argNew24  : (all (subL tAtN none' [] deep [.int .i64 (.lit (.ofNat 24))] [.int .i64 (.lit (.ofNat 24))])) = (
  (24 : Int) = Int.ofNat (24 : Nat)) := by kernel_rfl
theorem runNew24 (gl : List (Nat × SVal)) : (Tr.sat (newQ (env gl []) (.tuple [.ptr 0 0, .nilIface]) ([(0, .cells [.own 1]), (1, .recs .u32 (List.replicate 384 0))]) 2) (run (env gl []) [] (bodyOf Tryd.f29) (start [.int .i64 (.lit (.ofNat 24))] 16) (ends (env gl []) Tryd.f29.results.toList))) = (
  ((0 : Int) ≤ (384 : Int) ∧ (384 : Int) ≤ (384 : Int) ∧ (384 : Int) ≤ (137438953472 : Int)) ∧ ((0 : Int) ≤ (384 : Int) ∧ (384 : Int) ≤ (384 : Int) ∧ (384 : Int) ≤ (137438953472 : Int) → List.replicate (Int.toNat (384 : Int)) (RT.dflt RT.u32) = List.replicate (384 : Nat) (0 : RT.ty RT.u32))) := by kernel_rfl
set_option maxHeartbeats 4000000 in
theorem cNew24 : Con ea has gl 29 kNew24 := by
  refine new_mkB Tryd.func29 16 (con := []) trivial (fun hA hr hv => ?_) (by kernel_rfl) (by kernel_rfl) Tryd.ntmps29
  unfold kNew24 at hr; split at hr
  · skip
    have := ret_ok hr; subst this
    refine ⟨_, [], _, _, _, ⟨rfl, rfl, rfl⟩, .of (argNew24 ) (by simp), rfl, rfl, (fun W R ρ0 own0 hown => noSums (by kernel_rfl)), .of (runNew24 gl ) ?_⟩
    clear hr
    exact ⟨by omega, fun _ => rfl⟩
  · cases hr
def kNewMem24 : List SVal → Nat → Acc ORes := fun a n => match a with | [.int .i64 (.lit (.ofNat 24))] => .ret (newR n (.ptr 0 0) ([(0, .cells [.own 1]), (1, .recs .u32 (List.replicate 384 0))]) 2) | _ => .fail "NewMem24"
theorem argNewMem24  : (all (subL tAtN none' [] deep [.int .i64 (.lit (.ofNat 24))] [.int .i64 (.lit (.ofNat 24))])) = (
  (24 : Int) = Int.ofNat (24 : Nat)) := by kernel_rfl
theorem runNewMem24 (gl : List (Nat × SVal)) : (Tr.sat (newQ (env gl []) (.ptr 0 0) ([(0, .cells [.own 1]), (1, .recs .u32 (List.replicate 384 0))]) 2) (run (env gl []) [] (bodyOf Tryd.f30) (start [.int .i64 (.lit (.ofNat 24))] 8) (ends (env gl []) Tryd.f30.results.toList))) = (
  ((0 : Int) ≤ (384 : Int) ∧ (384 : Int) ≤ (384 : Int) ∧ (384 : Int) ≤ (137438953472 : Int)) ∧ ((0 : Int) ≤ (384 : Int) ∧ (384 : Int) ≤ (384 : Int) ∧ (384 : Int) ≤ (137438953472 : Int) → List.replicate (Int.toNat (384 : Int)) (RT.dflt RT.u32) = List.replicate (384 : Nat) (0 : RT.ty RT.u32))) := by kernel_rfl
set_option maxHeartbeats 4000000 in
theorem cNewMem24 : Con ea has gl 30 kNewMem24 := by
  refine new_mkB Tryd.func30 8 (con := []) trivial (fun hA hr hv => ?_) (by kernel_rfl) (by kernel_rfl) Tryd.ntmps30
  unfold kNewMem24 at hr; split at hr
  · skip
    have := ret_ok hr; subst this
    refine ⟨_, [], _, _, _, ⟨rfl, rfl, rfl⟩, .of (argNewMem24 ) (by simp), rfl, rfl, (fun W R ρ0 own0 hown => noSums (by kernel_rfl)), .of (runNewMem24 gl ) ?_⟩
    clear hr
    exact ⟨by omega, fun _ => rfl⟩
  · cases hr
def frameL (l : List Int) (f : Int) : List Int := (l.drop (f * 16).toNat).take 16
theorem frame_piece (l : List Int) (f : Int) (h : 0 ≤ f) : pieceL l (some (SI.full (f * 16))) (some (SI.full ((f + 1) * 16))) = frameL l f := by
  show (l.take ((f + 1) * 16).toNat).drop (f * 16).toNat = (l.drop (f * 16).toNat).take 16
  rw [List.drop_take]; congr 1; omega
abbrev kCloneW := kClone .u32
theorem runCloneW0 (gl : List (Nat × SVal)) : (Tr.sat (newQ (env gl []) (.own 0) [(0, .recs .u32 [])] 1) (run (env gl []) [] (bodyOf Tryd.f60) (start [.nilslice] 8) (ends (env gl []) Tryd.f60.results.toList))) = (
  @List.nil (RT.ty RT.u32) = @List.nil (RT.ty RT.u32)) := by kernel_rfl
theorem runCloneW1 (gl : List (Nat × SVal)) (l : List Int) : (Tr.sat (newQ (env gl []) (.own 0) [(0, .recs .u32 l)] 1) (run (env gl []) [] (bodyOf Tryd.f60) (start [.roN .u32 l] 8) (ends (env gl []) Tryd.f60.results.toList))) = (
  List.length (@List.nil (RT.ty RT.u32)) + List.length l ≤ (137438953472 : Nat) ∧ (List.length (@List.nil (RT.ty RT.u32)) + List.length l ≤ (137438953472 : Nat) → @List.nil (RT.ty RT.u32) ++ l = l)) := by kernel_rfl
theorem cCloneW : Con ea has gl 60 (kClone .u32) := by
  refine clone_mk Tryd.func60 8 ?_ ?_ (by kernel_rfl) (by kernel_rfl) (by kernel_rfl) Tryd.ntmps60 rfl
  · have := runCloneW0 gl; exact this.mpr rfl
  · intro l hl; exact (runCloneW1 gl l).mpr ⟨by simpa using hl, fun _ => rfl⟩
def HWords7' (l : List Int) (i : Nat) : SState := { fr := [(0, .ro .u32 l), (3, .own 0), (4, .int .i64 (.sym i 0 1000000))], hp := [(0, some (.recs .u32 (l.take i)))], next := 1, sz := 22 }
def XWords7' (l : List Int) : SState := { fr := [(3, .own 0)], hp := [(0, some (.recs .u32 l))], next := 1, sz := 22 }
def LWords7' (l : List Int) : LSum := ⟨HWords7' l 0, fun k => k (.exit 0) (XWords7' l), l.length ≤ 1000000⟩
theorem bWords7' (gl : List (Nat × SVal)) (l : List Int) (i : Nat) : (Tr.sat (rnd1 (env gl []) (fun _ => True) (l.length) (HWords7' l) 0 (XWords7' l) i) (run (env gl []) [] (loopN (bodyOf Tryd.f61) 0) (HWords7' l i) .leaf)) = (
  (decide ((↑i : Int) < (↑(List.length l) : Int)) = true → ((0 : Int) ≤ (↑i : Int) ∧ (↑i : Int) < (↑(List.length l) : Int)) ∧ ((0 : Int) ≤ (↑i : Int) ∧ (↑i : Int) < (↑(List.length l) : Int) → List.length (List.take i l) + List.length [List.getD l (Int.toNat (↑i : Int)) (RT.dflt RT.u32)] ≤ (137438953472 : Nat) ∧ (List.length (List.take i l) + List.length [List.getD l (Int.toNat (↑i : Int)) (RT.dflt RT.u32)] ≤ (137438953472 : Nat) → i < List.length l ∧ True ∧ l = l ∧ (↑i : Int) + (1 : Int) = (↑(i + (1 : Nat)) : Int) ∧ ((0 : Int) ≤ (↑(i + (1 : Nat)) : Int) ∧ (↑(i + (1 : Nat)) : Int) ≤ (1000000 : Int)) ∧ List.take i l ++ [List.getD l (Int.toNat (↑i : Int)) (RT.dflt RT.u32)] = List.take (i + (1 : Nat)) l))) ∧ (decide ((↑i : Int) < (↑(List.length l) : Int)) = false → Nat.beq (0 : Nat) (0 : Nat) = true ∧ List.take i l = l)) := by kernel_rfl
set_option maxHeartbeats 4000000 in
theorem lWords7' (l : List Int) {W : World} {R own0 : Nat → Prop} {ρ0 : Nat → Option Value} (hown : HownOk (env gl []) own0 ρ0) : LOk Tryd.prog (env gl []) (ctx ea has) gl W R own0 ρ0 (loopN (bodyOf Tryd.f61) 0) (LWords7' l) := by
  refine loop1_ok (env_ok (con := []) trivial) hown (ls := fun i => []) (fun i => noSums (by kernel_rfl)) (fun hm i hi hj => (bWords7' gl l i).mpr ?_) 0 (fun hm => by first | exact Nat.zero_le _ | omega) (fun hm => trivial)
  have d0 : RT.u32.dflt = (0 : Int) := rfl
  simp only [d0, Int.toNat_natCast, List.length_singleton, List.length_take]
  refine ⟨fun h => ?_, fun h => ?_⟩
  · have h := of_decide_eq_true h
    have hlt : i < l.length := by omega
    have : l.take i ++ [l.getD i 0] = l.take (i + 1) := by rw [List.take_add_one, List.getElem?_eq_getElem hlt]; simp [hlt]
    refine ⟨by omega, fun _ => ⟨by omega, fun _ => ⟨hlt, trivial, ?_⟩⟩⟩
    simp only [this, true_and, and_true]; omega
  · have h := of_decide_eq_false h
    exact ⟨rfl, List.take_of_length_le (by omega)⟩
def kWords7 : List SVal → Nat → Acc ORes := fun a n => match a with | [.ro .u32 l] => .ret ({ v := .ro .u32 l, vc := some (l.length ≤ 1000000) }) | _ => .fail "Words7"
theorem argWords7 (l : List Int) : (all (subL tAtN none' [] deep [.ro .u32 l] [.ro .u32 l])) = (
  l = l) := by kernel_rfl
theorem runWords7 (gl : List (Nat × SVal)) (l : List Int) : (Tr.sat (plainQ (.ro .u32 l)) (run (env gl []) [(3, LWords7' l)] (bodyOf Tryd.f61) (start [.ro .u32 l] 22) (ends (env gl []) Tryd.f61.results.toList))) = (
  ((0 : Int) ≤ (0 : Int) ∧ (0 : Int) ≤ (↑(List.length l) : Int) ∧ (↑(List.length l) : Int) ≤ (137438953472 : Int)) ∧ ((0 : Int) ≤ (0 : Int) ∧ (0 : Int) ≤ (↑(List.length l) : Int) ∧ (↑(List.length l) : Int) ≤ (137438953472 : Int) → (List.length l ≤ (1000000 : Nat) ∧ l = l ∧ (0 : Int) = (↑(0 : Nat) : Int) ∧ List.replicate (Int.toNat (0 : Int)) (RT.dflt RT.u32) = List.take (0 : Nat) l) ∧ (List.length l ≤ (1000000 : Nat) ∧ l = l ∧ (0 : Int) = (↑(0 : Nat) : Int) ∧ List.replicate (Int.toNat (0 : Int)) (RT.dflt RT.u32) = List.take (0 : Nat) l → l = l))) := by kernel_rfl
set_option maxHeartbeats 4000000 in
theorem gWords7 (l : List Int)  (hv : l.length ≤ 1000000) : Box (Tr.sat (plainQ (.ro .u32 l)) (run (env gl []) [(3, LWords7' l)] (bodyOf Tryd.f61) (start [.ro .u32 l] 22) (ends (env gl []) Tryd.f61.results.toList))) := by
  refine .of (runWords7 gl l) ?_
  exact ⟨by omega, fun _ => ⟨⟨hv, rfl, rfl, rfl⟩, fun _ => rfl⟩⟩
set_option maxHeartbeats 4000000 in
theorem cWords7 : Con ea has gl 61 kWords7 := by
  refine plain_mkB Tryd.func61 22 (con := []) trivial (fun hA hr hv => ?_) (by kernel_rfl) (by kernel_rfl) Tryd.ntmps61
  unfold kWords7 at hr; split at hr
  · rename_i l
    have := ret_ok hr; subst this
    replace hv := hv _ rfl
    exact ⟨_, [(3, LWords7' l)], rfl, rfl, .of (argWords7 l) (by simp), rfl, (fun W R ρ0 own0 hown => hl1 (by kernel_rfl) (by kernel_rfl) (lWords7' l hown)), gWords7 l  hv⟩
  · cases hr
def kmFrame : List SVal → Nat → Acc ORes := fun a n => match a with | [.rop [.ro .u32 l], .int .i64 f] => .ret ({ v := .tuple [.ro .u32 (frameL l f.val), .bool (.lit true)], vc := some (0 ≤ f.val ∧ f.val < frN l ∧ l.length ≤ 1000000) }) | _ => .fail "mFrame"
theorem argmFrame (l : List Int) (f : SI) : (all (subL tAtN none' [] deep [.rop [.ro .u32 l], .int .i64 f] [.rop [.ro .u32 l], .int .i64 (.full f.val)])) = (
  l = l ∧ SI.val f = SI.val f) := by kernel_rfl
theorem runmFrame (gl : List (Nat × SVal)) (l : List Int) (f : Int) : (Tr.sat (plainQ (.tuple [.ro .u32 (frameL l f), .bool (.lit true)])) (run (env gl [(59, kmFrames), (60, kCloneW)]) [] (bodyOf Tryd.f46) (start [.rop [.ro .u32 l], .int .i64 (.full f)] 25) (ends (env gl [(59, kmFrames), (60, kCloneW)]) Tryd.f46.results.toList))) = (
  ((decide (f < (0 : Int)) || decide (frN l ≤ f)) = true → @List.nil (RT.ty RT.u32) = frameL l f ∧ false = true) ∧ ((decide (f < (0 : Int)) || decide (frN l ≤ f)) = false → ((0 : Int) ≤ IntKind.wrap IntKind.i64 (f * (16 : Int)) ∧ IntKind.wrap IntKind.i64 (f * (16 : Int)) ≤ IntKind.wrap IntKind.i64 (IntKind.wrap IntKind.i64 (f + (1 : Int)) * (16 : Int)) ∧ IntKind.wrap IntKind.i64 (IntKind.wrap IntKind.i64 (f + (1 : Int)) * (16 : Int)) ≤ (↑(List.length l) : Int)) ∧ ((0 : Int) ≤ IntKind.wrap IntKind.i64 (f * (16 : Int)) ∧ IntKind.wrap IntKind.i64 (f * (16 : Int)) ≤ IntKind.wrap IntKind.i64 (IntKind.wrap IntKind.i64 (f + (1 : Int)) * (16 : Int)) ∧ IntKind.wrap IntKind.i64 (IntKind.wrap IntKind.i64 (f + (1 : Int)) * (16 : Int)) ≤ (↑(List.length l) : Int) → List.length (pieceL l (some (SI.full (IntKind.wrap IntKind.i64 (f * (16 : Int))))) (some (SI.full (IntKind.wrap IntKind.i64 (IntKind.wrap IntKind.i64 (f + (1 : Int)) * (16 : Int)))))) ≤ (137438953472 : Nat) ∧ (List.length (pieceL l (some (SI.full (IntKind.wrap IntKind.i64 (f * (16 : Int))))) (some (SI.full (IntKind.wrap IntKind.i64 (IntKind.wrap IntKind.i64 (f + (1 : Int)) * (16 : Int)))))) ≤ (137438953472 : Nat) → pieceL l (some (SI.full (IntKind.wrap IntKind.i64 (f * (16 : Int))))) (some (SI.full (IntKind.wrap IntKind.i64 (IntKind.wrap IntKind.i64 (f + (1 : Int)) * (16 : Int))))) = frameL l f ∧ true = true)))) := by kernel_rfl
set_option maxHeartbeats 4000000 in
theorem gmFrame (l : List Int) (f : Int)  (hv : 0 ≤ f ∧ f < frN l ∧ l.length ≤ 1000000) : Box (Tr.sat (plainQ (.tuple [.ro .u32 (frameL l f), .bool (.lit true)])) (run (env gl [(59, kmFrames), (60, kCloneW)]) [] (bodyOf Tryd.f46) (start [.rop [.ro .u32 l], .int .i64 (.full f)] 25) (ends (env gl [(59, kmFrames), (60, kCloneW)]) Tryd.f46.results.toList))) := by
  refine .of (runmFrame gl l f) ?_
  obtain ⟨h0, h1, h2⟩ := hv
  have W : ∀ n : Int, 0 ≤ n → n ≤ 2000000 → IntKind.i64.wrap n = n := fun n h1 h2 => by rw [IntKind.wrap_i64]; omega
  have hf : (f + 1) * 16 ≤ l.length := by unfold frN at h1; omega
  have e := frame_piece l f h0
  have el : (frameL l f).length ≤ 16 := by unfold frameL; rw [List.length_take]; omega
  rw [W (f * 16) (by omega) (by omega), W (f + 1) (by omega) (by omega), W ((f + 1) * 16) (by omega) (by omega), e]
  exact ⟨fun h => by simp at h; omega, fun _ => ⟨⟨by omega, by omega, by omega⟩, fun _ => ⟨by omega, fun _ => ⟨rfl, rfl⟩⟩⟩⟩
set_option maxHeartbeats 4000000 in
theorem cmFrame : Con ea has gl 46 kmFrame := by
  refine plain_mkB Tryd.func46 25 (con := [(59, kmFrames), (60, kCloneW)]) ⟨cmFrames, cCloneW, trivial⟩ (fun hA hr hv => ?_) (by kernel_rfl) (by kernel_rfl) Tryd.ntmps46
  unfold kmFrame at hr; split at hr
  · rename_i l f
    have := ret_ok hr; subst this
    replace hv := hv _ rfl
    exact ⟨_, [], rfl, rfl, .of (argmFrame l f) (by simp), rfl, (fun W R ρ0 own0 hown => noSums (by kernel_rfl)), gmFrame l f.val  hv⟩
  · cases hr
def krFrame : List SVal → Nat → Acc ORes := fun a n => match a with | [.rop [.ro .u32 l], .int .i64 f] => .ret ({ v := .tuple [.ro .u32 (frameL l f.val), .bool (.lit true)], vc := some (0 ≤ f.val ∧ f.val < frN l ∧ l.length ≤ 1000000) }) | _ => .fail "rFrame"
theorem argrFrame (l : List Int) (f : SI) : (all (subL tAtN none' [] deep [.rop [.ro .u32 l], .int .i64 f] [.rop [.ro .u32 l], .int .i64 (.full f.val)])) = (
  l = l ∧ SI.val f = SI.val f) := by kernel_rfl
theorem runrFrame (gl : List (Nat × SVal)) (l : List Int) (f : Int) : (Tr.sat (plainQ (.tuple [.ro .u32 (frameL l f), .bool (.lit true)])) (run (env gl [(45, krFrames), (61, kWords7)]) [] (bodyOf Tryd.f47) (start [.rop [.ro .u32 l], .int .i64 (.full f)] 25) (ends (env gl [(45, krFrames), (61, kWords7)]) Tryd.f47.results.toList))) = (
  ((decide (f < (0 : Int)) || decide (frN l ≤ f)) = true → @List.nil (RT.ty RT.u32) = frameL l f ∧ false = true) ∧ ((decide (f < (0 : Int)) || decide (frN l ≤ f)) = false → ((0 : Int) ≤ IntKind.wrap IntKind.i64 ((16 : Int) * f) ∧ IntKind.wrap IntKind.i64 ((16 : Int) * f) ≤ IntKind.wrap IntKind.i64 (IntKind.wrap IntKind.i64 ((16 : Int) * f) + (16 : Int)) ∧ IntKind.wrap IntKind.i64 (IntKind.wrap IntKind.i64 ((16 : Int) * f) + (16 : Int)) ≤ (↑(List.length l) : Int)) ∧ ((0 : Int) ≤ IntKind.wrap IntKind.i64 ((16 : Int) * f) ∧ IntKind.wrap IntKind.i64 ((16 : Int) * f) ≤ IntKind.wrap IntKind.i64 (IntKind.wrap IntKind.i64 ((16 : Int) * f) + (16 : Int)) ∧ IntKind.wrap IntKind.i64 (IntKind.wrap IntKind.i64 ((16 : Int) * f) + (16 : Int)) ≤ (↑(List.length l) : Int) → List.length (pieceL l (some (SI.full (IntKind.wrap IntKind.i64 ((16 : Int) * f)))) (some (SI.full (IntKind.wrap IntKind.i64 (IntKind.wrap IntKind.i64 ((16 : Int) * f) + (16 : Int)))))) ≤ (1000000 : Nat) ∧ (List.length (pieceL l (some (SI.full (IntKind.wrap IntKind.i64 ((16 : Int) * f)))) (some (SI.full (IntKind.wrap IntKind.i64 (IntKind.wrap IntKind.i64 ((16 : Int) * f) + (16 : Int)))))) ≤ (1000000 : Nat) → pieceL l (some (SI.full (IntKind.wrap IntKind.i64 ((16 : Int) * f)))) (some (SI.full (IntKind.wrap IntKind.i64 (IntKind.wrap IntKind.i64 ((16 : Int) * f) + (16 : Int))))) = frameL l f ∧ true = true)))) := by kernel_rfl
set_option maxHeartbeats 4000000 in
theorem grFrame (l : List Int) (f : Int)  (hv : 0 ≤ f ∧ f < frN l ∧ l.length ≤ 1000000) : Box (Tr.sat (plainQ (.tuple [.ro .u32 (frameL l f), .bool (.lit true)])) (run (env gl [(45, krFrames), (61, kWords7)]) [] (bodyOf Tryd.f47) (start [.rop [.ro .u32 l], .int .i64 (.full f)] 25) (ends (env gl [(45, krFrames), (61, kWords7)]) Tryd.f47.results.toList))) := by
  refine .of (runrFrame gl l f) ?_
  obtain ⟨h0, h1, h2⟩ := hv
  have W : ∀ n : Int, 0 ≤ n → n ≤ 2000000 → IntKind.i64.wrap n = n := fun n h1 h2 => by rw [IntKind.wrap_i64]; omega
  have hf : (f + 1) * 16 ≤ l.length := by unfold frN at h1; omega
  have e := frame_piece l f h0
  have el : (frameL l f).length ≤ 16 := by unfold frameL; rw [List.length_take]; omega
  rw [W (16 * f) (by omega) (by omega), W (16 * f + 16) (by omega) (by omega), show 16 * f = f * 16 by omega, show f * 16 + 16 = (f + 1) * 16 by omega, e]
  exact ⟨fun h => by simp at h; omega, fun _ => ⟨⟨by omega, by omega, by omega⟩, fun _ => ⟨by omega, fun _ => ⟨rfl, rfl⟩⟩⟩⟩
set_option maxHeartbeats 4000000 in
theorem crFrame : Con ea has gl 47 krFrame := by
  refine plain_mkB Tryd.func47 25 (con := [(45, krFrames), (61, kWords7)]) ⟨crFrames, cWords7, trivial⟩ (fun hA hr hv => ?_) (by kernel_rfl) (by kernel_rfl) Tryd.ntmps47
  unfold krFrame at hr; split at hr
  · rename_i l f
    have := ret_ok hr; subst this
    replace hv := hv _ rfl
    exact ⟨_, [], rfl, rfl, .of (argrFrame l f) (by simp), rfl, (fun W R ρ0 own0 hown => noSums (by kernel_rfl)), grFrame l f.val  hv⟩
  · cases hr
def Hsame' (a b : List Int) (i : Nat) : SState := { fr := [(0, .rop [.ro .u32 a]), (1, .rop [.ro .u32 b]), (5, .int .i64 (.sym i 0 1000000))], hp := [], next := 0, sz := 32 }
def Xsame' (a b : List Int) : SState := { fr := [], hp := [], next := 0, sz := 32 }
def Lsame' (a b : List Int) : LSum := ⟨Hsame' a b 0, fun k => k (.exit 0) (Xsame' a b), b = a ∧ a.length ≤ 1000000⟩
theorem bsame' (gl : List (Nat × SVal)) (a b : List Int) (i : Nat) : (Tr.sat (rnd1 (env gl [(45, krFrames), (46, kmFrame), (47, krFrame), (48, kSameW)]) (fun _ => True) ((frN b).toNat) (Hsame' a b) 0 (Xsame' a b) i) (run (env gl [(45, krFrames), (46, kmFrame), (47, krFrame), (48, kSameW)]) [] (loopN (bodyOf Tryd.f25) 0) (Hsame' a b i) .leaf)) = (
  (decide ((↑i : Int) < frN b) = true → ((0 : Int) ≤ (↑i : Int) ∧ (↑i : Int) < frN a ∧ List.length a ≤ (1000000 : Nat)) ∧ ((0 : Int) ≤ (↑i : Int) ∧ (↑i : Int) < frN a ∧ List.length a ≤ (1000000 : Nat) → ((0 : Int) ≤ (↑i : Int) ∧ (↑i : Int) < frN b ∧ List.length b ≤ (1000000 : Nat)) ∧ ((0 : Int) ≤ (↑i : Int) ∧ (↑i : Int) < frN b ∧ List.length b ≤ (1000000 : Nat) → (frameL b (↑i : Int) = frameL a (↑i : Int) ∧ List.length (frameL a (↑i : Int)) ≤ (1000000 : Nat)) ∧ (frameL b (↑i : Int) = frameL a (↑i : Int) ∧ List.length (frameL a (↑i : Int)) ≤ (1000000 : Nat) → i < Int.toNat (frN b) ∧ True ∧ a = a ∧ b = b ∧ (↑i : Int) + (1 : Int) = (↑(i + (1 : Nat)) : Int) ∧ (0 : Int) ≤ (↑(i + (1 : Nat)) : Int) ∧ (↑(i + (1 : Nat)) : Int) ≤ (1000000 : Int))))) ∧ (decide ((↑i : Int) < frN b) = false → Nat.beq (0 : Nat) (0 : Nat) = true ∧ True)) := by kernel_rfl
set_option maxHeartbeats 4000000 in
theorem lsame' (a b : List Int) {W : World} {R own0 : Nat → Prop} {ρ0 : Nat → Option Value} (hown : HownOk (env gl [(45, krFrames), (46, kmFrame), (47, krFrame), (48, kSameW)]) own0 ρ0) : LOk Tryd.prog (env gl [(45, krFrames), (46, kmFrame), (47, krFrame), (48, kSameW)]) (ctx ea has) gl W R own0 ρ0 (loopN (bodyOf Tryd.f25) 0) (Lsame' a b) := by
  refine loop1_ok (env_ok (con := [(45, krFrames), (46, kmFrame), (47, krFrame), (48, kSameW)]) ⟨crFrames, cmFrame, crFrame, cSameW, trivial⟩) hown (ls := fun i => []) (fun i => noSums (by kernel_rfl)) (fun hm i hi hj => (bsame' gl a b i).mpr ?_) 0 (fun hm => by first | exact Nat.zero_le _ | omega) (fun hm => trivial)
  obtain ⟨rfl, hm⟩ := hm
  have el : ∀ f, (frameL b f).length ≤ 1000000 := fun f => by unfold frameL; rw [List.length_take]; omega
  have hf : frN b * 16 ≤ b.length := (frN_in b).2
  refine ⟨fun h => ?_, fun _ => ⟨rfl, trivial⟩⟩
  have h := of_decide_eq_true h
  exact ⟨⟨by omega, h, hm⟩, fun _ => ⟨⟨by omega, h, hm⟩, fun _ => ⟨⟨rfl, el _⟩, fun _ => ⟨by omega, trivial, rfl, rfl, by omega, by omega, by omega⟩⟩⟩⟩
def ksameM : List SVal → Nat → Acc ORes := fun a n => match a with | [.rop [.ro .u32 a], .rop [.ro .u32 b]] => .ret ({ v := .bool (.lit true), vc := some (b = a ∧ a.length ≤ 1000000) }) | _ => .fail "sameM"
theorem argsameM (a b : List Int) : (all (subL tAtN none' [] deep [.rop [.ro .u32 a], .rop [.ro .u32 b]] [.rop [.ro .u32 a], .rop [.ro .u32 b]])) = (
  a = a ∧ b = b) := by kernel_rfl
theorem runsameM (gl : List (Nat × SVal)) (a b : List Int) : (Tr.sat (plainQ (.bool (.lit true))) (run (env gl [(45, krFrames), (46, kmFrame), (47, krFrame), (48, kSameW)]) [(2, Lsame' a b)] (bodyOf Tryd.f25) (start [.rop [.ro .u32 a], .rop [.ro .u32 b]] 32) (ends (env gl [(45, krFrames), (46, kmFrame), (47, krFrame), (48, kSameW)]) Tryd.f25.results.toList))) = (
  ((b = a ∧ List.length a ≤ (1000000 : Nat)) ∧ a = a ∧ b = b ∧ (0 : Int) = (↑(0 : Nat) : Int)) ∧ ((b = a ∧ List.length a ≤ (1000000 : Nat)) ∧ a = a ∧ b = b ∧ (0 : Int) = (↑(0 : Nat) : Int) → true = true)) := by kernel_rfl
set_option maxHeartbeats 4000000 in
theorem gsameM (a b : List Int)  (hv : b = a ∧ a.length ≤ 1000000) : Box (Tr.sat (plainQ (.bool (.lit true))) (run (env gl [(45, krFrames), (46, kmFrame), (47, krFrame), (48, kSameW)]) [(2, Lsame' a b)] (bodyOf Tryd.f25) (start [.rop [.ro .u32 a], .rop [.ro .u32 b]] 32) (ends (env gl [(45, krFrames), (46, kmFrame), (47, krFrame), (48, kSameW)]) Tryd.f25.results.toList))) := by
  refine .of (runsameM gl a b) ?_
  exact ⟨⟨hv, rfl, rfl, rfl⟩, fun _ => rfl⟩
set_option maxHeartbeats 4000000 in
theorem csameM : Con ea has gl 25 ksameM := by
  refine plain_mkB Tryd.func25 32 (con := [(45, krFrames), (46, kmFrame), (47, krFrame), (48, kSameW)]) ⟨crFrames, cmFrame, crFrame, cSameW, trivial⟩ (fun hA hr hv => ?_) (by kernel_rfl) (by kernel_rfl) Tryd.ntmps25
  unfold ksameM at hr; split at hr
  · rename_i a b
    have := ret_ok hr; subst this
    replace hv := hv _ rfl
    exact ⟨_, [(2, Lsame' a b)], rfl, rfl, .of (argsameM a b) (by simp), rfl, (fun W R ρ0 own0 hown => hl1 (by kernel_rfl) (by kernel_rfl) (lsame' a b hown)), gsameM a b  hv⟩
  · cases hr
abbrev ksameMB := bor [.box [.ro .u32], .box [.ro .u32]] ksameM
theorem csameMB : Con ea has gl 25 ksameMB := bor_ok csameM _
def memI (l : List Int) (i : Nat) : List Int := l.take i ++ List.replicate (384 - i) 0
def memL (l : List Int) : List Int := memI l l.length
theorem mem_step (l : List Int) (i : Nat) (h : i < l.length) (hl : l.length ≤ 384) : wr (memI l i) i (l.getD i 0) = memI l (i + 1) := by
  have e1 : (l.take i).length = i := by rw [List.length_take]; omega
  have hlen : (memI l i).length = 384 := by unfold memI; rw [List.length_append, e1, List.length_replicate]; omega
  have hin : inM (memI l i) i = true := inM_iff.2 (by rw [hlen]; omega)
  rw [wr, if_pos hin, Int.toNat_natCast]
  unfold memI
  rw [List.set_append_right _ _ (by omega), e1, Nat.sub_self, show 384 - i = (384 - (i + 1)) + 1 by omega, List.replicate_succ, List.set_cons_zero]
  have : l.take (i + 1) = l.take i ++ [l.getD i 0] := by rw [List.take_add_one, List.getElem?_eq_getElem h]; simp [h]
  rw [this, List.append_assoc]; rfl
def Hmemory' (l : List Int) (i : Nat) : SState := { fr := [(0, .ro .u32 l), (4, .ptr 0 0), (6, .ptr 2 0), (7, .int .i64 (.sym i 0 384))], hp := [(0, some (.cells [.own 1])), (1, some (.recs .u32 (memI l i))), (2, some (.cells [.own 3])), (3, some (.recs .u32 (memI l i)))], next := 4, sz := 41 }
def Xmemory' (l : List Int) : SState := { fr := [(4, .ptr 0 0), (6, .ptr 2 0)], hp := [(0, some (.cells [.own 1])), (1, some (.recs .u32 (memL l))), (2, some (.cells [.own 3])), (3, some (.recs .u32 (memL l)))], next := 4, sz := 41 }
def Lmemory' (l : List Int) : LSum := ⟨Hmemory' l 0, fun k => k (.exit 0) (Xmemory' l), l.length ≤ 384⟩
theorem bmemory' (gl : List (Nat × SVal)) (l : List Int) (i : Nat) : (Tr.sat (rnd1 (env gl [(29, kNew24), (30, kNewMem24), (31, kmWrite), (32, krWrite)]) (fun _ => True) (l.length) (Hmemory' l) 0 (Xmemory' l) i) (run (env gl [(29, kNew24), (30, kNewMem24), (31, kmWrite), (32, krWrite)]) [] (loopN (bodyOf Tryd.f11) 0) (Hmemory' l i) .leaf)) = (
  (decide ((↑i : Int) < (↑(List.length l) : Int)) = true → ((0 : Int) ≤ (↑i : Int) ∧ (↑i : Int) < (↑(List.length l) : Int)) ∧ ((0 : Int) ≤ (↑i : Int) ∧ (↑i : Int) < (↑(List.length l) : Int) → ((0 : Int) ≤ (↑i : Int) ∧ (↑i : Int) < (↑(List.length l) : Int)) ∧ ((0 : Int) ≤ (↑i : Int) ∧ (↑i : Int) < (↑(List.length l) : Int) → i < List.length l ∧ True ∧ l = l ∧ (↑i : Int) + (1 : Int) = (↑(i + (1 : Nat)) : Int) ∧ ((0 : Int) ≤ (↑(i + (1 : Nat)) : Int) ∧ (↑(i + (1 : Nat)) : Int) ≤ (384 : Int)) ∧ wr (memI l i) (↑i : Int) (List.getD l (Int.toNat (↑i : Int)) (RT.dflt RT.u32)) = memI l (i + (1 : Nat)) ∧ wr (memI l i) (↑i : Int) (List.getD l (Int.toNat (↑i : Int)) (RT.dflt RT.u32)) = memI l (i + (1 : Nat))))) ∧ (decide ((↑i : Int) < (↑(List.length l) : Int)) = false → Nat.beq (0 : Nat) (0 : Nat) = true ∧ memI l i = memL l ∧ memI l i = memL l)) := by kernel_rfl
set_option maxHeartbeats 4000000 in
theorem lmemory' (l : List Int) {W : World} {R own0 : Nat → Prop} {ρ0 : Nat → Option Value} (hown : HownOk (env gl [(29, kNew24), (30, kNewMem24), (31, kmWrite), (32, krWrite)]) own0 ρ0) : LOk Tryd.prog (env gl [(29, kNew24), (30, kNewMem24), (31, kmWrite), (32, krWrite)]) (ctx ea has) gl W R own0 ρ0 (loopN (bodyOf Tryd.f11) 0) (Lmemory' l) := by
  refine loop1_ok (env_ok (con := [(29, kNew24), (30, kNewMem24), (31, kmWrite), (32, krWrite)]) ⟨cNew24, cNewMem24, cmWrite, crWrite, trivial⟩) hown (ls := fun i => []) (fun i => noSums (by kernel_rfl)) (fun hm i hi hj => (bmemory' gl l i).mpr ?_) 0 (fun hm => by first | exact Nat.zero_le _ | omega) (fun hm => trivial)
  have d0 : RT.dflt RT.u32 = (0 : Int) := rfl
  refine ⟨fun h => ?_, fun h => ⟨rfl, ?_⟩⟩
  · have h := of_decide_eq_true h
    have e : wr (memI l i) (↑i) (l.getD (↑i : Int).toNat RT.u32.dflt) = memI l (i + 1) := mem_step l i (by omega) hm
    exact ⟨by omega, fun _ => ⟨by omega, fun _ => ⟨by omega, trivial, rfl, by omega, by omega, e, e⟩⟩⟩
  · have h := of_decide_eq_false h
    have : i = l.length := by omega
    subst this
    exact ⟨rfl, rfl⟩
def kmemory : List SVal → Nat → Acc ORes := fun a n => match a with | [.ro .u32 l] => .ret (newR n (.tuple [.ptr 0 0, .ptr 2 0]) ([(0, .cells [.own 1]), (1, .recs .u32 (memL l)), (2, .cells [.own 3]), (3, .recs .u32 (memL l))]) 4 (some (l.length ≤ 384))) | _ => .fail "memory"
theorem argmemory (l : List Int) : (all (subL tAtN none' [] deep [.ro .u32 l] [.ro .u32 l])) = (
  l = l) := by kernel_rfl
theorem runmemory (gl : List (Nat × SVal)) (l : List Int) : (Tr.sat (newQ (env gl [(29, kNew24), (30, kNewMem24), (31, kmWrite), (32, krWrite)]) (.tuple [.ptr 0 0, .ptr 2 0]) ([(0, .cells [.own 1]), (1, .recs .u32 (memL l)), (2, .cells [.own 3]), (3, .recs .u32 (memL l))]) 4) (run (env gl [(29, kNew24), (30, kNewMem24), (31, kmWrite), (32, krWrite)]) [(6, Lmemory' l)] (bodyOf Tryd.f11) (start [.ro .u32 l] 41) (ends (env gl [(29, kNew24), (30, kNewMem24), (31, kmWrite), (32, krWrite)]) Tryd.f11.results.toList))) = (
  (List.length l ≤ (384 : Nat) ∧ l = l ∧ (0 : Int) = (↑(0 : Nat) : Int) ∧ List.replicate (384 : Nat) (0 : RT.ty RT.u32) = memI l (0 : Nat) ∧ List.replicate (384 : Nat) (0 : RT.ty RT.u32) = memI l (0 : Nat)) ∧ (List.length l ≤ (384 : Nat) ∧ l = l ∧ (0 : Int) = (↑(0 : Nat) : Int) ∧ List.replicate (384 : Nat) (0 : RT.ty RT.u32) = memI l (0 : Nat) ∧ List.replicate (384 : Nat) (0 : RT.ty RT.u32) = memI l (0 : Nat) → memL l = memL l ∧ memL l = memL l)) := by kernel_rfl
set_option maxHeartbeats 4000000 in
theorem gmemory (l : List Int)  (hv : l.length ≤ 384) : Box (Tr.sat (newQ (env gl [(29, kNew24), (30, kNewMem24), (31, kmWrite), (32, krWrite)]) (.tuple [.ptr 0 0, .ptr 2 0]) ([(0, .cells [.own 1]), (1, .recs .u32 (memL l)), (2, .cells [.own 3]), (3, .recs .u32 (memL l))]) 4) (run (env gl [(29, kNew24), (30, kNewMem24), (31, kmWrite), (32, krWrite)]) [(6, Lmemory' l)] (bodyOf Tryd.f11) (start [.ro .u32 l] 41) (ends (env gl [(29, kNew24), (30, kNewMem24), (31, kmWrite), (32, krWrite)]) Tryd.f11.results.toList))) := by
  refine .of (runmemory gl l) ?_
  exact ⟨⟨hv, rfl, rfl, rfl, rfl⟩, fun _ => ⟨rfl, rfl⟩⟩
set_option maxHeartbeats 4000000 in
theorem cmemory : Con ea has gl 11 kmemory := by
  refine new_mkB Tryd.func11 41 (con := [(29, kNew24), (30, kNewMem24), (31, kmWrite), (32, krWrite)]) ⟨cNew24, cNewMem24, cmWrite, crWrite, trivial⟩ (fun hA hr hv => ?_) (by kernel_rfl) (by kernel_rfl) Tryd.ntmps11
  unfold kmemory at hr; split at hr
  · rename_i l
    have := ret_ok hr; subst this
    replace hv := hv _ rfl
    exact ⟨_, [(6, Lmemory' l)], _, _, _, ⟨rfl, rfl, rfl⟩, .of (argmemory l) (by simp), rfl, rfl, (fun W R ρ0 own0 hown => hl1 (by kernel_rfl) (by kernel_rfl) (lmemory' l hown)), gmemory l  hv⟩
  · cases hr
abbrev kmemoryF := frz [.ro .u32] kmemory
theorem cmemoryF : Con ea has gl 11 kmemoryF := frz_ok cmemory _
def mapT (w u : Bool) : List Int := [bitsW 1 true true true] ++ List.replicate 7 0 ++ [bitsW 1 true true true] ++ List.replicate 7 0 ++ [0, 1, 2, 3, 4, 5].map (fun p : Nat => bitsW (2 + (p : Int)) true w u) ++ [0, 1, 2, 3, 4, 5].map (fun p : Nat => bitsW (8 + (p : Int)) true false u) ++ List.replicate 356 0
def mapI (T l : List Int) (i : Nat) : List Int := T.take 32 ++ (l.take i ++ T.drop (32 + i))
def mapL (l : List Int) (w u : Bool) : List Int := mapI (mapT w u) l (min l.length 352)
theorem mapT_len (w u : Bool) : (mapT w u).length = 384 := by
  unfold mapT; simp only [List.length_append, List.length_replicate, List.length_map, List.length_cons, List.length_nil]
theorem map_zero (T l : List Int) : mapI T l 0 = T := by
  unfold mapI; simp
theorem map_len (T l : List Int) (i : Nat) (hT : T.length = 384) (h1 : i ≤ l.length) (h2 : i ≤ 352) : (mapI T l i).length = 384 := by
  unfold mapI; simp only [List.length_append, List.length_take, List.length_drop]; omega
theorem map_step (T l : List Int) (i : Nat) (hT : T.length = 384) (h1 : i < l.length) (h2 : i < 352) : (mapI T l i).set (32 + (i : Int)).toNat (l.getD i 0) = mapI T l (i + 1) := by
  have e0 : (T.take 32).length = 32 := by rw [List.length_take]; omega
  have e1 : (l.take i).length = i := by rw [List.length_take]; omega
  have e2 : (32 + (i : Int)).toNat = 32 + i := by omega
  unfold mapI
  rw [e2, List.set_append_right _ _ (by omega), List.set_append_right _ _ (by omega), e0, e1, show 32 + i - 32 - i = 0 by omega, List.drop_eq_getElem_cons (by omega), List.set_cons_zero]
  have : l.take (i + 1) = l.take i ++ [l.getD i 0] := by rw [List.take_add_one, List.getElem?_eq_getElem h1]; simp [h1]
  rw [this, List.append_assoc]; rfl
def Hmapped' (T l : List Int) (i : Nat) : SState := { fr := [(0, .ro .u32 l), (7, .own 0), (16, .int .i64 (.sym i 0 384))], hp := [(0, some (.recs .u32 (mapI T l i)))], next := 1, sz := 86 }
def Xmapped' (T l : List Int) : SState := { fr := [(7, .own 0)], hp := [(0, some (.recs .u32 (mapI T l (min l.length 352))))], next := 1, sz := 86 }
def Lmapped' (T l : List Int) : LSum := ⟨Hmapped' T l 0, fun k => k (.exit 4) (Xmapped' T l), T.length = 384 ∧ l.length ≤ 1000000⟩
theorem bmapped' (gl : List (Nat × SVal)) (T l : List Int) (i : Nat) : (Tr.sat (rnd1 (env gl [(33, krBits)]) (fun _ => True) (min l.length 352) (Hmapped' T l) 4 (Xmapped' T l) i) (run (env gl [(33, krBits)]) [] (loopN (bodyOf Tryd.f12) 2) (Hmapped' T l i) .leaf)) = (
  ((decide ((↑i : Int) < (↑(List.length l) : Int)) && decide ((32 : Int) + (↑i : Int) < (↑(List.length (mapI T l i)) : Int))) = true → ((0 : Int) ≤ (↑i : Int) ∧ (↑i : Int) < (↑(List.length l) : Int)) ∧ ((0 : Int) ≤ (↑i : Int) ∧ (↑i : Int) < (↑(List.length l) : Int) → ((0 : Int) ≤ (32 : Int) + (↑i : Int) ∧ (32 : Int) + (↑i : Int) < (↑(List.length (mapI T l i)) : Int)) ∧ ((0 : Int) ≤ (32 : Int) + (↑i : Int) ∧ (32 : Int) + (↑i : Int) < (↑(List.length (mapI T l i)) : Int) → i < min (List.length l) (352 : Nat) ∧ True ∧ l = l ∧ (↑i : Int) + (1 : Int) = (↑(i + (1 : Nat)) : Int) ∧ ((0 : Int) ≤ (↑(i + (1 : Nat)) : Int) ∧ (↑(i + (1 : Nat)) : Int) ≤ (384 : Int)) ∧ List.set (mapI T l i) (Int.toNat ((32 : Int) + (↑i : Int))) (List.getD l (Int.toNat (↑i : Int)) (RT.dflt RT.u32)) = mapI T l (i + (1 : Nat))))) ∧ ((decide ((↑i : Int) < (↑(List.length l) : Int)) && decide ((32 : Int) + (↑i : Int) < (↑(List.length (mapI T l i)) : Int))) = false → Nat.beq (4 : Nat) (4 : Nat) = true ∧ mapI T l i = mapI T l (min (List.length l) (352 : Nat)))) := by kernel_rfl
set_option maxHeartbeats 4000000 in
theorem lmapped' (T l : List Int) {W : World} {R own0 : Nat → Prop} {ρ0 : Nat → Option Value} (hown : HownOk (env gl [(33, krBits)]) own0 ρ0) : LOk Tryd.prog (env gl [(33, krBits)]) (ctx ea has) gl W R own0 ρ0 (loopN (bodyOf Tryd.f12) 2) (Lmapped' T l) := by
  refine loop1_ok (env_ok (con := [(33, krBits)]) ⟨crBits, trivial⟩) hown (ls := fun i => []) (fun i => noSums (by kernel_rfl)) (fun hm i hi hj => (bmapped' gl T l i).mpr ?_) 0 (fun hm => by first | exact Nat.zero_le _ | omega) (fun hm => trivial)
  obtain ⟨hT, hl⟩ := hm
  have hlen : (mapI T l i).length = 384 := map_len T l i hT (by omega) (by omega)
  rw [hlen]
  refine ⟨fun h => ?_, fun h => ⟨rfl, ?_⟩⟩
  · rw [Bool.and_eq_true] at h
    have h1 := of_decide_eq_true h.1
    have h2 := of_decide_eq_true h.2
    exact ⟨by omega, fun _ => ⟨by omega, fun _ => ⟨by omega, trivial, rfl, by omega, by omega, map_step T l i hT (by omega) (by omega)⟩⟩⟩
  · rw [Bool.and_eq_false_iff] at h
    have : i = min l.length 352 := by
      rcases h with h | h
      · have := of_decide_eq_false h; omega
      · have := of_decide_eq_false h; omega
    rw [← this]
def kmapped : List SVal → Nat → Acc ORes := fun a n => match a with | [.ro .u32 l, .bool w, .bool u] => .ret (newR n (.own 0) ([(0, .recs .u32 (mapL l w.val u.val))]) 1 (some (l.length ≤ 1000000))) | _ => .fail "mapped"
theorem argmapped (l : List Int) (w u : SB) : (all (subL tAtN none' [] deep [.ro .u32 l, .bool w, .bool u] [.ro .u32 l, .bool (.sym w.val), .bool (.sym u.val)])) = (
  l = l ∧ SB.val w = SB.val w ∧ SB.val u = SB.val u) := by kernel_rfl
theorem runmapped (gl : List (Nat × SVal)) (l : List Int) (w u : Bool) : (Tr.sat (newQ (env gl [(33, krBits)]) (.own 0) ([(0, .recs .u32 (mapL l w u))]) 1) (run (env gl [(33, krBits)]) [(16, Lmapped' (mapT w u) l)] (bodyOf Tryd.f12) (start [.ro .u32 l, .bool (.sym w), .bool (.sym u)] 86) (ends (env gl [(33, krBits)]) Tryd.f12.results.toList))) = (
  ((0 : Int) ≤ (384 : Int) ∧ (384 : Int) ≤ (384 : Int) ∧ (384 : Int) ≤ (137438953472 : Int)) ∧ ((0 : Int) ≤ (384 : Int) ∧ (384 : Int) ≤ (384 : Int) ∧ (384 : Int) ≤ (137438953472 : Int) → ((0 : Int) ≤ (0 : Int) ∧ (0 : Int) < (↑(List.length (List.replicate (Int.toNat (384 : Int)) (RT.dflt RT.u32))) : Int)) ∧ ((0 : Int) ≤ (0 : Int) ∧ (0 : Int) < (↑(List.length (List.replicate (Int.toNat (384 : Int)) (RT.dflt RT.u32))) : Int) → ((0 : Int) ≤ (8 : Int) ∧ (8 : Int) < (↑(List.length (List.set (List.replicate (Int.toNat (384 : Int)) (RT.dflt RT.u32)) (Int.toNat (0 : Int)) (bitsW (1 : Int) true true true))) : Int)) ∧ ((0 : Int) ≤ (8 : Int) ∧ (8 : Int) < (↑(List.length (List.set (List.replicate (Int.toNat (384 : Int)) (RT.dflt RT.u32)) (Int.toNat (0 : Int)) (bitsW (1 : Int) true true true))) : Int) → ((0 : Int) ≤ (16 : Int) ∧ (16 : Int) < (↑(List.length (List.set (List.set (List.replicate (Int.toNat (384 : Int)) (RT.dflt RT.u32)) (Int.toNat (0 : Int)) (bitsW (1 : Int) true true true)) (Int.toNat (8 : Int)) (bitsW (1 : Int) true true true))) : Int)) ∧ ((0 : Int) ≤ (16 : Int) ∧ (16 : Int) < (↑(List.length (List.set (List.set (List.replicate (Int.toNat (384 : Int)) (RT.dflt RT.u32)) (Int.toNat (0 : Int)) (bitsW (1 : Int) true true true)) (Int.toNat (8 : Int)) (bitsW (1 : Int) true true true))) : Int) → ((0 : Int) ≤ (17 : Int) ∧ (17 : Int) < (↑(List.length (List.set (List.set (List.set (List.replicate (Int.toNat (384 : Int)) (RT.dflt RT.u32)) (Int.toNat (0 : Int)) (bitsW (1 : Int) true true true)) (Int.toNat (8 : Int)) (bitsW (1 : Int) true true true)) (Int.toNat (16 : Int)) (bitsW (2 : Int) true w u))) : Int)) ∧ ((0 : Int) ≤ (17 : Int) ∧ (17 : Int) < (↑(List.length (List.set (List.set (List.set (List.replicate (Int.toNat (384 : Int)) (RT.dflt RT.u32)) (Int.toNat (0 : Int)) (bitsW (1 : Int) true true true)) (Int.toNat (8 : Int)) (bitsW (1 : Int) true true true)) (Int.toNat (16 : Int)) (bitsW (2 : Int) true w u))) : Int) → ((0 : Int) ≤ (18 : Int) ∧ (18 : Int) < (↑(List.length (List.set (List.set (List.set (List.set (List.replicate (Int.toNat (384 : Int)) (RT.dflt RT.u32)) (Int.toNat (0 : Int)) (bitsW (1 : Int) true true true)) (Int.toNat (8 : Int)) (bitsW (1 : Int) true true true)) (Int.toNat (16 : Int)) (bitsW (2 : Int) true w u)) (Int.toNat (17 : Int)) (bitsW (3 : Int) true w u))) : Int)) ∧ ((0 : Int) ≤ (18 : Int) ∧ (18 : Int) < (↑(List.length (List.set (List.set (List.set (List.set (List.replicate (Int.toNat (384 : Int)) (RT.dflt RT.u32)) (Int.toNat (0 : Int)) (bitsW (1 : Int) true true true)) (Int.toNat (8 : Int)) (bitsW (1 : Int) true true true)) (Int.toNat (16 : Int)) (bitsW (2 : Int) true w u)) (Int.toNat (17 : Int)) (bitsW (3 : Int) true w u))) : Int) → ((0 : Int) ≤ (19 : Int) ∧ (19 : Int) < (↑(List.length (List.set (List.set (List.set (List.set (List.set (List.replicate (Int.toNat (384 : Int)) (RT.dflt RT.u32)) (Int.toNat (0 : Int)) (bitsW (1 : Int) true true true)) (Int.toNat (8 : Int)) (bitsW (1 : Int) true true true)) (Int.toNat (16 : Int)) (bitsW (2 : Int) true w u)) (Int.toNat (17 : Int)) (bitsW (3 : Int) true w u)) (Int.toNat (18 : Int)) (bitsW (4 : Int) true w u))) : Int)) ∧ ((0 : Int) ≤ (19 : Int) ∧ (19 : Int) < (↑(List.length (List.set (List.set (List.set (List.set (List.set (List.replicate (Int.toNat (384 : Int)) (RT.dflt RT.u32)) (Int.toNat (0 : Int)) (bitsW (1 : Int) true true true)) (Int.toNat (8 : Int)) (bitsW (1 : Int) true true true)) (Int.toNat (16 : Int)) (bitsW (2 : Int) true w u)) (Int.toNat (17 : Int)) (bitsW (3 : Int) true w u)) (Int.toNat (18 : Int)) (bitsW (4 : Int) true w u))) : Int) → ((0 : Int) ≤ (20 : Int) ∧ (20 : Int) < (↑(List.length (List.set (List.set (List.set (List.set (List.set (List.set (List.replicate (Int.toNat (384 : Int)) (RT.dflt RT.u32)) (Int.toNat (0 : Int)) (bitsW (1 : Int) true true true)) (Int.toNat (8 : Int)) (bitsW (1 : Int) true true true)) (Int.toNat (16 : Int)) (bitsW (2 : Int) true w u)) (Int.toNat (17 : Int)) (bitsW (3 : Int) true w u)) (Int.toNat (18 : Int)) (bitsW (4 : Int) true w u)) (Int.toNat (19 : Int)) (bitsW (5 : Int) true w u))) : Int)) ∧ ((0 : Int) ≤ (20 : Int) ∧ (20 : Int) < (↑(List.length (List.set (List.set (List.set (List.set (List.set (List.set (List.replicate (Int.toNat (384 : Int)) (RT.dflt RT.u32)) (Int.toNat (0 : Int)) (bitsW (1 : Int) true true true)) (Int.toNat (8 : Int)) (bitsW (1 : Int) true true true)) (Int.toNat (16 : Int)) (bitsW (2 : Int) true w u)) (Int.toNat (17 : Int)) (bitsW (3 : Int) true w u)) (Int.toNat (18 : Int)) (bitsW (4 : Int) true w u)) (Int.toNat (19 : Int)) (bitsW (5 : Int) true w u))) : Int) → ((0 : Int) ≤ (21 : Int) ∧ (21 : Int) < (↑(List.length (List.set (List.set (List.set (List.set (List.set (List.set (List.set (List.replicate (Int.toNat (384 : Int)) (RT.dflt RT.u32)) (Int.toNat (0 : Int)) (bitsW (1 : Int) true true true)) (Int.toNat (8 : Int)) (bitsW (1 : Int) true true true)) (Int.toNat (16 : Int)) (bitsW (2 : Int) true w u)) (Int.toNat (17 : Int)) (bitsW (3 : Int) true w u)) (Int.toNat (18 : Int)) (bitsW (4 : Int) true w u)) (Int.toNat (19 : Int)) (bitsW (5 : Int) true w u)) (Int.toNat (20 : Int)) (bitsW (6 : Int) true w u))) : Int)) ∧ ((0 : Int) ≤ (21 : Int) ∧ (21 : Int) < (↑(List.length (List.set (List.set (List.set (List.set (List.set (List.set (List.set (List.replicate (Int.toNat (384 : Int)) (RT.dflt RT.u32)) (Int.toNat (0 : Int)) (bitsW (1 : Int) true true true)) (Int.toNat (8 : Int)) (bitsW (1 : Int) true true true)) (Int.toNat (16 : Int)) (bitsW (2 : Int) true w u)) (Int.toNat (17 : Int)) (bitsW (3 : Int) true w u)) (Int.toNat (18 : Int)) (bitsW (4 : Int) true w u)) (Int.toNat (19 : Int)) (bitsW (5 : Int) true w u)) (Int.toNat (20 : Int)) (bitsW (6 : Int) true w u))) : Int) → ((0 : Int) ≤ (22 : Int) ∧ (22 : Int) < (↑(List.length (List.set (List.set (List.set (List.set (List.set (List.set (List.set (List.set (List.replicate (Int.toNat (384 : Int)) (RT.dflt RT.u32)) (Int.toNat (0 : Int)) (bitsW (1 : Int) true true true)) (Int.toNat (8 : Int)) (bitsW (1 : Int) true true true)) (Int.toNat (16 : Int)) (bitsW (2 : Int) true w u)) (Int.toNat (17 : Int)) (bitsW (3 : Int) true w u)) (Int.toNat (18 : Int)) (bitsW (4 : Int) true w u)) (Int.toNat (19 : Int)) (bitsW (5 : Int) true w u)) (Int.toNat (20 : Int)) (bitsW (6 : Int) true w u)) (Int.toNat (21 : Int)) (bitsW (7 : Int) true w u))) : Int)) ∧ ((0 : Int) ≤ (22 : Int) ∧ (22 : Int) < (↑(List.length (List.set (List.set (List.set (List.set (List.set (List.set (List.set (List.set (List.replicate (Int.toNat (384 : Int)) (RT.dflt RT.u32)) (Int.toNat (0 : Int)) (bitsW (1 : Int) true true true)) (Int.toNat (8 : Int)) (bitsW (1 : Int) true true true)) (Int.toNat (16 : Int)) (bitsW (2 : Int) true w u)) (Int.toNat (17 : Int)) (bitsW (3 : Int) true w u)) (Int.toNat (18 : Int)) (bitsW (4 : Int) true w u)) (Int.toNat (19 : Int)) (bitsW (5 : Int) true w u)) (Int.toNat (20 : Int)) (bitsW (6 : Int) true w u)) (Int.toNat (21 : Int)) (bitsW (7 : Int) true w u))) : Int) → ((0 : Int) ≤ (23 : Int) ∧ (23 : Int) < (↑(List.length (List.set (List.set (List.set (List.set (List.set (List.set (List.set (List.set (List.set (List.replicate (Int.toNat (384 : Int)) (RT.dflt RT.u32)) (Int.toNat (0 : Int)) (bitsW (1 : Int) true true true)) (Int.toNat (8 : Int)) (bitsW (1 : Int) true true true)) (Int.toNat (16 : Int)) (bitsW (2 : Int) true w u)) (Int.toNat (17 : Int)) (bitsW (3 : Int) true w u)) (Int.toNat (18 : Int)) (bitsW (4 : Int) true w u)) (Int.toNat (19 : Int)) (bitsW (5 : Int) true w u)) (Int.toNat (20 : Int)) (bitsW (6 : Int) true w u)) (Int.toNat (21 : Int)) (bitsW (7 : Int) true w u)) (Int.toNat (22 : Int)) (bitsW (8 : Int) true false u))) : Int)) ∧ ((0 : Int) ≤ (23 : Int) ∧ (23 : Int) < (↑(List.length (List.set (List.set (List.set (List.set (List.set (List.set (List.set (List.set (List.set (List.replicate (Int.toNat (384 : Int)) (RT.dflt RT.u32)) (Int.toNat (0 : Int)) (bitsW (1 : Int) true true true)) (Int.toNat (8 : Int)) (bitsW (1 : Int) true true true)) (Int.toNat (16 : Int)) (bitsW (2 : Int) true w u)) (Int.toNat (17 : Int)) (bitsW (3 : Int) true w u)) (Int.toNat (18 : Int)) (bitsW (4 : Int) true w u)) (Int.toNat (19 : Int)) (bitsW (5 : Int) true w u)) (Int.toNat (20 : Int)) (bitsW (6 : Int) true w u)) (Int.toNat (21 : Int)) (bitsW (7 : Int) true w u)) (Int.toNat (22 : Int)) (bitsW (8 : Int) true false u))) : Int) → ((0 : Int) ≤ (24 : Int) ∧ (24 : Int) < (↑(List.length (List.set (List.set (List.set (List.set (List.set (List.set (List.set (List.set (List.set (List.set (List.replicate (Int.toNat (384 : Int)) (RT.dflt RT.u32)) (Int.toNat (0 : Int)) (bitsW (1 : Int) true true true)) (Int.toNat (8 : Int)) (bitsW (1 : Int) true true true)) (Int.toNat (16 : Int)) (bitsW (2 : Int) true w u)) (Int.toNat (17 : Int)) (bitsW (3 : Int) true w u)) (Int.toNat (18 : Int)) (bitsW (4 : Int) true w u)) (Int.toNat (19 : Int)) (bitsW (5 : Int) true w u)) (Int.toNat (20 : Int)) (bitsW (6 : Int) true w u)) (Int.toNat (21 : Int)) (bitsW (7 : Int) true w u)) (Int.toNat (22 : Int)) (bitsW (8 : Int) true false u)) (Int.toNat (23 : Int)) (bitsW (9 : Int) true false u))) : Int)) ∧ ((0 : Int) ≤ (24 : Int) ∧ (24 : Int) < (↑(List.length (List.set (List.set (List.set (List.set (List.set (List.set (List.set (List.set (List.set (List.set (List.replicate (Int.toNat (384 : Int)) (RT.dflt RT.u32)) (Int.toNat (0 : Int)) (bitsW (1 : Int) true true true)) (Int.toNat (8 : Int)) (bitsW (1 : Int) true true true)) (Int.toNat (16 : Int)) (bitsW (2 : Int) true w u)) (Int.toNat (17 : Int)) (bitsW (3 : Int) true w u)) (Int.toNat (18 : Int)) (bitsW (4 : Int) true w u)) (Int.toNat (19 : Int)) (bitsW (5 : Int) true w u)) (Int.toNat (20 : Int)) (bitsW (6 : Int) true w u)) (Int.toNat (21 : Int)) (bitsW (7 : Int) true w u)) (Int.toNat (22 : Int)) (bitsW (8 : Int) true false u)) (Int.toNat (23 : Int)) (bitsW (9 : Int) true false u))) : Int) → ((0 : Int) ≤ (25 : Int) ∧ (25 : Int) < (↑(List.length (List.set (List.set (List.set (List.set (List.set (List.set (List.set (List.set (List.set (List.set (List.set (List.replicate (Int.toNat (384 : Int)) (RT.dflt RT.u32)) (Int.toNat (0 : Int)) (bitsW (1 : Int) true true true)) (Int.toNat (8 : Int)) (bitsW (1 : Int) true true true)) (Int.toNat (16 : Int)) (bitsW (2 : Int) true w u)) (Int.toNat (17 : Int)) (bitsW (3 : Int) true w u)) (Int.toNat (18 : Int)) (bitsW (4 : Int) true w u)) (Int.toNat (19 : Int)) (bitsW (5 : Int) true w u)) (Int.toNat (20 : Int)) (bitsW (6 : Int) true w u)) (Int.toNat (21 : Int)) (bitsW (7 : Int) true w u)) (Int.toNat (22 : Int)) (bitsW (8 : Int) true false u)) (Int.toNat (23 : Int)) (bitsW (9 : Int) true false u)) (Int.toNat (24 : Int)) (bitsW (10 : Int) true false u))) : Int)) ∧ ((0 : Int) ≤ (25 : Int) ∧ (25 : Int) < (↑(List.length (List.set (List.set (List.set (List.set (List.set (List.set (List.set (List.set (List.set (List.set (List.set (List.replicate (Int.toNat (384 : Int)) (RT.dflt RT.u32)) (Int.toNat (0 : Int)) (bitsW (1 : Int) true true true)) (Int.toNat (8 : Int)) (bitsW (1 : Int) true true true)) (Int.toNat (16 : Int)) (bitsW (2 : Int) true w u)) (Int.toNat (17 : Int)) (bitsW (3 : Int) true w u)) (Int.toNat (18 : Int)) (bitsW (4 : Int) true w u)) (Int.toNat (19 : Int)) (bitsW (5 : Int) true w u)) (Int.toNat (20 : Int)) (bitsW (6 : Int) true w u)) (Int.toNat (21 : Int)) (bitsW (7 : Int) true w u)) (Int.toNat (22 : Int)) (bitsW (8 : Int) true false u)) (Int.toNat (23 : Int)) (bitsW (9 : Int) true false u)) (Int.toNat (24 : Int)) (bitsW (10 : Int) true false u))) : Int) → ((0 : Int) ≤ (26 : Int) ∧ (26 : Int) < (↑(List.length (List.set (List.set (List.set (List.set (List.set (List.set (List.set (List.set (List.set (List.set (List.set (List.set (List.replicate (Int.toNat (384 : Int)) (RT.dflt RT.u32)) (Int.toNat (0 : Int)) (bitsW (1 : Int) true true true)) (Int.toNat (8 : Int)) (bitsW (1 : Int) true true true)) (Int.toNat (16 : Int)) (bitsW (2 : Int) true w u)) (Int.toNat (17 : Int)) (bitsW (3 : Int) true w u)) (Int.toNat (18 : Int)) (bitsW (4 : Int) true w u)) (Int.toNat (19 : Int)) (bitsW (5 : Int) true w u)) (Int.toNat (20 : Int)) (bitsW (6 : Int) true w u)) (Int.toNat (21 : Int)) (bitsW (7 : Int) true w u)) (Int.toNat (22 : Int)) (bitsW (8 : Int) true false u)) (Int.toNat (23 : Int)) (bitsW (9 : Int) true false u)) (Int.toNat (24 : Int)) (bitsW (10 : Int) true false u)) (Int.toNat (25 : Int)) (bitsW (11 : Int) true false u))) : Int)) ∧ ((0 : Int) ≤ (26 : Int) ∧ (26 : Int) < (↑(List.length (List.set (List.set (List.set (List.set (List.set (List.set (List.set (List.set (List.set (List.set (List.set (List.set (List.replicate (Int.toNat (384 : Int)) (RT.dflt RT.u32)) (Int.toNat (0 : Int)) (bitsW (1 : Int) true true true)) (Int.toNat (8 : Int)) (bitsW (1 : Int) true true true)) (Int.toNat (16 : Int)) (bitsW (2 : Int) true w u)) (Int.toNat (17 : Int)) (bitsW (3 : Int) true w u)) (Int.toNat (18 : Int)) (bitsW (4 : Int) true w u)) (Int.toNat (19 : Int)) (bitsW (5 : Int) true w u)) (Int.toNat (20 : Int)) (bitsW (6 : Int) true w u)) (Int.toNat (21 : Int)) (bitsW (7 : Int) true w u)) (Int.toNat (22 : Int)) (bitsW (8 : Int) true false u)) (Int.toNat (23 : Int)) (bitsW (9 : Int) true false u)) (Int.toNat (24 : Int)) (bitsW (10 : Int) true false u)) (Int.toNat (25 : Int)) (bitsW (11 : Int) true false u))) : Int) → ((0 : Int) ≤ (27 : Int) ∧ (27 : Int) < (↑(List.length (List.set (List.set (List.set (List.set (List.set (List.set (List.set (List.set (List.set (List.set (List.set (List.set (List.set (List.replicate (Int.toNat (384 : Int)) (RT.dflt RT.u32)) (Int.toNat (0 : Int)) (bitsW (1 : Int) true true true)) (Int.toNat (8 : Int)) (bitsW (1 : Int) true true true)) (Int.toNat (16 : Int)) (bitsW (2 : Int) true w u)) (Int.toNat (17 : Int)) (bitsW (3 : Int) true w u)) (Int.toNat (18 : Int)) (bitsW (4 : Int) true w u)) (Int.toNat (19 : Int)) (bitsW (5 : Int) true w u)) (Int.toNat (20 : Int)) (bitsW (6 : Int) true w u)) (Int.toNat (21 : Int)) (bitsW (7 : Int) true w u)) (Int.toNat (22 : Int)) (bitsW (8 : Int) true false u)) (Int.toNat (23 : Int)) (bitsW (9 : Int) true false u)) (Int.toNat (24 : Int)) (bitsW (10 : Int) true false u)) (Int.toNat (25 : Int)) (bitsW (11 : Int) true false u)) (Int.toNat (26 : Int)) (bitsW (12 : Int) true false u))) : Int)) ∧ ((0 : Int) ≤ (27 : Int) ∧ (27 : Int) < (↑(List.length (List.set (List.set (List.set (List.set (List.set (List.set (List.set (List.set (List.set (List.set (List.set (List.set (List.set (List.replicate (Int.toNat (384 : Int)) (RT.dflt RT.u32)) (Int.toNat (0 : Int)) (bitsW (1 : Int) true true true)) (Int.toNat (8 : Int)) (bitsW (1 : Int) true true true)) (Int.toNat (16 : Int)) (bitsW (2 : Int) true w u)) (Int.toNat (17 : Int)) (bitsW (3 : Int) true w u)) (Int.toNat (18 : Int)) (bitsW (4 : Int) true w u)) (Int.toNat (19 : Int)) (bitsW (5 : Int) true w u)) (Int.toNat (20 : Int)) (bitsW (6 : Int) true w u)) (Int.toNat (21 : Int)) (bitsW (7 : Int) true w u)) (Int.toNat (22 : Int)) (bitsW (8 : Int) true false u)) (Int.toNat (23 : Int)) (bitsW (9 : Int) true false u)) (Int.toNat (24 : Int)) (bitsW (10 : Int) true false u)) (Int.toNat (25 : Int)) (bitsW (11 : Int) true false u)) (Int.toNat (26 : Int)) (bitsW (12 : Int) true false u))) : Int) → ((List.length (mapT w u) = (384 : Nat) ∧ List.length l ≤ (1000000 : Nat)) ∧ l = l ∧ (0 : Int) = (↑(0 : Nat) : Int) ∧ List.set (List.set (List.set (List.set (List.set (List.set (List.set (List.set (List.set (List.set (List.set (List.set (List.set (List.set (List.replicate (Int.toNat (384 : Int)) (RT.dflt RT.u32)) (Int.toNat (0 : Int)) (bitsW (1 : Int) true true true)) (Int.toNat (8 : Int)) (bitsW (1 : Int) true true true)) (Int.toNat (16 : Int)) (bitsW (2 : Int) true w u)) (Int.toNat (17 : Int)) (bitsW (3 : Int) true w u)) (Int.toNat (18 : Int)) (bitsW (4 : Int) true w u)) (Int.toNat (19 : Int)) (bitsW (5 : Int) true w u)) (Int.toNat (20 : Int)) (bitsW (6 : Int) true w u)) (Int.toNat (21 : Int)) (bitsW (7 : Int) true w u)) (Int.toNat (22 : Int)) (bitsW (8 : Int) true false u)) (Int.toNat (23 : Int)) (bitsW (9 : Int) true false u)) (Int.toNat (24 : Int)) (bitsW (10 : Int) true false u)) (Int.toNat (25 : Int)) (bitsW (11 : Int) true false u)) (Int.toNat (26 : Int)) (bitsW (12 : Int) true false u)) (Int.toNat (27 : Int)) (bitsW (13 : Int) true false u) = mapI (mapT w u) l (0 : Nat)) ∧ ((List.length (mapT w u) = (384 : Nat) ∧ List.length l ≤ (1000000 : Nat)) ∧ l = l ∧ (0 : Int) = (↑(0 : Nat) : Int) ∧ List.set (List.set (List.set (List.set (List.set (List.set (List.set (List.set (List.set (List.set (List.set (List.set (List.set (List.set (List.replicate (Int.toNat (384 : Int)) (RT.dflt RT.u32)) (Int.toNat (0 : Int)) (bitsW (1 : Int) true true true)) (Int.toNat (8 : Int)) (bitsW (1 : Int) true true true)) (Int.toNat (16 : Int)) (bitsW (2 : Int) true w u)) (Int.toNat (17 : Int)) (bitsW (3 : Int) true w u)) (Int.toNat (18 : Int)) (bitsW (4 : Int) true w u)) (Int.toNat (19 : Int)) (bitsW (5 : Int) true w u)) (Int.toNat (20 : Int)) (bitsW (6 : Int) true w u)) (Int.toNat (21 : Int)) (bitsW (7 : Int) true w u)) (Int.toNat (22 : Int)) (bitsW (8 : Int) true false u)) (Int.toNat (23 : Int)) (bitsW (9 : Int) true false u)) (Int.toNat (24 : Int)) (bitsW (10 : Int) true false u)) (Int.toNat (25 : Int)) (bitsW (11 : Int) true false u)) (Int.toNat (26 : Int)) (bitsW (12 : Int) true false u)) (Int.toNat (27 : Int)) (bitsW (13 : Int) true false u) = mapI (mapT w u) l (0 : Nat) → mapI (mapT w u) l (min (List.length l) (352 : Nat)) = mapL l w u))))))))))))))))) := by kernel_rfl
set_option maxHeartbeats 4000000 in
theorem gmapped (l : List Int) (w u : Bool)  (hv : l.length ≤ 1000000) : Box (Tr.sat (newQ (env gl [(33, krBits)]) (.own 0) ([(0, .recs .u32 (mapL l w u))]) 1) (run (env gl [(33, krBits)]) [(16, Lmapped' (mapT w u) l)] (bodyOf Tryd.f12) (start [.ro .u32 l, .bool (.sym w), .bool (.sym u)] 86) (ends (env gl [(33, krBits)]) Tryd.f12.results.toList))) := by
  refine .of (runmapped gl l w u) ?_
  simp only [List.length_set, List.length_replicate]
  repeat (refine ⟨by decide, fun _ => ?_⟩)
  have hT : (mapT w u).length = 384 := mapT_len w u
  refine ⟨⟨⟨hT, hv⟩, by trivial, by trivial, ?_⟩, fun _ => by trivial⟩
  rw [map_zero]
  cases w <;> cases u <;> decide +kernel
set_option maxHeartbeats 4000000 in
theorem cmapped : Con ea has gl 12 kmapped := by
  refine new_mkB Tryd.func12 86 (con := [(33, krBits)]) ⟨crBits, trivial⟩ (fun hA hr hv => ?_) (by kernel_rfl) (by kernel_rfl) Tryd.ntmps12
  unfold kmapped at hr; split at hr
  · rename_i l w u
    have := ret_ok hr; subst this
    replace hv := hv _ rfl
    exact ⟨_, [(16, Lmapped' (mapT w.val u.val) l)], _, _, _, ⟨rfl, rfl, rfl⟩, .of (argmapped l w u) (by simp), rfl, rfl, (fun W R ρ0 own0 hown => hl3 (b1 := loopN (bodyOf Tryd.f12) 0) (b2 := loopN (bodyOf Tryd.f12) 1) (by kernel_rfl) (by kernel_rfl) (by kernel_rfl) (by kernel_rfl) (lmapped' (mapT w.val u.val) l hown)), gmapped l w.val u.val  hv⟩
  · cases hr
abbrev kmappedF := frz [.ro .u32, .any, .any] kmapped
theorem cmappedF : Con ea has gl 12 kmappedF := frz_ok cmapped _
abbrev kmPageB := bor [.box [.ro .u32], .any, .any] kmPage
theorem cmPageB : Con ea has gl 26 kmPageB := bor_ok cmPage _
def cpu0 : Cpu := ⟨List.replicate 16 0, 0, false, false, 0, 0, 0, 0⟩
def kfirst : List SVal → Nat → Acc ORes := fun a n => match a with | [] => .ret ({ v := .bool (.lit true) }) | _ => .fail "first"
theorem argfirst  : (all (subL tAtN none' [] deep [] [])) = (
  True) := by kernel_rfl
theorem runfirst (gl : List (Nat × SVal)) : (Tr.sat (plainQ (.bool (.lit true))) (run (env gl [(12, kmappedF), (11, kmemoryF), (18, kOnce), (26, kmPageB)]) [] (bodyOf Tryd.f9) (start [] 42) (ends (env gl [(12, kmappedF), (11, kmemoryF), (18, kOnce), (26, kmPageB)]) Tryd.f9.results.toList))) = (
  List.length [(16777216 : Int)] ≤ (1000000 : Nat) ∧ (List.length [(16777216 : Int)] ≤ (1000000 : Nat) → List.length (mapL [(16777216 : Int)] true true) ≤ (384 : Nat) ∧ (List.length (mapL [(16777216 : Int)] true true) ≤ (384 : Nat) → Bool.rec false (decide ((onceC (memL (mapL [(16777216 : Int)] true true)) (0 : Int) (Cpu.mk (List.replicate (16 : Nat) (0 : RT.ty RT.u32)) (0 : Int) false false (0 : Int) (0 : Int) (0 : Int) (0 : Int)) false).pc = (1 : Int))) (pgOk (onceL (memL (mapL [(16777216 : Int)] true true)) (0 : Int) (Cpu.mk (List.replicate (16 : Nat) (0 : RT.ty RT.u32)) (0 : Int) false false (0 : Int) (0 : Int) (0 : Int) (0 : Int)) false) (0 : Int) (0 : Int) && decide ((onceS (memL (mapL [(16777216 : Int)] true true)) (0 : Int) (Cpu.mk (List.replicate (16 : Nat) (0 : RT.ty RT.u32)) (0 : Int) false false (0 : Int) (0 : Int) (0 : Int) (0 : Int)) false).cause = (0 : Int)) && decide ((onceS (memL (mapL [(16777216 : Int)] true true)) (0 : Int) (Cpu.mk (List.replicate (16 : Nat) (0 : RT.ty RT.u32)) (0 : Int) false false (0 : Int) (0 : Int) (0 : Int) (0 : Int)) false).len = (1 : Int))) = true))) := by kernel_rfl
set_option maxHeartbeats 4000000 in
theorem cfirst : Con ea has gl 9 kfirst := by
  refine plain_mkB Tryd.func9 42 (con := [(12, kmappedF), (11, kmemoryF), (18, kOnce), (26, kmPageB)]) ⟨cmappedF, cmemoryF, cOnce, cmPageB, trivial⟩ (fun hA hr hv => ?_) (by kernel_rfl) (by kernel_rfl) Tryd.ntmps9
  unfold kfirst at hr; split at hr
  · skip
    have := ret_ok hr; subst this
    refine ⟨_, [], rfl, rfl, .of (argfirst ) (by simp), rfl, (fun W R ρ0 own0 hown => noSums (by kernel_rfl)), .of (runfirst gl ) ?_⟩
    clear hr
    refine ⟨by decide, fun _ => ⟨by decide +kernel, fun _ => ?_⟩⟩
    simp only [onceC_def, onceS_def, onceL_def, plainC_def, plainS_def, plainL_def, fetchS_def]
    decide +kernel
  · cases hr
end
end Go.Proofs.YtfbagpbncfapbaaDoor

