/- Contracts that the proofs use. -/
import Derived.Test.YtpjccdncokamlaaDoorQFnLit
import Derived.Test.YtpjccdncokamlaaDoorQBareT
import Derived.Test.YtpjccdncokamlaaDoorQBareL
set_option linter.unusedVariables false
set_option linter.unusedSimpArgs false
namespace Go.Proofs.YtpjccdncokamlaaDoor
open Go.RowKit Go.Sy Go.Fac
section
variable {ea : Ear} {has : Int → Prop} {gl : List (Nat × SVal)}
theorem iter_ok {B : Mc} {n k : Nat} (h : McI n B) (hl : few B.l) (hn : n + k ≤ 1000000) : mcOk (iterM true B k) ∧ few (iterM true B k).l := by
  have g := McI.iter (p := true) h k
  refine ⟨⟨?_, ?_, ?_, g.upd⟩, ?_⟩
  · have := g.keys; unfold few; omega
  · have := g.seen; unfold few; omega
  · have := g.w; unfold few; omega
  · unfold few; rw [iterM_len]; exact hl
theorem mc_eqX {a b : Mc} {P : Prop} (h : a = b) (hp : P) : a.c.r = b.c.r ∧ a.c.pc = b.c.pc ∧ a.c.ie = b.c.ie ∧ a.c.eie = b.c.eie ∧ a.c.epc = b.c.epc ∧ a.c.tv = b.c.tv ∧ a.c.cause = b.c.cause ∧ a.c.addr = b.c.addr ∧ a.quota = b.quota ∧ a.now = b.now ∧ a.over = b.over ∧
    a.d.sec = b.d.sec ∧ a.d.on = b.d.on ∧ a.d.at_ = b.d.at_ ∧ a.l = b.l ∧ a.w = b.w ∧ a.d.keys = b.d.keys ∧ a.d.seen = b.d.seen ∧ P := by
  subst h; exact ⟨rfl, rfl, rfl, rfl, rfl, rfl, rfl, rfl, rfl, rfl, rfl, rfl, rfl, rfl, rfl, rfl, rfl, rfl, hp⟩
theorem mc_eqO {a : Mc} {P : Prop} (h : a.over = true) (hp : P) : a.c.r = a.c.r ∧ a.c.pc = a.c.pc ∧ a.c.ie = a.c.ie ∧ a.c.eie = a.c.eie ∧ a.c.epc = a.c.epc ∧ a.c.tv = a.c.tv ∧ a.c.cause = a.c.cause ∧ a.c.addr = a.c.addr ∧ a.quota = a.quota ∧ a.now = a.now ∧ a.over = true ∧
    a.d.sec = a.d.sec ∧ a.d.on = a.d.on ∧ a.d.at_ = a.d.at_ ∧ a.l = a.l ∧ a.w = a.w ∧ a.d.keys = a.d.keys ∧ a.d.seen = a.d.seen ∧ P :=
  ⟨rfl, rfl, rfl, rfl, rfl, rfl, rfl, rfl, rfl, rfl, h, rfl, rfl, rfl, rfl, rfl, rfl, rfl, hp⟩
theorem mc_eqR {a : Mc} {P : Prop} (hp : P) : a.c.r = a.c.r ∧ a.c.pc = a.c.pc ∧ a.c.ie = a.c.ie ∧ a.c.eie = a.c.eie ∧ a.c.epc = a.c.epc ∧ a.c.tv = a.c.tv ∧ a.c.cause = a.c.cause ∧ a.c.addr = a.c.addr ∧ a.quota = a.quota ∧ a.now = a.now ∧ true = true ∧
    a.d.sec = a.d.sec ∧ a.d.on = a.d.on ∧ a.d.at_ = a.d.at_ ∧ a.l = a.l ∧ a.w = a.w ∧ a.d.keys = a.d.keys ∧ a.d.seen = a.d.seen ∧ P :=
  ⟨rfl, rfl, rfl, rfl, rfl, rfl, rfl, rfl, rfl, rfl, rfl, rfl, rfl, rfl, rfl, rfl, rfl, rfl, hp⟩
theorem bare0_ok (code : List Int) (c : Cpu) : McI 0 (bare0 code c) ∧ few (bare0 code c).l := by
  refine ⟨⟨Nat.le_refl _, Nat.zero_le _, Nat.zero_le _, ?_⟩, ?_⟩
  · show updOk []; unfold updOk; simp
  · show few (mem8 24 [] code); unfold few; rw [mem8_len]; decide
theorem mem8_few (code : List Int) : few (mem8 24 [] code) := by unfold few; rw [mem8_len]; decide
theorem q24 : (17 : Int) ≤ 24 ∧ (24 : Int) ≤ 256 := by decide
theorem mc_off {b : Mc} (h : b.over = false) : (⟨b.l, b.c, b.d, b.quota, b.now, false, b.w⟩ : Mc) = b := by
  cases b; simp only at h; subst h; rfl
theorem mc_eqF {b : Mc} (h : b.over = false) : b.c.r = b.c.r ∧ b.c.pc = b.c.pc ∧ b.c.ie = b.c.ie ∧ b.c.eie = b.c.eie ∧ b.c.epc = b.c.epc ∧ b.c.tv = b.c.tv ∧ b.c.cause = b.c.cause ∧ b.c.addr = b.c.addr ∧ b.quota = b.quota ∧ b.now = b.now ∧ b.over = false ∧
    b.d.sec = b.d.sec ∧ b.d.on = b.d.on ∧ b.d.at_ = b.d.at_ ∧ b.l = b.l ∧ b.w = b.w ∧ b.d.keys = b.d.keys ∧ b.d.seen = b.d.seen :=
  ⟨rfl, rfl, rfl, rfl, rfl, rfl, rfl, rfl, rfl, rfl, h, rfl, rfl, rfl, rfl, rfl, rfl, rfl⟩
theorem startH_ok (l : List Int) (key : Int) : McI 0 (startH l key) ∧ few (startH l key).l := by
  refine ⟨⟨Nat.le_refl _, Nat.succ_le_succ (Nat.zero_le _), Nat.zero_le _, ?_⟩, ?_⟩
  · show updOk []; unfold updOk; simp
  · show few (mem8 24 [] (codeH l)); unfold few; rw [mem8_len]; decide
def Hshows1 (l : List Int) (key : Int) (i : Nat) : SState := { fr := [(0, .ro .u32 l), (1, .int .u32 (.full key)), (5, .bool (.lit true)), (6, .own 0), (7, .int .i64 (.sym i 0 20))], hp := [(0, some (.recs .u32 (outL l i)))], next := 1, sz := 198 }
def Xshows1 (l : List Int) (key : Int) : SState := { fr := [(0, .ro .u32 l), (1, .int .u32 (.full key)), (5, .bool (.lit true)), (6, .own 0)], hp := [(0, some (.recs .u32 (outL l l.length)))], next := 1, sz := 198 }
def Lshows1 (l : List Int) (key : Int) : LSum := ⟨Hshows1 l key 0, fun k => k (.exit 0) (Xshows1 l key), l.length ≤ 20⟩
theorem bshows1 (gl : List (Nat × SVal)) (l : List Int) (key : Int) (i : Nat) : (Tr.sat (rnd1 (env gl [(9, kfirst8), (11, kmemA), (12, kbNewAB), (21, kbPress), (14, kbStepQ), (13, kbOverQ), (15, kbSeen), (22, kbNow)]) (fun _ => True) (l.length) (Hshows1 l key) 0 (Xshows1 l key) i) (run (env gl [(9, kfirst8), (11, kmemA), (12, kbNewAB), (21, kbPress), (14, kbStepQ), (13, kbOverQ), (15, kbSeen), (22, kbNow)]) [] (loopN (bodyOf Tryd.f7) 0) (Hshows1 l key i) .leaf)) = (
  (decide ((↑i : Int) < (↑(List.length l) : Int)) = true → ((0 : Int) ≤ (↑i : Int) ∧ (↑i : Int) < (↑(List.length l) : Int)) ∧ ((0 : Int) ≤ (↑i : Int) ∧ (↑i : Int) < (↑(List.length l) : Int) → List.length (outL l i) + List.length [(234946560 : Int), List.getD l (Int.toNat (↑i : Int)) (RT.dflt RT.u32), (587268096 : Int)] ≤ (137438953472 : Nat) ∧ (List.length (outL l i) + List.length [(234946560 : Int), List.getD l (Int.toNat (↑i : Int)) (RT.dflt RT.u32), (587268096 : Int)] ≤ (137438953472 : Nat) → i < List.length l ∧ True ∧ l = l ∧ key = key ∧ true = true ∧ (↑i : Int) + (1 : Int) = (↑(i + (1 : Nat)) : Int) ∧ ((0 : Int) ≤ (↑(i + (1 : Nat)) : Int) ∧ (↑(i + (1 : Nat)) : Int) ≤ (20 : Int)) ∧ outL l i ++ [(234946560 : Int), List.getD l (Int.toNat (↑i : Int)) (RT.dflt RT.u32), (587268096 : Int)] = outL l (i + (1 : Nat))))) ∧ (decide ((↑i : Int) < (↑(List.length l) : Int)) = false → Nat.beq (0 : Nat) (0 : Nat) = true ∧ l = l ∧ key = key ∧ true = true ∧ outL l i = outL l (List.length l))) := by kernel_rfl
set_option maxHeartbeats 4000000 in
theorem lshows1 (l : List Int) (key : Int) {W : World} {R own0 : Nat → Prop} {ρ0 : Nat → Option Value} (hown : HownOk (env gl [(9, kfirst8), (11, kmemA), (12, kbNewAB), (21, kbPress), (14, kbStepQ), (13, kbOverQ), (15, kbSeen), (22, kbNow)]) own0 ρ0) : LOk Tryd.prog (env gl [(9, kfirst8), (11, kmemA), (12, kbNewAB), (21, kbPress), (14, kbStepQ), (13, kbOverQ), (15, kbSeen), (22, kbNow)]) (ctx ea has) gl W R own0 ρ0 (loopN (bodyOf Tryd.f7) 0) (Lshows1 l key) := by
  refine loop1_ok (J := fun _ => True) (N := l.length) (H := Hshows1 l key) (X := Xshows1 l key) (env_ok (con := [(9, kfirst8), (11, kmemA), (12, kbNewAB), (21, kbPress), (14, kbStepQ), (13, kbOverQ), (15, kbSeen), (22, kbNow)]) ⟨cfirst8, cmemA, cbNewAB, cbPress, cbStepQ, cbOverQ, cbSeen, cbNow, trivial⟩) hown (ls := fun i => []) (fun i => noSums (by kernel_rfl)) (fun hm i hi hj => ?_) 0 (fun hm => by first | exact Nat.zero_le _ | omega) (fun hm => trivial)
  rw [bshows1 gl l key i]
  refine ⟨fun h => ?_, fun h => ⟨rfl, ?_⟩⟩
  · have h := of_decide_eq_true h
    exact ⟨⟨by omega, by omega⟩, fun _ => ⟨by rw [outL_len]; simp only [List.length_cons, List.length_nil]; omega, fun _ => ⟨by omega, trivial, rfl, rfl, rfl, by omega, ⟨by omega, by omega⟩, rfl⟩⟩⟩
  · have h := of_decide_eq_false h
    have : i = l.length := by omega
    subst this
    exact ⟨rfl, rfl, rfl, rfl⟩
def endH (l : List Int) (key : Int) : Mc := hide (iterM true (startH l key) (2 * l.length + 8))
theorem endH_def (l : List Int) (key : Int) : endH l key = iterM true (startH l key) (2 * l.length + 8) := hide_eq _
def Hshows2 (l : List Int) (key : Int) (i : Nat) : SState := { fr := [(0, .ro .u32 l), (1, .int .u32 (.full key)), (5, .bool (.lit true)), (10, .ptr 0 0), (12, .int .i64 (.full (2 * (l.length : Int) + 8))), (13, .int .i64 (.sym i 0 48))], hp := mHpO (iterM true (startH l key) i), next := 7, sz := 198 }
def Xshows2 (l : List Int) (key : Int) : SState := { fr := [(0, .ro .u32 l), (1, .int .u32 (.full key)), (5, .bool (.lit true)), (10, .ptr 0 0), (12, .int .i64 (.full (2 * (l.length : Int) + 8)))], hp := mHpO (endH l key), next := 7, sz := 198 }
def Lshows2 (l : List Int) (key : Int) : LSum := ⟨Hshows2 l key 0, fun k => k (.exit 2) (Xshows2 l key), l.length ≤ 20⟩
theorem bshows2 (gl : List (Nat × SVal)) (l : List Int) (key : Int) (i : Nat) : (Tr.sat (rnd1 (env gl [(9, kfirst8), (11, kmemA), (12, kbNewAB), (21, kbPress), (14, kbStepQ), (13, kbOverQ), (15, kbSeen), (22, kbNow)]) (fun _ => True) (2 * l.length + 8) (Hshows2 l key) 2 (Xshows2 l key) i) (run (env gl [(9, kfirst8), (11, kmemA), (12, kbNewAB), (21, kbPress), (14, kbStepQ), (13, kbOverQ), (15, kbSeen), (22, kbNow)]) [] (loopN (bodyOf Tryd.f7) 1) (Hshows2 l key i) .leaf)) = (
  (decide ((↑i : Int) < (2 : Int) * (↑(List.length l) : Int) + (8 : Int)) = true → notOver (iterM true (startH l key) i) ∧ (notOver (iterM true (startH l key) i) → (mcOk (iterM true (startH l key) i) ∧ few (iterM true (startH l key) i).l) ∧ (mcOk (iterM true (startH l key) i) ∧ few (iterM true (startH l key) i).l → ((!!(iterM true (startH l key) i).over) = true → False) ∧ ((!!(iterM true (startH l key) i).over) = false → i < (2 : Nat) * List.length l + (8 : Nat) ∧ True ∧ l = l ∧ key = key ∧ true = true ∧ (2 : Int) * (↑(List.length l) : Int) + (8 : Int) = (2 : Int) * (↑(List.length l) : Int) + (8 : Int) ∧ (↑i : Int) + (1 : Int) = (↑(i + (1 : Nat)) : Int) ∧ ((0 : Int) ≤ (↑(i + (1 : Nat)) : Int) ∧ (↑(i + (1 : Nat)) : Int) ≤ (48 : Int)) ∧ (stepM true (iterM true (startH l key) i)).c.r = (iterM true (startH l key) (i + (1 : Nat))).c.r ∧ (stepM true (iterM true (startH l key) i)).c.pc = (iterM true (startH l key) (i + (1 : Nat))).c.pc ∧ (stepM true (iterM true (startH l key) i)).c.ie = (iterM true (startH l key) (i + (1 : Nat))).c.ie ∧ (stepM true (iterM true (startH l key) i)).c.eie = (iterM true (startH l key) (i + (1 : Nat))).c.eie ∧ (stepM true (iterM true (startH l key) i)).c.epc = (iterM true (startH l key) (i + (1 : Nat))).c.epc ∧ (stepM true (iterM true (startH l key) i)).c.tv = (iterM true (startH l key) (i + (1 : Nat))).c.tv ∧ (stepM true (iterM true (startH l key) i)).c.cause = (iterM true (startH l key) (i + (1 : Nat))).c.cause ∧ (stepM true (iterM true (startH l key) i)).c.addr = (iterM true (startH l key) (i + (1 : Nat))).c.addr ∧ (stepM true (iterM true (startH l key) i)).quota = (iterM true (startH l key) (i + (1 : Nat))).quota ∧ (stepM true (iterM true (startH l key) i)).now = (iterM true (startH l key) (i + (1 : Nat))).now ∧ (stepM true (iterM true (startH l key) i)).over = (iterM true (startH l key) (i + (1 : Nat))).over ∧ (stepM true (iterM true (startH l key) i)).d.sec = (iterM true (startH l key) (i + (1 : Nat))).d.sec ∧ (stepM true (iterM true (startH l key) i)).d.on = (iterM true (startH l key) (i + (1 : Nat))).d.on ∧ (stepM true (iterM true (startH l key) i)).d.at_ = (iterM true (startH l key) (i + (1 : Nat))).d.at_ ∧ (stepM true (iterM true (startH l key) i)).l = (iterM true (startH l key) (i + (1 : Nat))).l ∧ (stepM true (iterM true (startH l key) i)).w = (iterM true (startH l key) (i + (1 : Nat))).w ∧ (stepM true (iterM true (startH l key) i)).d.keys = (iterM true (startH l key) (i + (1 : Nat))).d.keys ∧ (stepM true (iterM true (startH l key) i)).d.seen = (iterM true (startH l key) (i + (1 : Nat))).d.seen)))) ∧ (decide ((↑i : Int) < (2 : Int) * (↑(List.length l) : Int) + (8 : Int)) = false → Nat.beq (2 : Nat) (2 : Nat) = true ∧ l = l ∧ key = key ∧ true = true ∧ (2 : Int) * (↑(List.length l) : Int) + (8 : Int) = (2 : Int) * (↑(List.length l) : Int) + (8 : Int) ∧ (iterM true (startH l key) i).c.r = (endH l key).c.r ∧ (iterM true (startH l key) i).c.pc = (endH l key).c.pc ∧ (iterM true (startH l key) i).c.ie = (endH l key).c.ie ∧ (iterM true (startH l key) i).c.eie = (endH l key).c.eie ∧ (iterM true (startH l key) i).c.epc = (endH l key).c.epc ∧ (iterM true (startH l key) i).c.tv = (endH l key).c.tv ∧ (iterM true (startH l key) i).c.cause = (endH l key).c.cause ∧ (iterM true (startH l key) i).c.addr = (endH l key).c.addr ∧ (iterM true (startH l key) i).quota = (endH l key).quota ∧ (iterM true (startH l key) i).now = (endH l key).now ∧ (iterM true (startH l key) i).over = (endH l key).over ∧ (iterM true (startH l key) i).d.sec = (endH l key).d.sec ∧ (iterM true (startH l key) i).d.on = (endH l key).d.on ∧ (iterM true (startH l key) i).d.at_ = (endH l key).d.at_ ∧ (iterM true (startH l key) i).l = (endH l key).l ∧ (iterM true (startH l key) i).w = (endH l key).w ∧ (iterM true (startH l key) i).d.keys = (endH l key).d.keys ∧ (iterM true (startH l key) i).d.seen = (endH l key).d.seen)) := by kernel_rfl
set_option maxHeartbeats 4000000 in
theorem lshows2 (l : List Int) (key : Int) {W : World} {R own0 : Nat → Prop} {ρ0 : Nat → Option Value} (hown : HownOk (env gl [(9, kfirst8), (11, kmemA), (12, kbNewAB), (21, kbPress), (14, kbStepQ), (13, kbOverQ), (15, kbSeen), (22, kbNow)]) own0 ρ0) : LOk Tryd.prog (env gl [(9, kfirst8), (11, kmemA), (12, kbNewAB), (21, kbPress), (14, kbStepQ), (13, kbOverQ), (15, kbSeen), (22, kbNow)]) (ctx ea has) gl W R own0 ρ0 (loopN (bodyOf Tryd.f7) 1) (Lshows2 l key) := by
  refine loop1_ok (J := fun _ => True) (N := 2 * l.length + 8) (H := Hshows2 l key) (X := Xshows2 l key) (env_ok (con := [(9, kfirst8), (11, kmemA), (12, kbNewAB), (21, kbPress), (14, kbStepQ), (13, kbOverQ), (15, kbSeen), (22, kbNow)]) ⟨cfirst8, cmemA, cbNewAB, cbPress, cbStepQ, cbOverQ, cbSeen, cbNow, trivial⟩) hown (ls := fun i => []) (fun i => noSums (by kernel_rfl)) (fun hm i hi hj => ?_) 0 (fun hm => by first | exact Nat.zero_le _ | omega) (fun hm => trivial)
  rw [bshows2 gl l key i]
  have L := shows_law (key := key) hm
  have O := iter_ok (k := i) (startH_ok l key).1 (startH_ok l key).2 (by omega)
  refine ⟨fun h => ?_, fun h => ?_⟩
  · have h := of_decide_eq_true h
    have o := L.1 i (by omega)
    refine ⟨o, fun _ => ⟨O, fun _ => ⟨fun g => ?_, fun _ => ⟨by omega, trivial, rfl, rfl, rfl, rfl, by omega, ⟨by omega, by omega⟩, mc_eq (a := stepM true (iterM true (startH l key) i)) rfl⟩⟩⟩⟩
    have g : (!!(iterM true (startH l key) i).over) = true := g
    rw [o] at g; cases g
  · have h := of_decide_eq_false h
    have : i = 2 * l.length + 8 := by omega
    subst this
    exact ⟨rfl, rfl, rfl, rfl, rfl, mc_eq (endH_def l key).symm⟩
end
end Go.Proofs.YtpjccdncokamlaaDoor

