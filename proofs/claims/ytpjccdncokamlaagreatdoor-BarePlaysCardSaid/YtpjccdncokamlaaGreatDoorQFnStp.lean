/- Contracts. -/
import Derived.Test.YtpjccdncokamlaaGreatDoorQFnBare
import Derived.Test.YtpjccdncokamlaaGreatDoorQSyDfr
import Derived.Test.YtpjccdncokamlaaGreatDoorQBareP
set_option linter.unusedVariables false
set_option linter.unusedSimpArgs false
namespace Go.Proofs.YtpjccdncokamlaaGreatDoor
open Go.RowKit Go.Sy Go.Fac
section
variable {ea : Ear} {has : Int → Prop} {gl : List (Nat × SVal)}
abbrev stepCons : List (Nat × (List SVal → Nat → Acc ORes)) := [(31, kmWaits), (32, kmRang), (33, kbEnter), (34, kOnce), (35, kbdo)]
def stA (b : Mc) : SState := { fr := [(1, .ptr 7 0), (2, .bool (.lit false))], hp := mHpO b ++ [(7, some (.cells [.ptr 0 0]))], next := 8, sz := 72 }
def stR (b : Mc) : SState := { fr := [(2, .bool (.lit false))], hp := mHpO b, next := 7, sz := 72 }
def stB (b : Mc) : SState := { fr := [(1, .ptr 7 0), (2, .bool (.lit true))], hp := mHpO b ++ [(7, some (.cells [.ptr 0 0]))], next := 8, sz := 72 }
def stE (b : Mc) : SState := { fr := [], hp := mHpO b, next := 7, sz := 8 }
def tickM (b : Mc) : Mc := { b with now := IntKind.i64.wrap (b.now + 1) }
theorem stp0 (gl : List (Nat × SVal)) (b : Mc) : (Tr.sat (goesTo (envK gl stepCons 4) (stA b)) (run (envK gl stepCons 4) [] (sA (bodyOf Tryz.f12)) (S1 [.ptr 0 0] (mHpO b) 7 72) leafK)) = (
  false = false ∧ EqM b b) := by kernel_rfl
theorem stp1 (gl : List (Nat × SVal)) (b : Mc) : (Tr.sat (goesOr (envK gl stepCons 4) (b.over = false) (stA b) (b.over = true) (stR b)) (run (envK gl stepCons 4) [] (sA (sB (bodyOf Tryz.f12))) (stA b) leafK)) = (
  IT b.over (b.over = true ∧ false = false ∧ EqM b b) (b.over = false ∧ false = false ∧ EqM b b)) := by kernel_rfl
theorem stp2 (gl : List (Nat × SVal)) (b : Mc) (df : List Deferred) (pM pX : Prop) (bI bB : Mc) : (Tr.sat (goesOr (wDf (envK gl stepCons 4) df 7) pM (stA bI) pX (stB bB)) (run (wDf (envK gl stepCons 4) df 7) [] (sA (sB (sB (sB (bodyOf Tryz.f12))))) (stA b) leafK)) = (
  IT (!decide (waitsW b.c b.d b.now false = 0)) (IT (decide (waitsW b.c b.d b.now false = 2)) (RQ (mcOk (Mc.mk b.l b.c (dRang true b.d) b.quota b.now b.over b.w)) (IT (!enterB b.c) (pX ∧ true = true ∧ EqM (enterM (Mc.mk b.l b.c (dRang true b.d) b.quota b.now b.over b.w) (waitsW b.c b.d b.now false) (0 : Int)) bB) (pM ∧ false = false ∧ EqM (enterM (Mc.mk b.l b.c (dRang true b.d) b.quota b.now b.over b.w) (waitsW b.c b.d b.now false) (0 : Int)) bI))) (RQ (mcOk b) (IT (!enterB b.c) (pX ∧ true = true ∧ EqM (enterM b (waitsW b.c b.d b.now false) (0 : Int)) bB) (pM ∧ false = false ∧ EqM (enterM b (waitsW b.c b.d b.now false) (0 : Int)) bI)))) (pM ∧ false = false ∧ EqM b bI)) := by kernel_rfl
theorem stp4 (gl : List (Nat × SVal)) (b : Mc) (df : List Deferred) (bB : Mc) : (Tr.sat (endsAt (wDf (envK gl stepCons 4) df 7) (stB bB)) (run (wDf (envK gl stepCons 4) df 7) [] (sB (sB (sB (sB (bodyOf Tryz.f12))))) (stA b) leafK)) = (
  IT (decide ((onceS b.l (0 : Int) b.c false).cause = 0)) (true = true ∧ EgM (onceC b.l (0 : Int) b.c false) b.d (onceL b.l (0 : Int) b.c false) b.quota b.now b.over b.w bB) (IT (decide ((onceS b.l (0 : Int) b.c false).cause = 6)) (RQ (In5.ok (onceS b.l (0 : Int) b.c false).i = true ∧ mcOk (Mc.mk (onceL b.l (0 : Int) b.c false) b.c b.d b.quota b.now b.over b.w) ∧ few (onceL b.l (0 : Int) b.c false)) (true = true ∧ EqM (supM true (Mc.mk (onceL b.l (0 : Int) b.c false) b.c b.d b.quota b.now b.over b.w) (onceS b.l (0 : Int) b.c false)) bB)) (IT (decide ((onceS b.l (0 : Int) b.c false).cause = 7)) (RQ (mcOk (Mc.mk (onceL b.l (0 : Int) b.c false) b.c b.d b.quota b.now b.over b.w)) (true = true ∧ EqM (enterM (Mc.mk (onceL b.l (0 : Int) b.c false) b.c b.d b.quota b.now b.over b.w) (4 : Int) (0 : Int)) bB)) (RQ (mcOk (Mc.mk (onceL b.l (0 : Int) b.c false) b.c b.d b.quota b.now b.over b.w)) (true = true ∧ EqM (enterM (Mc.mk (onceL b.l (0 : Int) b.c false) b.c b.d b.quota b.now b.over b.w) (onceS b.l (0 : Int) b.c false).cause (onceS b.l (0 : Int) b.c false).addr) bB))))) := by kernel_rfl
theorem stp3 (gl : List (Nat × SVal)) (b bE : Mc) : (Tr.sat (endsAt (envK gl stepCons 4) (stE bE)) (run (envK gl stepCons 4) [] (bodyOf Tryz.f30) { fr := [(0, .ptr 7 0)], hp := (stB b).hp, next := (stB b).next, sz := 8 } leafK)) = (
  EgM b.c b.d b.l b.quota (IntKind.wrap IntKind.i64 (b.now + 1)) b.over b.w bE) := by kernel_rfl
theorem stpR (gl : List (Nat × SVal)) (b b' : Mc) (o : Bool) : (newQ (envK gl stepCons 4) (.bool (.sym o)) (mHp b') 7 .ret { fr := [(0, .bool (.lit false))], hp := (stR b).hp, next := (stR b).next, sz := 1 }) = (
  false = o ∧ EqM b b') := by kernel_rfl
theorem stpE (gl : List (Nat × SVal)) (b b' : Mc) (o : Bool) : (newQ (envK gl stepCons 4) (.bool (.sym o)) (mHp b') 7 .ret { fr := [(0, .bool (.lit true))], hp := (stE b).hp, next := (stE b).next, sz := 1 }) = (
  true = o ∧ EqM b b') := by kernel_rfl
theorem onceL_few {l : List Int} {root : Int} {c : Cpu} {us : Bool} (h : few l) : few (onceL l root c us) := by
  unfold few; rw [onceL_def]; split
  · rw [plainL_def]; split
    · rw [wr_len]; exact h
    · exact h
  · exact h
theorem fetch_cause (l : List Int) (root pc : Int) (us : Bool) : (fetchS l root pc us).cause = 0 ∨ (fetchS l root pc us).cause = 1 ∨ (fetchS l root pc us).cause = 4 := by
  rw [fetchS_def]; repeat' split
  all_goals simp
theorem onceS_i (l : List Int) (root : Int) (c : Cpu) (us : Bool) : (onceS l root c us).i = (fetchS l root c.pc us).i := by
  rw [onceS_def]; simp only
  repeat' split
  · rfl
  · rw [plainS_def]; split <;> rfl
  all_goals rfl
theorem once_ok {l : List Int} {root : Int} {c : Cpu} {us : Bool} (h : (onceS l root c us).cause = 6) : In5.ok (onceS l root c us).i = true := by
  rw [onceS_i]
  rcases fetch_cause l root c.pc us with e | e
  · exact fetch_ok e
  · exfalso
    have k : onceK (fetchS l root c.pc us) = 0 := by unfold onceK; rw [if_pos (by omega)]
    rw [onceS_def] at h
    simp only [k, if_pos] at h
    omega
theorem enter_over (b : Mc) (k a : Int) (h : b.over = false) : (enterM b k a).over = !enterB b.c := by
  rw [enterM_def]; unfold enterM0
  cases e : enterB b.c <;> simp [h]
theorem intr_0 {b : Mc} (h : waitsW b.c b.d b.now false = 0) : intrM true b = b := by rw [intrM_def]; unfold intrM0; simp only [h, if_pos]
theorem intr_2 {b : Mc} (h : waitsW b.c b.d b.now false = 2) : intrM true b = enterM { b with d := dRang true b.d } 2 0 := by
  rw [intrM_def]; unfold intrM0; simp only [h]; rfl
theorem intr_n {b : Mc} (h : waitsW b.c b.d b.now false ≠ 0) (h2 : waitsW b.c b.d b.now false ≠ 2) : intrM true b = enterM b (waitsW b.c b.d b.now false) 0 := by
  rw [intrM_def]; unfold intrM0; simp only [if_neg h, if_neg h2]
theorem stepN_over {b : Mc} (h : (intrM true b).over = true) : stepN true b = intrM true b := by rw [stepN_def]; unfold stepN0; rw [if_pos h]
theorem stepN_go {b : Mc} (h : (intrM true b).over = false) : stepN true b = goM true (intrM true b) := by rw [stepN_def]; unfold stepN0; rw [if_neg (by rw [h]; simp)]
set_option maxHeartbeats 400000 in
theorem t0 (b : Mc) : Tr.sat (goesTo (envK gl stepCons 4) (stA b)) (run (envK gl stepCons 4) [] (sA (bodyOf Tryz.f12)) (S1 [.ptr 0 0] (mHpO b) 7 72) leafK) ∧ True := by
  rw [stp0 gl b]
  refine ⟨?_, trivial⟩
  exact ⟨rfl, mc_eq rfl⟩
set_option maxHeartbeats 400000 in
theorem t1 (b : Mc) : Tr.sat (goesOr (envK gl stepCons 4) (b.over = false) (stA b) (b.over = true) (stR b)) (run (envK gl stepCons 4) [] (sA (sB (bodyOf Tryz.f12))) (stA b) leafK) ∧ True := by
  rw [stp1 gl b]
  refine ⟨?_, trivial⟩
  exact ⟨fun h => ⟨h, rfl, mc_eq rfl⟩, fun h => ⟨h, rfl, mc_eq rfl⟩⟩
set_option maxHeartbeats 400000 in
theorem t2 (b : Mc) (hv : mcOk b) (ho : b.over = false) (df : List Deferred) : Tr.sat (goesOr (wDf (envK gl stepCons 4) df 7) ((intrM true b).over = false) (stA (intrM true b)) True (stB (stepN true b))) (run (wDf (envK gl stepCons 4) df 7) [] (sA (sB (sB (sB (bodyOf Tryz.f12))))) (stA b) leafK) ∧ True := by
  rw [stp2 gl b df ((intrM true b).over = false) True (intrM true b) (stepN true b)]
  refine ⟨?_, trivial⟩
  refine ⟨fun h0 => ⟨fun h2 => ⟨hv, fun _ => ?_⟩, fun h2 => ⟨hv, fun _ => ?_⟩⟩, fun h0 => ?_⟩
  · have h2 := of_decide_eq_true h2
    have e := intr_2 h2
    have eo := enter_over { b with d := dRang true b.d } 2 0 ho
    rw [h2]
    refine ⟨fun hb => ?_, fun hb => ?_⟩
    · have e2 := stepN_over (b := b) (by rw [e, eo]; exact hb)
      exact ⟨trivial, rfl, mc_eq (a := enterM { b with d := dRang true b.d } 2 0) (by rw [e2, e])⟩
    · exact ⟨by rw [e, eo]; exact hb, rfl, mc_eq (a := enterM { b with d := dRang true b.d } 2 0) e.symm⟩
  · have h2 := of_decide_eq_false h2
    have h0 : waitsW b.c b.d b.now false ≠ 0 := by simpa using h0
    have e := intr_n h0 h2
    have eo := enter_over b (waitsW b.c b.d b.now false) 0 ho
    refine ⟨fun hb => ?_, fun hb => ?_⟩
    · have e2 := stepN_over (b := b) (by rw [e, eo]; exact hb)
      exact ⟨trivial, rfl, mc_eq (by rw [e2, e])⟩
    · exact ⟨by rw [e, eo]; exact hb, rfl, mc_eq e.symm⟩
  · have h0 : waitsW b.c b.d b.now false = 0 := by simpa using h0
    have e := intr_0 h0
    exact ⟨by rw [e]; exact ho, rfl, mc_eq e.symm⟩
set_option maxHeartbeats 400000 in
theorem t4 (b : Mc) (hv : mcOk b ∧ few b.l) (df : List Deferred) (bB : Mc) (hB : bB = goM true b) : Tr.sat (endsAt (wDf (envK gl stepCons 4) df 7) (stB bB)) (run (wDf (envK gl stepCons 4) df 7) [] (sB (sB (sB (sB (bodyOf Tryz.f12))))) (stA b) leafK) ∧ True := by
  subst hB
  rw [stp4 gl b df (goM true b)]
  refine ⟨?_, trivial⟩
  have hl : few (onceL b.l 0 b.c false) := onceL_few hv.2
  have hm : mcOk { b with l := onceL b.l 0 b.c false } := hv.1
  refine ⟨fun h => ⟨rfl, mc_eq (a := { b with l := onceL b.l 0 b.c false, c := onceC b.l 0 b.c false }) ?_⟩, fun h => ⟨fun h6 => ⟨⟨once_ok (of_decide_eq_true h6), hm, hl⟩, fun _ => ⟨rfl, mc_eq (a := supM true { b with l := onceL b.l 0 b.c false } (onceS b.l 0 b.c false)) ?_⟩⟩, fun h6 => ⟨fun h7 => ⟨hm, fun _ => ⟨rfl, mc_eq (a := enterM { b with l := onceL b.l 0 b.c false } 4 0) ?_⟩⟩, fun h7 => ⟨hm, fun _ => ⟨rfl, mc_eq (a := enterM { b with l := onceL b.l 0 b.c false } (onceS b.l 0 b.c false).cause (onceS b.l 0 b.c false).addr) ?_⟩⟩⟩⟩⟩
  · rw [goM_def]; unfold goM0; simp only [if_pos (of_decide_eq_true h)]
  · rw [goM_def]; unfold goM0; simp only [if_neg (of_decide_eq_false h), if_pos (of_decide_eq_true h6)]
  · rw [goM_def]; unfold goM0; simp only [if_neg (of_decide_eq_false h), if_neg (of_decide_eq_false h6), if_pos (of_decide_eq_true h7)]
  · rw [goM_def]; unfold goM0; simp only [if_neg (of_decide_eq_false h), if_neg (of_decide_eq_false h6), if_neg (of_decide_eq_false h7)]
set_option maxHeartbeats 400000 in
theorem t3 (b : Mc) : Tr.sat (endsAt (envK gl stepCons 4) (stE (tickM b))) (run (envK gl stepCons 4) [] (bodyOf Tryz.f30) { fr := [(0, .ptr 7 0)], hp := (stB b).hp, next := (stB b).next, sz := 8 } leafK) ∧ True := by
  rw [stp3 gl b (tickM b)]
  refine ⟨?_, trivial⟩
  exact mc_eq (a := tickM b) rfl
theorem tR (b : Mc) (ho : b.over = true) : newQ (envK gl stepCons 4) (.bool (.sym (!b.over))) (mHp (stepM true b)) 7 .ret { fr := [(0, .bool (.lit false))], hp := (stR b).hp, next := (stR b).next, sz := 1 } ∧ True := by
  rw [stpR gl b (stepM true b) (!b.over)]
  exact ⟨⟨by rw [ho]; rfl, mc_eq (by rw [stepM_def]; unfold stepM0; rw [if_pos ho])⟩, trivial⟩
theorem tE (b : Mc) (ho : b.over = false) : newQ (envK gl stepCons 4) (.bool (.sym (!b.over))) (mHp (stepM true b)) 7 .ret { fr := [(0, .bool (.lit true))], hp := (stE (tickM (stepN true b))).hp, next := (stE (tickM (stepN true b))).next, sz := 1 } ∧ True := by
  rw [stpE gl (tickM (stepN true b)) (stepM true b) (!b.over)]
  exact ⟨⟨by rw [ho]; rfl, mc_eq (stepM_N true ho).symm⟩, trivial⟩
theorem intr_ok {b : Mc} (hv : mcOk b ∧ few b.l) (ho : b.over = false) (hi : (intrM true b).over = false) : mcOk (intrM true b) ∧ few (intrM true b).l := by
  have key : ∀ (b : Mc) (k a : Int), mcOk b ∧ few b.l → b.over = false → (enterM b k a).over = false → mcOk (enterM b k a) ∧ few (enterM b k a).l := fun b k a hv ho hi => by
    rw [enter_over b k a ho] at hi
    rw [enterM_def]; unfold enterM0
    rw [if_pos (by simpa using hi)]
    exact hv
  by_cases h0 : waitsW b.c b.d b.now false = 0
  · rw [intr_0 h0]; exact hv
  · by_cases h2 : waitsW b.c b.d b.now false = 2
    · rw [intr_2 h2] at hi ⊢; exact key _ _ _ hv ho hi
    · rw [intr_n h0 h2] at hi ⊢; exact key _ _ _ hv ho hi
theorem stp_body : Tryz.f12.body = some (.seq (sA (bodyOf Tryz.f12)) (.seq (sA (sB (bodyOf Tryz.f12))) (.seq (sA (sB (sB (bodyOf Tryz.f12)))) (.seq (sA (sB (sB (sB (bodyOf Tryz.f12))))) (sB (sB (sB (sB (bodyOf Tryz.f12))))))))) := by kernel_rfl
end
end Go.Proofs.YtpjccdncokamlaaGreatDoor

