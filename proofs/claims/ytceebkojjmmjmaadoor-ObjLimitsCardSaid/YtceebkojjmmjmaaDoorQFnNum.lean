/- Contracts that the proofs use. -/
import Derived.Test.YtceebkojjmmjmaaDoorQFnEq
set_option linter.unusedVariables false
set_option linter.unusedSimpArgs false
namespace Go.Proofs.YtceebkojjmmjmaaDoor
open Go.RowKit Go.Sy Go.Fac
section
variable {ea : Ear} {has : Int → Prop} {gl : List (Nat × SVal)}
def kNumber : List SVal → Nat → Acc ORes := fun a n => match a with | [.int .i64 n', .int .i64 b] => .ret ({ v := .int .i64 (.full (n'.val % b.val)), vc := some (0 < b.val) }) | _ => .fail "Number"
theorem argNumber (n' b : SI) : (all (subL tAtN none' [] deep [.int .i64 n', .int .i64 b] [.int .i64 (.full n'.val), .int .i64 (.full b.val)])) = (
  SI.val n' = SI.val n' ∧ SI.val b = SI.val b) := by kernel_rfl
theorem runNumber (gl : List (Nat × SVal)) (n' : Int) (b : Int) : (Tr.sat (plainQ (.int .i64 (.full (n' % b)))) (run (env gl []) [] (bodyOf Tryd.f33) (start [.int .i64 (.full n'), .int .i64 (.full b)] 15) (ends (env gl []) Tryd.f33.results.toList))) = (
  b ≠ (0 : Int) ∧ (b ≠ (0 : Int) → (decide (Int.tmod n' b < (0 : Int)) = true → IntKind.wrap IntKind.i64 (Int.tmod n' b + b) = n' % b) ∧ (decide (Int.tmod n' b < (0 : Int)) = false → Int.tmod n' b = n' % b))) := by kernel_rfl
set_option maxHeartbeats 4000000 in
theorem cNumber : Con ea has gl 33 kNumber := by
  refine plain_mkB Tryd.func33 15 (con := []) trivial (fun hA hr hv => ?_) (by kernel_rfl) (by kernel_rfl) Tryd.ntmps33
  unfold kNumber at hr; split at hr
  · rename_i n' b
    have := ret_ok hr; subst this
    replace hv := hv _ rfl
    refine ⟨_, [], rfl, rfl, .of (argNumber n' b) (by simp), rfl, (fun W R ρ0 own0 hown => noSums (by kernel_rfl)), .of (runNumber gl n'.val b.val) ?_⟩
    clear hr
    obtain ⟨us, hB⟩ := DenA.tl hA
    have b1 : b.val ≤ 9223372036854775807 := (DenA.i0 hB).hi
    clear hB
    clear hA
    generalize n'.val = x
    generalize b.val = y at *
    have h0 := Int.emod_nonneg x (show y ≠ 0 by omega)
    have h1 := Int.emod_lt_of_pos x hv
    have ht := Int.tmod_eq_emod (a := x) (b := y)
    have key : x % y = if x.tmod y < 0 then x.tmod y + y else x.tmod y := by
      generalize x % y = m at *
      generalize x.tmod y = t at *
      split at ht <;> split <;> omega
    refine ⟨by omega, fun _ => ⟨fun h => ?_, fun h => ?_⟩⟩
    · rw [if_pos (of_decide_eq_true h)] at key
      rw [IntKind.wrap_i64]; omega
    · rw [if_neg (of_decide_eq_false h)] at key
      exact key.symm
  · cases hr
def kNone : List SVal → Nat → Acc ORes := fun a n => match a with | [] => .ret ({ v := .agg [.int .i64 (.full 0), .bool (.sym false), .int .i64 (.full 0)] }) | _ => .fail "None"
theorem argNone  : (all (subL tAtN none' [] deep [] [])) = (
  True) := by kernel_rfl
theorem runNone (gl : List (Nat × SVal)) : (Tr.sat (plainQ (.agg [.int .i64 (.full 0), .bool (.sym false), .int .i64 (.full 0)])) (run (env gl []) [] (bodyOf Tryd.f77) (start [] 2) (ends (env gl []) Tryd.f77.results.toList))) = (
  (0 : Int) = (0 : Int) ∧ false = false ∧ (0 : Int) = (0 : Int)) := by kernel_rfl
set_option maxHeartbeats 4000000 in
theorem cNone : Con ea has gl 77 kNone := by
  refine plain_mkB Tryd.func77 2 (con := []) trivial (fun hA hr hv => ?_) (by kernel_rfl) (by kernel_rfl) Tryd.ntmps77
  unfold kNone at hr; split at hr
  · skip
    have := ret_ok hr; subst this
    refine ⟨_, [], rfl, rfl, .of (argNone ) (by simp), rfl, (fun W R ρ0 own0 hown => noSums (by kernel_rfl)), .of (runNone gl ) ?_⟩
    clear hr
    exact ⟨rfl, rfl, rfl⟩
  · cases hr
def kBare : List SVal → Nat → Acc ORes := fun a n => match a with | [.int .i64 c] => .ret ({ v := .agg [.int .i64 (.full c.val), .bool (.sym false), .int .i64 (.full 0)] }) | _ => .fail "Bare"
theorem argBare (c : SI) : (all (subL tAtN none' [] deep [.int .i64 c] [.int .i64 (.full c.val)])) = (
  SI.val c = SI.val c) := by kernel_rfl
theorem runBare (gl : List (Nat × SVal)) (c : Int) : (Tr.sat (plainQ (.agg [.int .i64 (.full c), .bool (.sym false), .int .i64 (.full 0)])) (run (env gl []) [] (bodyOf Tryd.f76) (start [.int .i64 (.full c)] 5) (ends (env gl []) Tryd.f76.results.toList))) = (
  c = c ∧ false = false ∧ (0 : Int) = (0 : Int)) := by kernel_rfl
set_option maxHeartbeats 4000000 in
theorem cBare : Con ea has gl 76 kBare := by
  refine plain_mkB Tryd.func76 5 (con := []) trivial (fun hA hr hv => ?_) (by kernel_rfl) (by kernel_rfl) Tryd.ntmps76
  unfold kBare at hr; split at hr
  · rename_i c
    have := ret_ok hr; subst this
    refine ⟨_, [], rfl, rfl, .of (argBare c) (by simp), rfl, (fun W R ρ0 own0 hown => noSums (by kernel_rfl)), .of (runBare gl c.val) ?_⟩
    clear hr
    exact ⟨rfl, rfl, rfl⟩
  · cases hr
def kPlaced : List SVal → Nat → Acc ORes := fun a n => match a with | [.int .i64 c, .int .i64 p] => .ret ({ v := .agg [.int .i64 (.full c.val), .bool (.sym (!decide (c.val = 0))), .int .i64 (.full (if c.val = 0 then 0 else p.val))] }) | _ => .fail "Placed"
theorem argPlaced (c p : SI) : (all (subL tAtN none' [] deep [.int .i64 c, .int .i64 p] [.int .i64 (.full c.val), .int .i64 (.full p.val)])) = (
  SI.val c = SI.val c ∧ SI.val p = SI.val p) := by kernel_rfl
theorem runPlaced (gl : List (Nat × SVal)) (c : Int) (p : Int) : (Tr.sat (plainQ (.agg [.int .i64 (.full c), .bool (.sym (!decide (c = 0))), .int .i64 (.full (if c = 0 then 0 else p))])) (run (env gl [(77, kNone)]) [] (bodyOf Tryd.f40) (start [.int .i64 (.full c), .int .i64 (.full p)] 11) (ends (env gl [(77, kNone)]) Tryd.f40.results.toList))) = (
  (decide (c = (0 : Int)) = true → (0 : Int) = c ∧ false = !decide (c = (0 : Int)) ∧ (0 : Int) = if c = (0 : Int) then (0 : Int) else p) ∧ (decide (c = (0 : Int)) = false → c = c ∧ true = !decide (c = (0 : Int)) ∧ p = if c = (0 : Int) then (0 : Int) else p)) := by kernel_rfl
set_option maxHeartbeats 4000000 in
theorem cPlaced : Con ea has gl 40 kPlaced := by
  refine plain_mkB Tryd.func40 11 (con := [(77, kNone)]) ⟨cNone, trivial⟩ (fun hA hr hv => ?_) (by kernel_rfl) (by kernel_rfl) Tryd.ntmps40
  unfold kPlaced at hr; split at hr
  · rename_i c p
    have := ret_ok hr; subst this
    refine ⟨_, [], rfl, rfl, .of (argPlaced c p) (by simp), rfl, (fun W R ρ0 own0 hown => noSums (by kernel_rfl)), .of (runPlaced gl c.val p.val) ?_⟩
    clear hr
    refine ⟨fun h => ?_, fun h => ?_⟩
    · have h1 := of_decide_eq_true h
      rw [h, if_pos h1]; exact ⟨h1.symm, rfl, rfl⟩
    · have h1 := of_decide_eq_false h
      rw [h, if_neg h1]; exact ⟨rfl, rfl, rfl⟩
  · cases hr
def kSameFault : List SVal → Nat → Acc ORes := fun a n => match a with | [.agg [.int .i64 a, .bool b, .int .i64 c], .agg [.int .i64 d, .bool e, .int .i64 f]] => .ret ({ v := .bool (.sym (decide (a.val = d.val) && (b.val == e.val) && decide (c.val = f.val))) }) | _ => .fail "SameFault"
theorem argSameFault (a : SI) (b : SB) (c d : SI) (e : SB) (f : SI) : (all (subL tAtN none' [] deep [.agg [.int .i64 a, .bool b, .int .i64 c], .agg [.int .i64 d, .bool e, .int .i64 f]] [.agg [.int .i64 (.full a.val), .bool (.sym b.val), .int .i64 (.full c.val)], .agg [.int .i64 (.full d.val), .bool (.sym e.val), .int .i64 (.full f.val)]])) = (
  SI.val a = SI.val a ∧ SB.val b = SB.val b ∧ SI.val c = SI.val c ∧ SI.val d = SI.val d ∧ SB.val e = SB.val e ∧ SI.val f = SI.val f) := by kernel_rfl
theorem runSameFault (gl : List (Nat × SVal)) (a : Int) (b : Bool) (c : Int) (d : Int) (e : Bool) (f : Int) : (Tr.sat (plainQ (.bool (.sym (decide (a = d) && (b == e) && decide (c = f))))) (run (env gl []) [] (bodyOf Tryd.f79) (start [.agg [.int .i64 (.full a), .bool (.sym b), .int .i64 (.full c)], .agg [.int .i64 (.full d), .bool (.sym e), .int .i64 (.full f)]] 24) (ends (env gl []) Tryd.f79.results.toList))) = (
  (decide (a = d) && b == e && decide (c = f)) = (decide (a = d) && b == e && decide (c = f))) := by kernel_rfl
set_option maxHeartbeats 4000000 in
theorem cSameFault : Con ea has gl 79 kSameFault := by
  refine plain_mkB Tryd.func79 24 (con := []) trivial (fun hA hr hv => ?_) (by kernel_rfl) (by kernel_rfl) Tryd.ntmps79
  unfold kSameFault at hr; split at hr
  · rename_i a b c d e f
    have := ret_ok hr; subst this
    refine ⟨_, [], rfl, rfl, .of (argSameFault a b c d e f) (by simp), rfl, (fun W R ρ0 own0 hown => noSums (by kernel_rfl)), .of (runSameFault gl a.val b.val c.val d.val e.val f.val) ?_⟩
    clear hr
    rfl
  · cases hr
end
end Go.Proofs.YtceebkojjmmjmaaDoor

