/- Contracts that the proofs use. -/
import Derived.Test.YtpjccdncokamlaaDoorQFnFst8b
set_option linter.unusedVariables false
set_option linter.unusedSimpArgs false
namespace Go.Proofs.YtpjccdncokamlaaDoor
open Go.RowKit Go.Sy Go.Fac
section
variable {ea : Ear} {has : Int → Prop} {gl : List (Nat × SVal)}
theorem lit_hi {C : Ctx} {W : World} {R : Nat → Prop} {ρ : Nat → Option Value} {a : SVal} {b : Nat} {l : List SVal} {vs : List Value} (h : DenA C W R ρ (a :: .int .i64 (.lit (.ofNat (b + 1))) :: l) vs) : b + 1 ≤ 9223372036854775807 := by
  obtain ⟨_, h⟩ := DenA.tl h
  have : ((b + 1 : Nat) : Int) ≤ 9223372036854775807 := (DenA.i0 h).hi
  omega
def kNumberL : List SVal → Nat → Acc ORes := fun a n => match a with | [.int .i64 n', .int .i64 (.lit (.ofNat (b + 1)))] => .ret ({ v := .int .i64 (.sym (n'.val % (Int.ofNat (b + 1))) 0 (Int.ofNat b)) }) | _ => .fail "NumberL"
theorem argNumberL (n' : SI) (b : Nat) : (all (subL tAtN none' [] deep [.int .i64 n', .int .i64 (.lit (.ofNat (b + 1)))] [.int .i64 (.full n'.val), .int .i64 (.full (Int.ofNat (b + 1)))])) = (
  SI.val n' = SI.val n' ∧ Int.ofNat (b + (1 : Nat)) = Int.ofNat (b + (1 : Nat))) := by kernel_rfl
theorem runNumberL (gl : List (Nat × SVal)) (n : Int) (b : Nat) : (Tr.sat (plainQ (.int .i64 (.sym (n % (Int.ofNat (b + 1))) 0 (Int.ofNat b)))) (run (env gl []) [] (bodyOf Tryd.f10) (start [.int .i64 (.full n), .int .i64 (.full (Int.ofNat (b + 1)))] 15) (ends (env gl []) Tryd.f10.results.toList))) = (
  Int.ofNat (b + (1 : Nat)) ≠ (0 : Int) ∧ (Int.ofNat (b + (1 : Nat)) ≠ (0 : Int) → (decide (Int.tmod n (Int.ofNat (b + (1 : Nat))) < (0 : Int)) = true → IntKind.wrap IntKind.i64 (Int.tmod n (Int.ofNat (b + (1 : Nat))) + Int.ofNat (b + (1 : Nat))) = n % Int.ofNat (b + (1 : Nat)) ∧ (0 : Int) ≤ n % Int.ofNat (b + (1 : Nat)) ∧ n % Int.ofNat (b + (1 : Nat)) ≤ Int.ofNat b) ∧ (decide (Int.tmod n (Int.ofNat (b + (1 : Nat))) < (0 : Int)) = false → Int.tmod n (Int.ofNat (b + (1 : Nat))) = n % Int.ofNat (b + (1 : Nat)) ∧ (0 : Int) ≤ n % Int.ofNat (b + (1 : Nat)) ∧ n % Int.ofNat (b + (1 : Nat)) ≤ Int.ofNat b))) := by kernel_rfl
set_option maxHeartbeats 4000000 in
theorem gNumberL (n : Int) (b : Nat) (h0 : b + 1 ≤ 9223372036854775807) : Box (Tr.sat (plainQ (.int .i64 (.sym (n % (Int.ofNat (b + 1))) 0 (Int.ofNat b)))) (run (env gl []) [] (bodyOf Tryd.f10) (start [.int .i64 (.full n), .int .i64 (.full (Int.ofNat (b + 1)))] 15) (ends (env gl []) Tryd.f10.results.toList))) := by
  refine .of (runNumberL gl n b) ?_
  have hv : 0 < (Int.ofNat (b + 1)) := Int.ofNat_lt.2 (Nat.succ_pos b)
  have hb' : Int.ofNat b = Int.ofNat (b + 1) - 1 := by show (b : Int) = (b : Int) + 1 - 1; omega
  have hm : Int.ofNat (b + 1) ≤ 9223372036854775807 := by show ((b + 1 : Nat) : Int) ≤ _; omega
  rw [hb']
  generalize n = x
  generalize Int.ofNat (b + 1) = y at *
  have h0 := Int.emod_nonneg x (show y ≠ 0 by omega)
  have h1 := Int.emod_lt_of_pos x hv
  have ht := Int.tmod_eq_emod (a := x) (b := y)
  have key : x % y = if x.tmod y < 0 then x.tmod y + y else x.tmod y := by
    generalize x % y = m at *
    generalize x.tmod y = t at *
    split at ht <;> split <;> omega
  refine ⟨by omega, fun _ => ⟨fun h => ?_, fun h => ?_⟩⟩
  · rw [if_pos (of_decide_eq_true h)] at key
    refine ⟨?_, by omega, by omega⟩
    rw [IntKind.wrap_i64]; omega
  · rw [if_neg (of_decide_eq_false h)] at key
    exact ⟨key.symm, by omega, by omega⟩
set_option maxHeartbeats 4000000 in
theorem cNumberL : Con ea has gl 10 kNumberL := by
  refine plain_mkB Tryd.func10 15 (con := []) trivial (fun hA hr hv => ?_) (by kernel_rfl) (by kernel_rfl) Tryd.ntmps10
  unfold kNumberL at hr; split at hr
  · rename_i n' b
    have := ret_ok hr; subst this
    exact ⟨_, [], rfl, rfl, .of (argNumberL n' b) (by simp), rfl, (fun W R ρ0 own0 hown => noSums (by kernel_rfl)), gNumberL n'.val b (lit_hi hA)⟩
  · cases hr
end
end Go.Proofs.YtpjccdncokamlaaDoor

