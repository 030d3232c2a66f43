/- Contracts. -/
import Derived.Test.YtpjccdncokamlaaGreatDoorQBareP
import Derived.Test.YtpjccdncokamlaaGreatDoorQBareL
set_option linter.unusedVariables false
set_option linter.unusedSimpArgs false
namespace Go.Fac
open Go.RowKit Go.Sy
def prIs (keys : List Int) (i : Nat) : Bool := decide ((i : Int) < (keys.length : Int)) && decide (keys.getD i 0 % 3 = 0)
def prY0 (keys : List Int) (i : Nat) (y : Mc) : Mc := if prIs keys i = true then { y with d := dPress y.d (keys.getD i 0) } else y
def prY (keys : List Int) (i : Nat) (y : Mc) : Mc := hide (prY0 keys i y)
theorem prY_def (keys : List Int) (i : Nat) (y : Mc) : prY keys i y = prY0 keys i y := hide_eq _
def plY (y : Mc) (keys : List Int) : Nat → Mc
  | 0 => y
  | i + 1 => stepM false (prY keys i (plY y keys i))
theorem nrm_press (d : Dv) (k : Int) : dPress (nrmD d) k = nrmD (dPress d k) := by
  by_cases h : 64 ≤ (d.keys.length : Int)
  · have e : dPress d k = d := if_pos h
    have e' : dPress (nrmD d) k = nrmD d := if_pos h
    rw [e, e']
  · have e : dPress d k = { d with keys := d.keys ++ [k] } := if_neg h
    have e' : dPress (nrmD d) k = { nrmD d with keys := d.keys ++ [k] } := if_neg h
    rw [e, e']; rfl
theorem press_fit {n : Nat} {y : Mc} (h : McI n y) (keys : List Int) (i : Nat) : McI n (prY keys i y) := by
  rw [prY_def]; unfold prY0
  split
  · refine ⟨?_, ?_, h.w, h.upd⟩
    · show (dPress y.d _).seen.length ≤ n
      unfold dPress; split <;> exact h.seen
    · show (dPress y.d _).keys.length ≤ 64
      unfold dPress
      split
      · exact h.keys
      · simp only [List.length_append, List.length_cons, List.length_nil]; omega
  · exact h
theorem pr_rest (keys : List Int) (i : Nat) (y : Mc) : (prY keys i y).l = y.l ∧ (prY keys i y).now = y.now ∧ (prY keys i y).over = y.over := by
  rw [prY_def]; unfold prY0; split <;> exact ⟨rfl, rfl, rfl⟩
theorem plY_ok {y : Mc} (h : McI 0 y) (keys : List Int) : ∀ i, McI i (plY y keys i)
  | 0 => h
  | i + 1 => (press_fit (plY_ok h keys i) keys i).iter (p := false) 1
theorem plY_len (y : Mc) (keys : List Int) : ∀ i, (plY y keys i).l.length = y.l.length
  | 0 => rfl
  | i + 1 => by
    show (iterM false (prY keys i (plY y keys i)) 1).l.length = _
    rw [iterM_len, (pr_rest keys i _).1, plY_len y keys i]
theorem step_now (p : Bool) (b : Mc) : (stepM p b).now = b.now ∨ (stepM p b).now = IntKind.i64.wrap (b.now + 1) := by
  rw [stepM_def]; unfold stepM0
  split
  · exact .inl rfl
  · exact .inr rfl
theorem plY_now {y : Mc} (h : y.now = 0) (keys : List Int) : ∀ i : Nat, i ≤ 1000 → 0 ≤ (plY y keys i).now ∧ (plY y keys i).now ≤ i
  | 0, _ => by show 0 ≤ y.now ∧ y.now ≤ _; omega
  | i + 1, hi => by
    have ih := plY_now h keys i (by omega)
    rw [← (pr_rest keys i _).2.1] at ih
    rcases step_now false (prY keys i (plY y keys i)) with e | e
    · show 0 ≤ (stepM false _).now ∧ (stepM false _).now ≤ _
      rw [e]; omega
    · show 0 ≤ (stepM false _).now ∧ (stepM false _).now ≤ _
      rw [e, IntKind.wrap_i64]; omega
end Go.Fac

