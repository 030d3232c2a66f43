/- Walks of isa's functions: trial. -/
import Derived.Test.YtgnaefaibgjjoaaIsaA
set_option linter.unusedVariables false
set_option linter.unusedSimpArgs false
namespace Go.Proofs.Ytgnaefaibgjjoaa
open Go.RowKit Go.Kit

/-- What A, B, C are: 0 none, 1 a register, 2 a number. -/
def kA (op : Int) : Int :=
  if op = 14 ∨ op = 15 ∨ op = 20 ∨ op = 21 ∨ op = 23 ∨ op = 32 ∨ op = 33 ∨ op = 35 ∨ op = 36 ∨ op = 39 ∨ op = 40 ∨ op = 43 ∨ op = 44 ∨ op = 66 ∨ op = 67 then 1
  else if op = 2 ∨ op = 37 ∨ op = 38 ∨ op = 41 then 1 else if (3 ≤ op ∧ op ≤ 11) ∨ op = 24 then 1 else if op = 12 ∨ op = 13 then 1 else if op = 17 ∨ op = 18 then 1 else 0
def kB (op : Int) : Int :=
  if op = 2 ∨ op = 37 ∨ op = 38 ∨ op = 41 then 1 else if (3 ≤ op ∧ op ≤ 11) ∨ op = 24 then 1 else if op = 12 ∨ op = 13 then 1 else 0
def kC (op : Int) : Int :=
  if (3 ≤ op ∧ op ≤ 11) ∨ op = 24 then 1 else if op = 12 ∨ op = 13 then 2 else if op = 16 then 2 else if op = 17 ∨ op = 18 then 2 else 0

theorem ret_int3 {a b c a' b' c' : Int} (h : a = a') (h2 : b = b') (h3 : c = c') :
  Ending.returned (.tuple #[.int .i64 a, .int .i64 b, .int .i64 c]) = .returned (.tuple #[.int .i64 a', .int .i64 b', .int .i64 c']) := by rw [h, h2, h3]

set_option maxHeartbeats 1000000 in
theorem operands_any (op : Int) (w : World) :
    Calls Try.prog 17 #[.int .i64 op] w fun e w' => e = .returned (.tuple #[.int .i64 (kA op), .int .i64 (kB op), .int .i64 (kC op)]) ∧ w' = w := by
  go_enter Try.func17, Try.ntmps17
  go_wp2
  all_goals (go_ret3; refine ⟨ret_int3 ?_ ?_ ?_, rfl⟩ <;> ((try simp only [beq_iff_eq, beq_eq_false_iff_ne] at *); first | (unfold kA; simp [*]; done) | (unfold kB; simp [*]; done) | (unfold kC; simp [*]; done) | (unfold kA; repeat (split; try omega); try omega) |  (unfold kB; repeat (split; try omega); try omega) | (unfold kC; repeat (split; try omega); try omega)))

end Go.Proofs.Ytgnaefaibgjjoaa
