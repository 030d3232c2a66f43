/- Walks of isa's functions: trial. -/
import Derived.Test.YtgnaefaibgjjoaaIsaB
set_option linter.unusedVariables false
set_option linter.unusedSimpArgs false
namespace Go.Proofs.Ytgnaefaibgjjoaa
open Go.RowKit Go.Kit

def uA (op : Int) : Bool := !(op == 1 || op == 34 || op == 42 || op == 64 || op == 65 || op == 19 || op == 22 || op == 96 || op == 16)
def uB (op : Int) : Bool := op == 2 || op == 37 || op == 38 || op == 41 || op == 12 || op == 13 || (decide (3 ≤ op) && decide (op ≤ 11)) || op == 24
def uC (op : Int) : Bool := op == 12 || op == 13 || op == 16 || op == 17 || op == 18 || (decide (3 ≤ op) && decide (op ≤ 11)) || op == 24
def uN (op : Int) : Bool := op == 12 || op == 13 || op == 16 || op == 17 || op == 18

theorem ret_bool4 {a b c d a' b' c' d' : Bool} (h : a = a') (h2 : b = b') (h3 : c = c') (h4 : d = d') :
  Ending.returned (.tuple #[.bool a, .bool b, .bool c, .bool d]) = .returned (.tuple #[.bool a', .bool b', .bool c', .bool d']) := by rw [h, h2, h3, h4]

set_option maxHeartbeats 1000000 in
theorem uses_any (op : Int) (w : World) :
    Calls Try.prog 7 #[.int .i64 op] w fun e w' => e = .returned (.tuple #[.bool (uA op), .bool (uB op), .bool (uC op), .bool (uN op)]) ∧ w' = w := by
  go_enter Try.func7, Try.ntmps7
  go_wp2
  all_goals
    refine bodyPost_ret (v := .tuple #[.bool _, .bool _, .bool _, .bool _]) (by simp [results, Try.results7, go_sem]; exact ⟨rfl, rfl, rfl, rfl⟩) rfl ⟨ret_bool4 ?_ ?_ ?_ ?_, rfl⟩ <;>
    ((try simp only [beq_iff_eq, beq_eq_false_iff_ne] at *); simp [uA, uB, uC, uN, *]; try omega)

theorem fits_any (n k : Int) (w : World) (hk : k = 0 ∨ k = 1 ∨ k = 2) :
    Calls Try.prog 18 #[.int .i64 n, .int .i64 k] w (Gives w (.bool (decide (0 ≤ n) && decide (n ≤ if k = 0 then 0 else if k = 1 then 15 else 255)))) := by
  rcases hk with rfl | rfl | rfl
  all_goals
    go_enter Try.func18, Try.ntmps18
    go_wp2
    all_goals (go_ret; refine gives (v_bool ?_) (since_alloc (since_refl _) _); simp [*]; try omega)

theorem same_any (a b c d i a' b' c' d' i' : Int) (w : World) :
    Calls Try.prog 14 #[.agg #[.int .i64 a, .int .i64 b, .int .i64 c, .int .i64 d, .int .u32 i], .agg #[.int .i64 a', .int .i64 b', .int .i64 c', .int .i64 d', .int .u32 i']] w
      (Gives w (.bool (a == a' && b == b' && c == c' && d == d' && i == i'))) := by
  go_enter Try.func14, Try.ntmps14
  go_wp2
  all_goals (go_ret; refine gives (v_bool ?_) (since_alloc (since_alloc (since_refl _) _) _); simp [*]; try omega)

end Go.Proofs.Ytgnaefaibgjjoaa
