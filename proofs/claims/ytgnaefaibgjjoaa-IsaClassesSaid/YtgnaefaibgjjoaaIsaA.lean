/- Walks of isa's functions: trial. -/
import Derived.Test.YtgnaefaibgjjoaaRows
import Derived.Test.YtgnaefaibgjjoaaKit
set_option linter.unusedVariables false
set_option linter.unusedSimpArgs false
namespace Go.Proofs.Ytgnaefaibgjjoaa
open Go.RowKit Go.Kit

theorem ret_int {k : IntKind} {a b : Int} (h : a = b) : Ending.returned (.int k a) = .returned (.int k b) := by rw [h]
theorem v_int {k : IntKind} {a b : Int} (h : a = b) : Value.int k a = .int k b := by rw [h]
theorem v_bool {a b : Bool} (h : a = b) : Value.bool a = .bool b := by rw [h]

/-! models -/
def isaClass (op : Int) : Int := if 1 ≤ op ∧ op ≤ 24 then 1 else if 32 ≤ op ∧ op ≤ 44 then 2 else if 64 ≤ op ∧ op ≤ 67 then 3 else if op = 96 then 4 else 0
def isaTwo (op : Int) : Bool := op == 14 || op == 15 || op == 19 || op == 20 || op == 21 || op == 22 || op == 96
def isaJumps (op : Int) : Bool := decide (16 ≤ op ∧ op ≤ 23)

theorem class_any (op : Int) (w : World) :
    Calls Try.prog 8 #[.int .i64 op] w fun e w' => e = .returned (.int .i64 (isaClass op)) ∧ w' = w := by
  go_enter Try.func8, Try.ntmps8
  go_wp2
  all_goals (go_ret; refine ⟨ret_int ?_, rfl⟩; unfold isaClass; (try simp only [beq_iff_eq, beq_eq_false_iff_ne] at *); repeat (split; try omega); try omega)

theorem tables_any (w : World) :
    Calls Try.prog 10 #[] w (Gives w (.agg #[])) := by
  go_enter Try.func10, Try.ntmps10
  go_wp2
  exact bodyPost_ret (v := .agg #[]) (by simp [results, Try.results10, go_sem]) rfl (gives rfl (since_alloc (since_refl _) _))

theorem tclass_any (op : Int) (w : World) :
    Calls Try.prog 11 #[.agg #[], .int .i64 op] w (Gives w (.int .i64 (isaClass op))) := by
  go_enter Try.func11, Try.ntmps11
  go_wp2
  all_goals (go_ret; refine gives (v_int ?_) (since_alloc (since_refl _) _); unfold isaClass; (try simp only [beq_iff_eq, beq_eq_false_iff_ne] at *); repeat (split; try omega); try omega)

theorem ttwo_any (op : Int) (w : World) :
    Calls Try.prog 12 #[.agg #[], .int .i64 op] w (Gives w (.bool (isaTwo op))) := by
  go_enter Try.func12, Try.ntmps12
  go_wp2
  all_goals (go_ret; refine gives (v_bool ?_) (since_alloc (since_refl _) _); simp [isaTwo, *])

theorem tjumps_any (op : Int) (w : World) :
    Calls Try.prog 15 #[.agg #[], .int .i64 op] w (Gives w (.bool (isaJumps op))) := by
  go_enter Try.func15, Try.ntmps15
  go_wp2
  all_goals (go_ret; refine gives (v_bool ?_) (since_alloc (since_refl _) _); simp only [isaJumps, beq_iff_eq, beq_eq_false_iff_ne, decide_eq_true_eq, decide_eq_false_iff_not, Bool.true_eq, Bool.false_eq] at *; omega)

end Go.Proofs.Ytgnaefaibgjjoaa
