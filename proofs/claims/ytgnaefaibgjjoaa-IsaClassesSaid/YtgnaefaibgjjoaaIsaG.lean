/- chapter 1, the laws that reach the least: the walks. -/
import Derived.Test.YtgnaefaibgjjoaaIsaF
set_option linter.unusedVariables false
set_option linter.unusedSimpArgs false
namespace Go.Proofs.Ytgnaefaibgjjoaa
open Go.RowKit Go.Kit

def wordW (op a b c i : Int) : Int := if wordOk op a b c i = true then wordVal op a b c else 0
theorem word_any (op a b c i : Int) (w : World) :
    Calls Try.prog 9 #[.agg #[.int .i64 op, .int .i64 a, .int .i64 b, .int .i64 c, .int .u32 i]] w
      (Gives w (.tuple #[.int .u32 (wordW op a b c i), .bool (wordOk op a b c i)])) := by
  unfold wordW
  cases h : wordOk op a b c i
  · exact word_no op a b c i w h
  · exact word_yes op a b c i w h
theorem word_is (op a b c i : Int) (w : World) {t : Bool} (h : wordOk op a b c i = t) :
    Calls Try.prog 9 #[.agg #[.int .i64 op, .int .i64 a, .int .i64 b, .int .i64 c, .int .u32 i]] w
      (Gives w (.tuple #[.int .u32 (wordW op a b c i), .bool t])) := h ▸ word_any op a b c i w

theorem class_is (op : Int) (w : World) {t : Bool} (h : (isaClass op == 0) = t) :
    Calls Try.prog 8 #[.int .i64 op] w fun e w' => (∃ k : Int, (k == 0) = t ∧ e = .returned (.int .i64 k)) ∧ w' = w :=
  (class_any op w).mono fun _ _ ⟨he, hw⟩ => ⟨⟨_, h, he⟩, hw⟩

def okA (op a : Int) : Bool := a == 0 || (uA op && (decide (0 < a) && decide (a ≤ 15)))
def okB (op a : Int) : Bool := a == 0 || (uB op && (decide (0 < a) && decide (a ≤ 15)))
def okC (op a : Int) : Bool := a == 0 || (uC op && (decide (0 < a) && decide (a ≤ if uN op = true then 255 else 15)))
theorem class_ops {op : Int} (h : (isaClass op == 0) = false) : (1 ≤ op ∧ op ≤ 24) ∨ (32 ≤ op ∧ op ≤ 44) ∨ (64 ≤ op ∧ op ≤ 67) ∨ op = 96 := by
  have : isaClass op ≠ 0 := by simpa using h
  unfold isaClass at this
  repeat' split at this
  all_goals omega
theorem ops_cases {P : Int → Prop} (h : ∀ n : Fin 97, P n.val) {op : Int} (h0 : 0 ≤ op) (h1 : op ≤ 96) : P op := by
  have := h ⟨op.toNat, by omega⟩
  have e : ((op.toNat : Nat) : Int) = op := by omega
  simpa [e] using this
theorem fitsA_ok {op a : Int} (h : (isaClass op == 0) = false) : fitsM a (kA op) = okA op a := by
  have hk : kA op = if uA op = true then 1 else 0 := by
    have := class_ops h
    revert h
    exact ops_cases (P := fun op => (isaClass op == 0) = false → kA op = if uA op = true then 1 else 0) (by decide +kernel) (by omega) (by omega)
  unfold fitsM okA most; rw [hk]
  cases uA op <;> simp <;> (rw [Bool.eq_iff_iff]; simp; omega)
theorem fitsB_ok {op a : Int} (h : (isaClass op == 0) = false) : fitsM a (kB op) = okB op a := by
  have hk : kB op = if uB op = true then 1 else 0 := by
    have := class_ops h
    revert h
    exact ops_cases (P := fun op => (isaClass op == 0) = false → kB op = if uB op = true then 1 else 0) (by decide +kernel) (by omega) (by omega)
  unfold fitsM okB most; rw [hk]
  cases uB op <;> simp <;> (rw [Bool.eq_iff_iff]; simp; omega)
theorem fitsC_ok {op a : Int} (h : (isaClass op == 0) = false) : fitsM a (kC op) = okC op a := by
  have hk : kC op = if uC op = true then (if uN op = true then 2 else 1) else 0 := by
    have := class_ops h
    revert h
    exact ops_cases (P := fun op => (isaClass op == 0) = false → kC op = if uC op = true then (if uN op = true then 2 else 1) else 0) (by decide +kernel) (by omega) (by omega)
  unfold fitsM okC most; rw [hk]
  cases uC op <;> cases uN op <;> simp <;> (rw [Bool.eq_iff_iff]; simp; omega)
theorem fits_zero (k : Int) : fitsM 0 k = true := by
  unfold fitsM most; simp; repeat' split
  all_goals omega
theorem wordA {op a : Int} (h : (isaClass op == 0) = false) : wordOk op a 0 0 0 = okA op a := by
  unfold wordOk; rw [h, fits_zero, fits_zero, fitsA_ok h]; simp
theorem wordB {op a : Int} (h : (isaClass op == 0) = false) : wordOk op 0 a 0 0 = okB op a := by
  unfold wordOk; rw [h, fits_zero, fits_zero, fitsB_ok h]; simp
theorem wordC {op a : Int} (h : (isaClass op == 0) = false) : wordOk op 0 0 a 0 = okC op a := by
  unfold wordOk; rw [h, fits_zero, fits_zero, fitsC_ok h]; simp

theorem uses_is (op : Int) (w : World) {x y z n : Bool} (h1 : uA op = x) (h2 : uB op = y) (h3 : uC op = z) (h4 : uN op = n) :
    Calls Try.prog 7 #[.int .i64 op] w fun e w' => e = .returned (.tuple #[.bool x, .bool y, .bool z, .bool n]) ∧ w' = w := by
  subst h1 h2 h3 h4; exact uses_any op w

set_option maxRecDepth 100000 in
set_option maxHeartbeats 1000000 in
theorem regs_zero (op a b c : Int) (w : World) (h : (isaClass op == 0) = true) :
    Calls Try.prog 3 #[.int .i64 op, .int .i64 a, .int .i64 b, .int .i64 c] w (Gives w (.bool true)) := by
  have hw : wordOk op 0 0 0 0 = false := by unfold wordOk; rw [h]; rfl
  go_enter Try.func3, Try.ntmps3
  go_wp2_with (first | (go_at_call 6; refine (first_any _).mono ?_; rintro e w' ⟨rfl, hb⟩; obtain ⟨g1, rfl⟩ := ext_of w.heap.size w.heap.size [] hb rfl (Nat.le_refl _) (by simp)) | (go_at_call 7; refine (uses_any _ _).mono ?_; rintro e w' ⟨rfl, rfl⟩) | (go_at_call 8; refine (class_any _ _).mono ?_; rintro e w' ⟨rfl, rfl⟩) | (go_at_call 9; refine (word_is _ _ _ _ _ _ hw).mono ?_; rintro e w' ⟨rfl, hb⟩; obtain ⟨g2, rfl⟩ := ext_of w.heap.size g1.top [] hb (by go_simp) (by go_simp) (by simp)))
  go_ret
  exact gives rfl (since_ext (since_ext (since_refl _) _) _)
end Go.Proofs.Ytgnaefaibgjjoaa
