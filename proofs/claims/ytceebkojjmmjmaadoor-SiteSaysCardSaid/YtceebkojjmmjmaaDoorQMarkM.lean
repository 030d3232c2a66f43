/- Contracts that the proofs use. -/
import Derived.Test.YtceebkojjmmjmaaDoorQE5
import Derived.Test.YtceebkojjmmjmaaDoorQMemM
set_option linter.unusedVariables false
set_option linter.unusedSimpArgs false
namespace Go.Proofs.YtceebkojjmmjmaaDoor
open Go.RowKit Go.Sy Go.Fac
abbrev markI : Int := 2147483648
def unmark (w : Int) : Int := bits .andNot .u32 w markI
def backB (w : Int) : Bool := !decide (bits .and .u32 w markI = 0) && ofOk (unmark w) && (decide (isaClass (ofF (unmark w) 0).op = 2) || decide (isaClass (ofF (unmark w) 0).op = 3))
def backI (w : Int) : In5 := if backB w = true then ofF (unmark w) 0 else ⟨0, 0, 0, 0, 0⟩
theorem mark_and {w : Int} (h : 0 ≤ w ∧ w < 4294967296) : bits .and .u32 w 2147483648 = if w < 2147483648 then 0 else 2147483648 := by
  obtain ⟨n, rfl⟩ := Int.eq_ofNat_of_zero_le h.1
  have hn : n < 4294967296 := by omega
  have e : bits .and .u32 (n : Int) 2147483648 = IntKind.u32.wrap ((BitVec.ofInt 32 (n : Int) &&& BitVec.ofInt 32 2147483648).toNat : Nat) := rfl
  have e1 : BitVec.ofInt 32 2147483648 = BitVec.ofNat 32 (2 ^ 31) := by decide
  rw [e, BitVec.toNat_and, BitVec.ofInt_natCast, e1, BitVec.toNat_ofNat, BitVec.toNat_ofNat, Nat.mod_eq_of_lt (show n < 2 ^ 32 by omega), Nat.mod_eq_of_lt (show 2 ^ 31 < 2 ^ 32 by decide), Nat.and_comm]
  have e2 : 2 ^ 31 &&& n = if n < 2147483648 then 0 else 2147483648 := by
    have tb : n.testBit 31 = decide (¬ n < 2147483648) := by
      rw [Nat.testBit_eq_decide_div_mod_eq]
      congr 1
      simp only [eq_iff_iff]
      omega
    apply Nat.eq_of_testBit_eq
    intro i
    rw [Nat.testBit_and, Nat.testBit_two_pow]
    by_cases hi : 31 = i
    · subst hi
      rw [tb]
      by_cases hl : n < 2147483648
      · simp [hl]
      · rw [if_neg hl]; simp [hl]; decide
    · by_cases hl : n < 2147483648
      · simp [hl, hi]
      · rw [if_neg hl, decide_eq_false hi, show (2147483648 : Nat) = 2 ^ 31 by decide, Nat.testBit_two_pow, decide_eq_false hi]; rfl
  rw [e2]
  by_cases hl : n < 2147483648
  · rw [if_pos hl, if_pos (by omega)]; rfl
  · rw [if_neg hl, if_neg (by omega)]; rfl
theorem mark_andNot {w : Int} : bits .andNot .u32 w 2147483648 = w % 2147483648 := by
  have e : bits .andNot .u32 w 2147483648 = bits .and .u32 w 2147483647 := by
    have e1 : ~~~ BitVec.ofInt 32 2147483648 = BitVec.ofInt 32 2147483647 := by decide
    have a : bits .andNot .u32 w 2147483648 = IntKind.u32.wrap ((BitVec.ofInt 32 w &&& ~~~ BitVec.ofInt 32 2147483648).toNat : Nat) := rfl
    have b : bits .and .u32 w 2147483647 = IntKind.u32.wrap ((BitVec.ofInt 32 w &&& BitVec.ofInt 32 2147483647).toNat : Nat) := rfl
    rw [a, b, e1]
  rw [e]
  exact and_pow2 .u32 w 31 (by simp) (by decide)
theorem mark_or {x : Int} (h : 0 ≤ x ∧ x < 2147483648) : bits .or .u32 2147483648 x = 2147483648 + x :=
  u32_or_hi 31 2147483648 x (by decide) (by decide) (by decide) h.1 h.2 (by omega)
theorem backB_eq {w : Int} (h : 0 ≤ w ∧ w < 4294967296) : backB w = (!decide (w < 2147483648) && ofOk (w % 2147483648) && (decide (isaClass (ofF (w % 2147483648) 0).op = 2) || decide (isaClass (ofF (w % 2147483648) 0).op = 3))) := by
  unfold backB unmark
  rw [mark_and h, mark_andNot]
  have : decide ((if w < 2147483648 then (0 : Int) else 2147483648) = 0) = decide (w < 2147483648) := by
    by_cases hl : w < 2147483648
    · rw [if_pos hl]; simp [hl]
    · rw [if_neg hl]; simp [hl]
  rw [this]
end Go.Proofs.YtceebkojjmmjmaaDoor

