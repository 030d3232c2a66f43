/- Contracts. -/
import Derived.Test.YtpjccdncokamlaaGreatDoorQE1
import Derived.Laws.BitsLemmas
set_option linter.unusedVariables false
set_option linter.unusedSimpArgs false
namespace Go.Fac
open Go.RowKit Go.Kit
def isaClass (op : Int) : Int := if 1 ≤ op ∧ op ≤ 24 then 1 else if 32 ≤ op ∧ op ≤ 44 then 2 else if 64 ≤ op ∧ op ≤ 67 then 3 else if op = 96 then 4 else 0
def isaTwo (op : Int) : Bool := op == 14 || op == 15 || op == 19 || op == 20 || op == 21 || op == 22 || op == 96
def isaJumps (op : Int) : Bool := decide (16 ≤ op ∧ op ≤ 23)
def kA (op : Int) : Int :=
  if op = 14 ∨ op = 15 ∨ op = 20 ∨ op = 21 ∨ op = 23 ∨ op = 32 ∨ op = 33 ∨ op = 35 ∨ op = 36 ∨ op = 39 ∨ op = 40 ∨ op = 43 ∨ op = 44 ∨ op = 66 ∨ op = 67 then 1
  else if op = 2 ∨ op = 37 ∨ op = 38 ∨ op = 41 then 1 else if (3 ≤ op ∧ op ≤ 11) ∨ op = 24 then 1 else if op = 12 ∨ op = 13 then 1 else if op = 17 ∨ op = 18 then 1 else 0
def kB (op : Int) : Int :=
  if op = 2 ∨ op = 37 ∨ op = 38 ∨ op = 41 then 1 else if (3 ≤ op ∧ op ≤ 11) ∨ op = 24 then 1 else if op = 12 ∨ op = 13 then 1 else 0
def kC (op : Int) : Int :=
  if (3 ≤ op ∧ op ≤ 11) ∨ op = 24 then 1 else if op = 12 ∨ op = 13 then 2 else if op = 16 then 2 else if op = 17 ∨ op = 18 then 2 else 0
def uA (op : Int) : Bool := !(op == 1 || op == 34 || op == 42 || op == 64 || op == 65 || op == 19 || op == 22 || op == 96 || op == 16)
def uB (op : Int) : Bool := op == 2 || op == 37 || op == 38 || op == 41 || op == 12 || op == 13 || (decide (3 ≤ op) && decide (op ≤ 11)) || op == 24
def uC (op : Int) : Bool := op == 12 || op == 13 || op == 16 || op == 17 || op == 18 || (decide (3 ≤ op) && decide (op ≤ 11)) || op == 24
def uN (op : Int) : Bool := op == 12 || op == 13 || op == 16 || op == 17 || op == 18
def most (k : Int) : Int := if k = 0 then 0 else if k = 1 then 15 else 255
def fitsM (n k : Int) : Bool := decide (0 ≤ n) && decide (n ≤ most k)
theorem kA_in (op : Int) : kA op = 0 ∨ kA op = 1 ∨ kA op = 2 := by
  unfold kA; repeat' split
  all_goals simp
theorem kB_in (op : Int) : kB op = 0 ∨ kB op = 1 ∨ kB op = 2 := by
  unfold kB; repeat' split
  all_goals simp
theorem kC_in (op : Int) : kC op = 0 ∨ kC op = 1 ∨ kC op = 2 := by
  unfold kC; repeat' split
  all_goals simp
theorem wrap_i8_eq (n : Int) : IntKind.i8.wrap n = (n + 128) % 256 - 128 := by
  simp [IntKind.wrap, IntKind.bits, IntKind.signed]
  split <;> omega
def dispM (c : Int) : Int := (c + 128) % 256 - 128
def wordOk (op a b c i : Int) : Bool := !(isaClass op == 0) && fitsM a (kA op) && fitsM b (kB op) && fitsM c (kC op) && (!(i != 0) || isaTwo op)
def wordVal (op a b c : Int) : Int := op * 16777216 + a * 65536 + b * 256 + c
theorem class_in {op : Int} (h : (isaClass op == 0) = false) : 1 ≤ op ∧ op ≤ 96 := by
  have : isaClass op ≠ 0 := by simpa using h
  unfold isaClass at this
  repeat' split at this
  all_goals omega
theorem fits_in {n k : Int} (h : fitsM n k = true) : 0 ≤ n ∧ n ≤ 255 := by
  unfold fitsM most at h; simp only [Bool.and_eq_true, decide_eq_true_eq] at h
  obtain ⟨h1, h2⟩ := h
  repeat' split at h2
  all_goals omega
theorem wraps32 (n : Int) (h₀ : 0 ≤ n) (h₁ : n < 2 ^ 32) : IntKind.u32.wrap n = n := by rw [IntKind.wrap_u32]; omega
theorem u32_or_hi (i : Nat) (x y : Int) (hx₀ : 0 ≤ x) (hx : x % 2 ^ i = 0) (hx₁ : x < 2 ^ 32) (hy₀ : 0 ≤ y) (hy : y < 2 ^ i) (hy₁ : y < 2 ^ 32) : bits .or .u32 x y = x + y :=
  bits_join .u32 32 (by decide) wraps32 i x y hx₀ hx hx₁ hy₀ hy hy₁
theorem word_bits {op a b c : Int} (ho : 1 ≤ op ∧ op ≤ 255) (ha : 0 ≤ a ∧ a ≤ 255) (hb : 0 ≤ b ∧ b ≤ 255) (hc : 0 ≤ c ∧ c ≤ 255) :
    bits BinOp.or IntKind.u32 (bits BinOp.or IntKind.u32 (bits BinOp.or IntKind.u32 (op % 4294967296 * 16777216 % 4294967296) (a % 4294967296 * 65536 % 4294967296)) (b % 4294967296 * 256 % 4294967296)) (c % 4294967296) = wordVal op a b c := by
  have e1 : op % 4294967296 * 16777216 % 4294967296 = op * 16777216 := by omega
  have e2 : a % 4294967296 * 65536 % 4294967296 = a * 65536 := by omega
  have e3 : b % 4294967296 * 256 % 4294967296 = b * 256 := by omega
  have e4 : c % 4294967296 = c := by omega
  rw [e1, e2, e3, e4]
  rw [u32_or_hi 24 (op * 16777216) (a * 65536) (by omega) (by omega) (by omega) (by omega) (by omega) (by omega)]
  rw [u32_or_hi 16 (op * 16777216 + a * 65536) (b * 256) (by omega) (by omega) (by omega) (by omega) (by omega) (by omega)]
  rw [u32_or_hi 8 (op * 16777216 + a * 65536 + b * 256) c (by omega) (by omega) (by omega) (by omega) (by omega) (by omega)]
  rfl
def ofImm (w imm : Int) : Int := if isaTwo (w / 16777216) = true then imm else 0
def ofOk (w : Int) : Bool := wordOk (w / 16777216) (w / 65536 % 256) (w / 256 % 256) (w % 256) 0
theorem ofOk_imm {op a b c imm : Int} (h : isaTwo op = true) : wordOk op a b c imm = wordOk op a b c 0 := by
  unfold wordOk; rw [h]; simp
def wordW (op a b c i : Int) : Int := if wordOk op a b c i = true then wordVal op a b c else 0
def okA (op a : Int) : Bool := a == 0 || (uA op && (decide (0 < a) && decide (a ≤ 15)))
def okB (op a : Int) : Bool := a == 0 || (uB op && (decide (0 < a) && decide (a ≤ 15)))
def okC (op a : Int) : Bool := a == 0 || (uC op && (decide (0 < a) && decide (a ≤ if uN op = true then 255 else 15)))
theorem class_ops {op : Int} (h : (isaClass op == 0) = false) : (1 ≤ op ∧ op ≤ 24) ∨ (32 ≤ op ∧ op ≤ 44) ∨ (64 ≤ op ∧ op ≤ 67) ∨ op = 96 := by
  have : isaClass op ≠ 0 := by simpa using h
  unfold isaClass at this
  repeat' split at this
  all_goals omega
theorem ops_cases {P : Int → Prop} (h : ∀ n : Fin 97, P n.val) {op : Int} (h0 : 0 ≤ op) (h1 : op ≤ 96) : P op := by
  have := h ⟨op.toNat, by omega⟩
  have e : ((op.toNat : Nat) : Int) = op := by omega
  simpa [e] using this
theorem fitsA_ok {op a : Int} (h : (isaClass op == 0) = false) : fitsM a (kA op) = okA op a := by
  have hk : kA op = if uA op = true then 1 else 0 := by
    have := class_ops h
    revert h
    exact ops_cases (P := fun op => (isaClass op == 0) = false → kA op = if uA op = true then 1 else 0) (by decide +kernel) (by omega) (by omega)
  unfold fitsM okA most; rw [hk]
  cases uA op <;> simp <;> (rw [Bool.eq_iff_iff]; simp; omega)
theorem fitsB_ok {op a : Int} (h : (isaClass op == 0) = false) : fitsM a (kB op) = okB op a := by
  have hk : kB op = if uB op = true then 1 else 0 := by
    have := class_ops h
    revert h
    exact ops_cases (P := fun op => (isaClass op == 0) = false → kB op = if uB op = true then 1 else 0) (by decide +kernel) (by omega) (by omega)
  unfold fitsM okB most; rw [hk]
  cases uB op <;> simp <;> (rw [Bool.eq_iff_iff]; simp; omega)
theorem fitsC_ok {op a : Int} (h : (isaClass op == 0) = false) : fitsM a (kC op) = okC op a := by
  have hk : kC op = if uC op = true then (if uN op = true then 2 else 1) else 0 := by
    have := class_ops h
    revert h
    exact ops_cases (P := fun op => (isaClass op == 0) = false → kC op = if uC op = true then (if uN op = true then 2 else 1) else 0) (by decide +kernel) (by omega) (by omega)
  unfold fitsM okC most; rw [hk]
  cases uC op <;> cases uN op <;> simp <;> (rw [Bool.eq_iff_iff]; simp; omega)
theorem word_imm {v imm j : Int} (h : ofOk v = true) (hj : ofImm v imm = j) : wordOk (v / 16777216) (v / 65536 % 256) (v / 256 % 256) (v % 256) j = true := by
  unfold ofImm at hj
  cases ht : isaTwo (v / 16777216)
  · rw [ht] at hj; simp at hj; subst hj; exact h
  · exact (ofOk_imm ht).trans h
end Go.Fac

