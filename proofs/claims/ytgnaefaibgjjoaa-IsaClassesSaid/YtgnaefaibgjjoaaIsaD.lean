/- isa: fits, Word, Disp: what the functions give back. -/
import Derived.Test.YtgnaefaibgjjoaaIsaC
import Derived.Laws.BitsLemmas
set_option linter.unusedVariables false
set_option linter.unusedSimpArgs false
namespace Go.Proofs.Ytgnaefaibgjjoaa
open Go.RowKit Go.Kit

def most (k : Int) : Int := if k = 0 then 0 else if k = 1 then 15 else 255
def fitsM (n k : Int) : Bool := decide (0 ≤ n) && decide (n ≤ most k)
theorem fits_m (n k : Int) (w : World) (hk : k = 0 ∨ k = 1 ∨ k = 2) :
    Calls Try.prog 18 #[.int .i64 n, .int .i64 k] w (Gives w (.bool (fitsM n k))) := fits_any n k w hk
theorem kA_in (op : Int) : kA op = 0 ∨ kA op = 1 ∨ kA op = 2 := by
  unfold kA; repeat' split
  all_goals simp
theorem kB_in (op : Int) : kB op = 0 ∨ kB op = 1 ∨ kB op = 2 := by
  unfold kB; repeat' split
  all_goals simp
theorem kC_in (op : Int) : kC op = 0 ∨ kC op = 1 ∨ kC op = 2 := by
  unfold kC; repeat' split
  all_goals simp

theorem wrap_i8_eq (n : Int) : IntKind.i8.wrap n = (n + 128) % 256 - 128 := by
  simp [IntKind.wrap, IntKind.bits, IntKind.signed]
  split <;> omega
def dispM (c : Int) : Int := (c + 128) % 256 - 128
theorem disp_any (c : Int) (w : World) :
    Calls Try.prog 16 #[.int .i64 c] w fun e w' => e = .returned (.int .i64 (dispM c)) ∧ w' = w := by
  go_enter Try.func16, Try.ntmps16
  go_wp2
  go_ret
  refine ⟨ret_int ?_, rfl⟩
  rw [wrap_i8_eq]; unfold wrap64 dispM; omega

def wordOk (op a b c i : Int) : Bool := !(isaClass op == 0) && fitsM a (kA op) && fitsM b (kB op) && fitsM c (kC op) && (!(i != 0) || isaTwo op)
def wordVal (op a b c : Int) : Int := op * 16777216 + a * 65536 + b * 256 + c

theorem class_in {op : Int} (h : (isaClass op == 0) = false) : 1 ≤ op ∧ op ≤ 96 := by
  have : isaClass op ≠ 0 := by simpa using h
  unfold isaClass at this
  repeat' split at this
  all_goals omega
theorem fits_in {n k : Int} (h : fitsM n k = true) : 0 ≤ n ∧ n ≤ 255 := by
  unfold fitsM most at h; simp only [Bool.and_eq_true, decide_eq_true_eq] at h
  obtain ⟨h1, h2⟩ := h
  repeat' split at h2
  all_goals omega

theorem wraps32 (n : Int) (h₀ : 0 ≤ n) (h₁ : n < 2 ^ 32) : IntKind.u32.wrap n = n := by rw [IntKind.wrap_u32]; omega
theorem u32_or_hi (i : Nat) (x y : Int) (hx₀ : 0 ≤ x) (hx : x % 2 ^ i = 0) (hx₁ : x < 2 ^ 32) (hy₀ : 0 ≤ y) (hy : y < 2 ^ i) (hy₁ : y < 2 ^ 32) : bits .or .u32 x y = x + y :=
  bits_join .u32 32 (by decide) wraps32 i x y hx₀ hx hx₁ hy₀ hy hy₁

theorem word_bits {op a b c : Int} (ho : 1 ≤ op ∧ op ≤ 255) (ha : 0 ≤ a ∧ a ≤ 255) (hb : 0 ≤ b ∧ b ≤ 255) (hc : 0 ≤ c ∧ c ≤ 255) :
    bits BinOp.or IntKind.u32 (bits BinOp.or IntKind.u32 (bits BinOp.or IntKind.u32 (op % 4294967296 * 16777216 % 4294967296) (a % 4294967296 * 65536 % 4294967296)) (b % 4294967296 * 256 % 4294967296)) (c % 4294967296) = wordVal op a b c := by
  have e1 : op % 4294967296 * 16777216 % 4294967296 = op * 16777216 := by omega
  have e2 : a % 4294967296 * 65536 % 4294967296 = a * 65536 := by omega
  have e3 : b % 4294967296 * 256 % 4294967296 = b * 256 := by omega
  have e4 : c % 4294967296 = c := by omega
  rw [e1, e2, e3, e4]
  rw [u32_or_hi 24 (op * 16777216) (a * 65536) (by omega) (by omega) (by omega) (by omega) (by omega) (by omega)]
  rw [u32_or_hi 16 (op * 16777216 + a * 65536) (b * 256) (by omega) (by omega) (by omega) (by omega) (by omega) (by omega)]
  rw [u32_or_hi 8 (op * 16777216 + a * 65536 + b * 256) c (by omega) (by omega) (by omega) (by omega) (by omega) (by omega)]
  rfl
end Go.Proofs.Ytgnaefaibgjjoaa
