/- Contracts. -/
import Derived.Test.YtpjccdncokamlaaGreatDoorQIsaM
import Derived.Test.YtpjccdncokamlaaGreatDoorQE2
set_option linter.unusedVariables false
set_option linter.unusedSimpArgs false
namespace Go.Fac
open Go.RowKit Go.Sy
def ofF (w imm : Int) : In5 := if ofOk w = true then ⟨w / 16777216, w / 65536 % 256, w / 256 % 256, w % 256, ofImm w imm⟩ else ⟨0, 0, 0, 0, 0⟩
def inM (l : List Int) (a : Int) : Bool := decide (0 ≤ a) && decide (a < l.length)
def rd (l : List Int) (a : Int) : Int := if inM l a = true then l.getD a.toNat 0 else 0
def wr (l : List Int) (a w : Int) : List Int := if inM l a = true then l.set a.toNat w else l
theorem wr_len (l : List Int) (a w : Int) : (wr l a w).length = l.length := by unfold wr; split <;> simp
theorem inM_iff {l : List Int} {a : Int} : inM l a = true ↔ 0 ≤ a ∧ a < l.length := by unfold inM; simp
theorem and_bit {w : Int} (h : 0 ≤ w ∧ w < 4294967296) (i : Nat) (hi : i < 32) : bits .and .u32 w ((2 ^ i : Nat) : Int) = w / ((2 ^ i : Nat) : Int) % 2 * ((2 ^ i : Nat) : Int) := by
  obtain ⟨n, rfl⟩ := Int.eq_ofNat_of_zero_le h.1
  have hn : n < 2 ^ 32 := by omega
  have hp : 2 ^ i < 2 ^ 32 := Nat.pow_lt_pow_right (by decide) hi
  have h1 := (bits_nat .u32 32 (by decide) wraps32 n (2 ^ i) hn hp).1
  have key : n &&& 2 ^ i = n / 2 ^ i % 2 * 2 ^ i := by
    have hb : n.testBit i = decide (n / 2 ^ i % 2 = 1) := Nat.testBit_eq_decide_div_mod_eq
    rcases Nat.mod_two_eq_zero_or_one (n / 2 ^ i) with e | e
    · rw [e, Nat.zero_mul]
      apply Nat.eq_of_testBit_eq; intro j
      rw [Nat.testBit_and, Nat.testBit_two_pow, Nat.zero_testBit]
      by_cases hj : i = j
      · subst hj; rw [hb, e]; rfl
      · simp [hj]
    · rw [e, Nat.one_mul]
      apply Nat.eq_of_testBit_eq; intro j
      rw [Nat.testBit_and, Nat.testBit_two_pow]
      by_cases hj : i = j
      · subst hj; rw [hb, e]; rfl
      · simp [hj]
  rw [h1, key]
  simp
theorem and2 {w : Int} (h : 0 ≤ w ∧ w < 4294967296) : bits .and .u32 w 2 = w / 2 % 2 * 2 := and_bit h 1 (by decide)
theorem and4 {w : Int} (h : 0 ≤ w ∧ w < 4294967296) : bits .and .u32 w 4 = w / 4 % 2 * 4 := and_bit h 2 (by decide)
theorem or_low {f : Int} (hf : 0 ≤ f ∧ f < 16777216) (y z : Nat) (hy : y < 256) (hz : z < 256) : bits .or .u32 (f * 256 + (y : Int)) (z : Int) = f * 256 + ((y ||| z : Nat) : Int) := by
  obtain ⟨n, rfl⟩ := Int.eq_ofNat_of_zero_le hf.1
  have hn : n < 16777216 := by omega
  have e : ∀ b, b < 256 → n * 256 + b = n <<< 8 ||| b := fun b hb => by
    have := Nat.shiftLeft_add_eq_or_of_lt (i := 8) (b := b) hb n
    rw [← this, Nat.shiftLeft_eq]
  have hx : n * 256 + y < 2 ^ 32 := by omega
  have hz' : z < 2 ^ 32 := by omega
  have h1 := (bits_nat .u32 32 (by decide) wraps32 (n * 256 + y) z hx hz').2
  have hyz : y ||| z < 2 ^ 8 := Nat.or_lt_two_pow hy hz
  have h2 : (n * 256 + y) ||| z = n * 256 + (y ||| z) := by rw [e y hy, Nat.or_assoc, ← e _ hyz]
  rw [h2] at h1
  have c1 : ((n : Int) * 256 + (y : Int)) = ((n * 256 + y : Nat) : Int) := by omega
  rw [c1, h1]; omega
theorem or_lows {f : Int} (hf : 0 ≤ f ∧ f < 16777216) : bits .or .u32 (f * 256) 1 = f * 256 + 1 ∧ bits .or .u32 (f * 256) 2 = f * 256 + 2 ∧ bits .or .u32 (f * 256) 4 = f * 256 + 4 ∧ bits .or .u32 (f * 256 + 1) 2 = f * 256 + 3 ∧
    bits .or .u32 (f * 256 + 1) 4 = f * 256 + 5 ∧ bits .or .u32 (f * 256 + 2) 4 = f * 256 + 6 ∧ bits .or .u32 (f * 256 + 3) 4 = f * 256 + 7 := by
  have h := fun y z hy hz => or_low hf y z hy hz
  have h0 : f * 256 + ((0 : Nat) : Int) = f * 256 := by omega
  refine ⟨?_, ?_, ?_, h 1 2 (by decide) (by decide), h 1 4 (by decide) (by decide), h 2 4 (by decide) (by decide), h 3 4 (by decide) (by decide)⟩
  · have := h 0 1 (by decide) (by decide); rw [h0] at this; exact this
  · have := h 0 2 (by decide) (by decide); rw [h0] at this; exact this
  · have := h 0 4 (by decide) (by decide); rw [h0] at this; exact this
def b2i (b : Bool) : Int := if b = true then 1 else 0
def bitsOk (f : Int) (t w u : Bool) : Bool := decide (0 ≤ f) && decide (f < 1024) && (t || (decide (f = 0) && !w && !u))
def bitsW (f : Int) (t w u : Bool) : Int := if bitsOk f t w u = true then f * 256 + b2i t + 2 * b2i w + 4 * b2i u else 0
def enOk (w : Int) : Bool := decide (w = 0) || (decide (w % 2 = 1) && decide (w / 8 % 32 = 0) && decide (w / 256 < 1024))
def enF (w : Int) : Int := if enOk w = true then w / 256 else 0
def enT (w : Int) : Bool := enOk w && decide (w % 2 = 1)
def enW (w : Int) : Bool := enOk w && decide (w / 2 % 2 = 1)
def enU (w : Int) : Bool := enOk w && decide (w / 4 % 2 = 1)
theorem en_zero : enF 0 = 0 ∧ enT 0 = false ∧ enW 0 = false ∧ enU 0 = false := by decide
theorem enF_in {w : Int} (h : 0 ≤ w) : 0 ≤ enF w ∧ enF w ≤ 1023 := by
  unfold enF; split
  · rename_i h1
    unfold enOk at h1
    simp only [Bool.or_eq_true, Bool.and_eq_true, decide_eq_true_eq] at h1
    omega
  · omega
theorem bits_back {w : Int} (h : 0 ≤ w) : (bitsOk (w / 256) (decide (w % 2 = 1)) (decide (w / 2 % 2 = 1)) (decide (w / 4 % 2 = 1)) && decide (bitsW (w / 256) (decide (w % 2 = 1)) (decide (w / 2 % 2 = 1)) (decide (w / 4 % 2 = 1)) = w)) = enOk w := by
  rw [Bool.eq_iff_iff]
  unfold enOk bitsW
  cases hb : bitsOk (w / 256) (decide (w % 2 = 1)) (decide (w / 2 % 2 = 1)) (decide (w / 4 % 2 = 1)) with
  | false =>
    unfold bitsOk at hb
    simp only [Bool.and_eq_false_iff, Bool.or_eq_false_iff, decide_eq_false_iff_not, Bool.not_eq_false', decide_eq_true_eq] at hb
    simp only [Bool.false_and, Bool.or_eq_true, Bool.and_eq_true, decide_eq_true_eq]
    constructor
    · intro h; cases h
    · intro h1; exfalso; omega
  | true =>
    unfold bitsOk at hb
    simp only [Bool.and_eq_true, Bool.or_eq_true, decide_eq_true_eq, Bool.not_eq_true', decide_eq_false_iff_not] at hb
    simp only [if_true, Bool.true_and, Bool.or_eq_true, Bool.and_eq_true, decide_eq_true_eq, b2i]
    constructor
    · intro h1
      repeat' split at h1
      all_goals omega
    · intro h1
      repeat' split
      all_goals omega
def frN (l : List Int) : Int := l.length / 16
def entOk (l : List Int) (f i : Int) : Bool := decide (0 ≤ f) && decide (f < frN l) && enT (rd l (f * 16 + i))
def entW (l : List Int) (f i : Int) : Int := if entOk l f i = true then rd l (f * 16 + i) else 0
def pgOk (l : List Int) (root p : Int) : Bool := decide (0 ≤ p) && decide (p < 256) && (entOk l root (p / 16) && entOk l (enF (entW l root (p / 16))) (p % 16))
def pgW (l : List Int) (root p : Int) : Int := if pgOk l root p = true then entW l (enF (entW l root (p / 16))) (p % 16) else 0
def wkOk (l : List Int) (root a : Int) (wr us : Bool) : Bool := decide (a < 4096) && (pgOk l root (a / 16) && !(wr && !enW (pgW l root (a / 16))) && !(us && !enU (pgW l root (a / 16))) && decide (enF (pgW l root (a / 16)) < frN l))
def wkA (l : List Int) (root a : Int) (wr us : Bool) : Int := if wkOk l root a wr us = true then enF (pgW l root (a / 16)) * 16 + a % 16 else 0
def wordsIn (l : List Int) : Prop := ∀ x ∈ l, 0 ≤ x ∧ x < 4294967296
theorem rd_in {l : List Int} (h : wordsIn l) (a : Int) : 0 ≤ rd l a ∧ rd l a < 4294967296 := by
  unfold rd; split
  · rename_i h1
    rw [inM_iff] at h1
    rw [List.getD_eq_getElem?_getD, List.getElem?_eq_getElem (by omega : a.toNat < l.length)]
    exact h _ (List.getElem_mem _)
  · omega
theorem entW_in {l : List Int} (h : wordsIn l) (f i : Int) : 0 ≤ entW l f i ∧ entW l f i < 4294967296 := by
  unfold entW; split
  · exact rd_in h _
  · omega
theorem pgW_in {l : List Int} (h : wordsIn l) (r p : Int) : 0 ≤ pgW l r p ∧ pgW l r p < 4294967296 := by
  unfold pgW; split
  · exact entW_in h _ _
  · omega
theorem frN_in (l : List Int) : 0 ≤ frN l ∧ frN l * 16 ≤ l.length := by unfold frN; omega
theorem wkA_in {l : List Int} (h : wordsIn l) (r a : Int) (w u : Bool) (ha : 0 ≤ a) : 0 ≤ wkA l r a w u ∧ wkA l r a w u < 16384 := by
  unfold wkA; split
  · have := enF_in (pgW_in h r (a / 16)).1
    omega
  · omega
theorem wkA_lt {l : List Int} (h : wordsIn l) {r a : Int} {w u : Bool} (ha : 0 ≤ a) (hk : wkOk l r a w u = true) : wkA l r a w u < l.length := by
  have h1 := enF_in (pgW_in h r (a / 16)).1
  have h2 := frN_in l
  unfold wkA; rw [if_pos hk]
  unfold wkOk at hk
  simp only [Bool.and_eq_true, decide_eq_true_eq] at hk
  have := hk.2.2
  omega
end Go.Fac

