/- Contracts that the proofs use. -/
import Derived.Test.YtceebkojjmmjmaaDoorQE1
set_option linter.unusedVariables false
set_option linter.unusedSimpArgs false
namespace Go.Proofs.YtceebkojjmmjmaaDoor
def idxM (p : Nat → Bool) : Nat → Nat
  | 0 => 0
  | k + 1 => if idxM p k < k then idxM p k else if p k = true then k else k + 1
theorem idxM_le (p : Nat → Bool) : ∀ n, idxM p n ≤ n
  | 0 => Nat.le_refl _
  | n + 1 => by
    have := idxM_le p n
    unfold idxM; split
    · omega
    · split <;> omega
theorem idxM_step {p : Nat → Bool} {i : Nat} (h : idxM p i = i) (hp : p i = false) : idxM p (i + 1) = i + 1 := by
  rw [idxM, h, if_neg (by omega), if_neg (by rw [hp]; simp)]
theorem idxM_hit {p : Nat → Bool} {i n : Nat} (h : idxM p i = i) (hp : p i = true) (hn : i < n) : idxM p n = i := by
  induction n with
  | zero => omega
  | succ n ih =>
    by_cases e : i = n
    · subst e; rw [idxM, h, if_neg (by omega), if_pos hp]
    · have := ih (by omega)
      rw [idxM, this, if_pos (by omega)]
end Go.Proofs.YtceebkojjmmjmaaDoor

