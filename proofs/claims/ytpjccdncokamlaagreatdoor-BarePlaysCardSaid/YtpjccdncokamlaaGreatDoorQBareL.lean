/- Contracts. -/
import Derived.Test.YtpjccdncokamlaaGreatDoorQBareP
set_option linter.unusedVariables false
set_option linter.unusedSimpArgs false
namespace Go.Fac
open Go.RowKit Go.Sy
theorem onceL_len' (l : List Int) (root : Int) (c : Cpu) (us : Bool) : (onceL l root c us).length = l.length := by
  rw [onceL_def]; split
  · rw [plainL_def]; split
    · exact wr_len _ _ _
    · rfl
  · rfl
theorem enterM_l (b : Mc) (k a : Int) : (enterM b k a).l = b.l := by
  rw [enterM_def]; unfold enterM0; split <;> rfl
theorem putM_len (b : Mc) (x y : Int) : (putM b x y).l.length = b.l.length := by
  rw [putM_def]; unfold putM0
  split
  · split
    · exact syncL_len _ _
    · rfl
  · rfl
theorem supM_len (p : Bool) (b : Mc) (s : Stp) : (supM p b s).l.length = b.l.length := by
  rw [supM_def]; unfold supM0
  split
  · exact putM_len _ _ _
  · split
    · exact syncL_len _ _
    · rfl
theorem intrM_l (p : Bool) (b : Mc) : (intrM p b).l = b.l := by
  rw [intrM_def]; unfold intrM0; simp only
  split
  · rfl
  · rw [enterM_l]; split <;> rfl
theorem goM_len (p : Bool) (b : Mc) : (goM p b).l.length = b.l.length := by
  rw [goM_def]; unfold goM0; simp only
  split
  · exact onceL_len' _ _ _ _
  · split
    · rw [supM_len]; exact onceL_len' _ _ _ _
    · split <;> (rw [enterM_l]; exact onceL_len' _ _ _ _)
theorem stepM_len (p : Bool) (b : Mc) : (stepM p b).l.length = b.l.length := by
  rw [stepM_def]; unfold stepM0
  split
  · rfl
  · simp only
    split
    · rw [intrM_l]
    · rw [goM_len, intrM_l]
theorem iterM_len (p : Bool) (b : Mc) : ∀ k, (iterM p b k).l.length = b.l.length
  | 0 => rfl
  | k + 1 => by rw [iterM, stepM_len, iterM_len p b k]
end Go.Fac

