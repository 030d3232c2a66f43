/- Contracts that the proofs use. -/
import Derived.Test.YtceebkojjmmjmaaDoorQCoreM
set_option linter.unusedVariables false
set_option linter.unusedSimpArgs false
namespace Go.Fac
open Go.RowKit Go.Sy
def tkL0 (n : Int) (l : List Int) (e : FErr) : List Int := if e.isErr = true then l else if (l.length : Int) < n then l else l.drop n.toNat
def tkE0 (n : Int) (l : List Int) (e : FErr) : FErr := if e.isErr = true then e else if (l.length : Int) < n then .bare 101 else e
def tkX0 (n : Int) (l : List Int) (e : FErr) : List Int := if e.isErr = true then [] else if (l.length : Int) < n then [] else l.take n.toNat
def tkL (n : Int) (l : List Int) (e : FErr) : List Int := hide (tkL0 n l e)
def tkE (n : Int) (l : List Int) (e : FErr) : FErr := hide (tkE0 n l e)
def tkX (n : Int) (l : List Int) (e : FErr) : List Int := hide (tkX0 n l e)
theorem tkL_is (n : Int) (l : List Int) (e : FErr) : tkL n l e = if e.isErr = true then l else if (l.length : Int) < n then l else l.drop n.toNat := hide_eq _
theorem tkE_is (n : Int) (l : List Int) (e : FErr) : tkE n l e = if e.isErr = true then e else if (l.length : Int) < n then .bare 101 else e := hide_eq _
theorem tkX_is (n : Int) (l : List Int) (e : FErr) : tkX n l e = if e.isErr = true then [] else if (l.length : Int) < n then [] else l.take n.toNat := hide_eq _
theorem tkX_len {n : Int} {l : List Int} {e : FErr} (hn : 0 ≤ n) (h : (tkE n l e).isErr = false) : (tkX n l e).length = n.toNat := by
  rw [tkE_is] at h; rw [tkX_is]
  split at h
  · rename_i h1; rw [h1] at h; cases h
  · rename_i h1
    rw [if_neg h1]
    split at h
    · cases h
    · rename_i h2; rw [if_neg h2, List.length_take]; omega
theorem tkX_le (n : Int) (l : List Int) (e : FErr) : (tkX n l e).length ≤ n.toNat := by
  rw [tkX_is]; split
  · simp
  · split
    · simp
    · rw [List.length_take]; omega
def accW0 (x : List Int) : Nat → Int
  | 0 => 0
  | i + 1 => bits .or .u32 (accW0 x i) (IntKind.u32.wrap (x.getD i 0 * 2 ^ min (8 * i) 32))
def accW (x : List Int) (i : Nat) : Int := hide (accW0 x i)
theorem accW_zero (x : List Int) : accW x 0 = 0 := hide_eq _
theorem accW_succ (x : List Int) (i : Nat) : accW x (i + 1) = bits .or .u32 (accW x i) (IntKind.u32.wrap (x.getD i 0 * 2 ^ min (8 * i) 32)) := by
  unfold accW; rw [hide_eq, hide_eq]; rfl
def w4L (l : List Int) (e : FErr) : List Int := tkL 4 l e
def w4E (l : List Int) (e : FErr) : FErr := tkE 4 l e
def w4W (l : List Int) (e : FErr) : Int := hide (if (tkE 4 l e).isErr = true then 0 else accW (tkX 4 l e) 4)
theorem w4W_is (l : List Int) (e : FErr) : w4W l e = if (tkE 4 l e).isErr = true then 0 else accW (tkX 4 l e) 4 := hide_eq _
def upE (top : Int) (x : FErr) (l : List Int) (e : FErr) : FErr := hide (if (w4E l e).isErr = false ∧ top < w4W l e then x else w4E l e)
def upN (top : Int) (l : List Int) (e : FErr) : Int := hide (if (w4E l e).isErr = false ∧ top < w4W l e then 0 else w4W l e)
theorem upE_is (top : Int) (x : FErr) (l : List Int) (e : FErr) : upE top x l e = if (w4E l e).isErr = false ∧ top < w4W l e then x else w4E l e := hide_eq _
theorem upN_is (top : Int) (l : List Int) (e : FErr) : upN top l e = if (w4E l e).isErr = false ∧ top < w4W l e then 0 else w4W l e := hide_eq _
theorem bits_in (op : BinOp) (x y : Int) : 0 ≤ bits op .u32 x y ∧ bits op .u32 x y < 4294967296 := by
  unfold bits
  split <;> rw [IntKind.wrap_u32] <;> omega
theorem accW_in (x : List Int) (i : Nat) : 0 ≤ accW x i ∧ accW x i < 4294967296 := by
  cases i with
  | zero => rw [accW_zero]; omega
  | succ i => rw [accW_succ]; exact bits_in _ _ _
theorem w4W_in (l : List Int) (e : FErr) : 0 ≤ w4W l e ∧ w4W l e < 4294967296 := by
  rw [w4W_is]; split
  · omega
  · exact accW_in _ _
theorem upN_le {top : Int} (h : 0 ≤ top) (l : List Int) (e : FErr) : 0 ≤ upN top l e ∧ upN top l e ≤ top := by
  have hw := w4W_in l e
  rw [upN_is]; split
  · omega
  · rename_i hn
    cases he : (w4E l e).isErr with
    | true =>
      have : w4W l e = 0 := by rw [w4W_is]; exact if_pos he
      omega
    | false =>
      have : ¬ top < w4W l e := fun hc => hn ⟨he, hc⟩
      omega
def itS0 {α : Type} (fL : List Int → FErr → List Int) (fE : List Int → FErr → FErr) (fX : List Int → FErr → α) (l : List Int) (e : FErr) : Nat → List Int × FErr × List α
  | 0 => (l, e, [])
  | i + 1 =>
    let s := itS0 fL fE fX l e i
    if s.2.1.isErr = true then s else (fL s.1 s.2.1, fE s.1 s.2.1, s.2.2 ++ [fX s.1 s.2.1])
def itS {α : Type} (fL : List Int → FErr → List Int) (fE : List Int → FErr → FErr) (fX : List Int → FErr → α) (l : List Int) (e : FErr) (i : Nat) : List Int × FErr × List α := hide (itS0 fL fE fX l e i)
section
variable {α : Type} {fL : List Int → FErr → List Int} {fE : List Int → FErr → FErr} {fX : List Int → FErr → α} {l : List Int} {e : FErr}
theorem itS_zero : itS fL fE fX l e 0 = (l, e, []) := hide_eq _
theorem itS_succ (i : Nat) : itS fL fE fX l e (i + 1) = if (itS fL fE fX l e i).2.1.isErr = true then itS fL fE fX l e i else (fL (itS fL fE fX l e i).1 (itS fL fE fX l e i).2.1, fE (itS fL fE fX l e i).1 (itS fL fE fX l e i).2.1, (itS fL fE fX l e i).2.2 ++ [fX (itS fL fE fX l e i).1 (itS fL fE fX l e i).2.1]) := by
  unfold itS; rw [hide_eq, hide_eq]; rfl
theorem itS_stuck {i j : Nat} (h : (itS fL fE fX l e i).2.1.isErr = true) (hij : i ≤ j) : itS fL fE fX l e j = itS fL fE fX l e i := by
  induction j with
  | zero => rw [Nat.le_zero.1 hij]
  | succ j ih =>
    by_cases hj : i = j + 1
    · rw [hj]
    · have := ih (by omega)
      rw [itS_succ, this, if_pos h]
theorem itS_len (i : Nat) : (itS fL fE fX l e i).2.2.length ≤ i := by
  induction i with
  | zero => rw [itS_zero]; exact Nat.le_refl _
  | succ i ih =>
    rw [itS_succ]; split
    · omega
    · rw [List.length_append]; simp; omega
end
abbrev itP {α : Type} (fL : List Int → FErr → List Int) (fE : List Int → FErr → FErr) (fX : List Int → FErr → α) (l : List Int) (e : FErr) (i : Nat) : Bool := (itS fL fE fX l e i).2.1.isErr
end Go.Fac

