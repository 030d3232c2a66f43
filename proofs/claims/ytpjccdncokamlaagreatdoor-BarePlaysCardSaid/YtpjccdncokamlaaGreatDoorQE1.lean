/- Words. -/
import Derived.WalkKit
import Derived.Outline
import Derived.Deep.QuietTactic
import Derived.BigQuiet
set_option linter.unusedVariables false
set_option linter.unusedSimpArgs false
namespace Go.Kit
open Go.RowKit
@[go_sem] theorem lt_two (n : Nat) : (n < n + 1 + 1) = True := eq_true (by omega)
@[go_sem] theorem lt_three (n : Nat) : (n < n + 1 + 1 + 1) = True := eq_true (by omega)
@[go_sem] theorem lt_four (n : Nat) : (n < n + 1 + 1 + 1 + 1) = True := eq_true (by omega)
@[go_sem] theorem lt_five (n : Nat) : (n < n + 1 + 1 + 1 + 1 + 1) = True := eq_true (by omega)
@[go_sem] theorem lt_six (n : Nat) : (n < n + 1 + 1 + 1 + 1 + 1 + 1) = True := eq_true (by omega)
@[go_sem] theorem le_two (n : Nat) : (n ≤ n + 1 + 1) = True := eq_true (by omega)
@[go_sem] theorem le_three (n : Nat) : (n ≤ n + 1 + 1 + 1) = True := eq_true (by omega)
@[go_sem] theorem le_four (n : Nat) : (n ≤ n + 1 + 1 + 1 + 1) = True := eq_true (by omega)
@[go_sem] theorem le_five (n : Nat) : (n ≤ n + 1 + 1 + 1 + 1 + 1) = True := eq_true (by omega)
structure Ext (B n : Nat) (L : List Nat) where
  objs : Array Obj
  drawn : Nat
  low : B ≤ n
  within : ∀ b ∈ L, b < n
def dummy : Obj := .stringIter ByteArray.empty 0
def fit (n : Nat) (h : Array Obj) : Array Obj := Array.ofFn (n := n) fun i => h[i.val]?.getD dummy
def Ext.top {B n : Nat} {L : List Nat} (ex : Ext B n L) : Nat := n + ex.objs.size
end Go.Kit
namespace Go
open Go.Kit
def World.ext {B n : Nat} {L : List Nat} (W : World) (ex : Ext B n L) : World := { W with heap := fit n W.heap ++ ex.objs, drawn := ex.drawn }
end Go
namespace Go.Kit
open Go.RowKit
theorem fit_size (n : Nat) (h : Array Obj) : (fit n h).size = n := by simp [fit]
theorem fit_get (n : Nat) (h : Array Obj) (k : Nat) (hk : k < n) : (fit n h)[k]? = some (h[k]?.getD dummy) := by
  rw [Array.getElem?_eq_getElem (by rw [fit_size]; exact hk)]; simp [fit]
section
variable {B n : Nat} {L : List Nat} (W : World) (ex : Ext B n L)
@[go_sem] theorem ext_size : (W.ext ex).heap.size = ex.top := by simp [World.ext, Ext.top, fit_size]
theorem ext_get (k : Nat) (hk : k < n) : (W.ext ex).heap[k]? = some (W.heap[k]?.getD dummy) := by
  show (fit n W.heap ++ ex.objs)[k]? = _
  rw [Array.getElem?_append_left (by rw [fit_size]; exact hk), fit_get _ _ _ hk]
theorem ext_cell_lt (b o : Nat) (h : b < n) : (W.ext ex).cell? ⟨b, o, none⟩ = W.cell? ⟨b, o, none⟩ := by
  unfold World.cell?; simp only; rw [ext_get W ex b h]
  cases W.heap[b]? <;> rfl
theorem ext_frozen_lt (b o : Nat) (h : b < n) : (W.ext ex).frozen? ⟨b, o, none⟩ = W.frozen? ⟨b, o, none⟩ := by
  unfold World.frozen?; simp only; rw [ext_get W ex b h]
  cases W.heap[b]? <;> rfl
theorem ext_set_lt (b o : Nat) (v : Value) (h : b < n) : (W.ext ex).setCell ⟨b, o, none⟩ v = (W.setCell ⟨b, o, none⟩ v).ext ex := by
  unfold World.setCell World.ext
  congr 1
  apply Array.ext
  · simp [fit_size]
  · intro i h1 h2
    apply Option.some.inj
    rw [← Array.getElem?_eq_getElem h1, ← Array.getElem?_eq_getElem h2]
    simp only [Array.getElem?_modify]
    by_cases hi : i < n
    · rw [Array.getElem?_append_left (by rw [fit_size]; exact hi), fit_get _ _ _ hi, Array.getElem?_append_left (by rw [fit_size]; exact hi), fit_get _ _ _ hi, Array.getElem?_modify]
      by_cases hb : b = i
      · subst hb
        simp only [if_true, Option.map_some]
        cases W.heap[b]? <;> simp [dummy]
      · simp [hb]
    · have hb : ¬ b = i := by omega
      rw [if_neg hb, Array.getElem?_append_right (by rw [fit_size]; omega), Array.getElem?_append_right (by rw [fit_size]; omega), fit_size, fit_size]
variable (b o : Nat)
@[go_sem] theorem ext_cell (h : b ∈ L) : (W.ext ex).cell? ⟨b, o, none⟩ = W.cell? ⟨b, o, none⟩ := ext_cell_lt W ex b o (ex.within b h)
@[go_sem] theorem ext_frozen (h : b ∈ L) : (W.ext ex).frozen? ⟨b, o, none⟩ = W.frozen? ⟨b, o, none⟩ := ext_frozen_lt W ex b o (ex.within b h)
@[go_sem] theorem ext_set (v : Value) (h : b ∈ L) : (W.ext ex).setCell ⟨b, o, none⟩ v = (W.setCell ⟨b, o, none⟩ v).ext ex := ext_set_lt W ex b o v (ex.within b h)
omit o W
theorem ext_in (h : b ∈ L) : b < ex.top := Nat.lt_of_lt_of_le (ex.within b h) (Nat.le_add_right _ _)
@[go_sem] theorem ext_lt (h : b ∈ L) : (b < ex.top) = True := eq_true (ext_in ex b h)
@[go_sem] theorem ext_lt1 (h : b ∈ L) : (b < ex.top + 1) = True := eq_true (by have := ext_in ex b h; omega)
@[go_sem] theorem ext_lt2 (h : b ∈ L) : (b < ex.top + 1 + 1) = True := eq_true (by have := ext_in ex b h; omega)
@[go_sem] theorem ext_lt3 (h : b ∈ L) : (b < ex.top + 1 + 1 + 1) = True := eq_true (by have := ext_in ex b h; omega)
@[go_sem] theorem ext_lt4 (h : b ∈ L) : (b < ex.top + 1 + 1 + 1 + 1) = True := eq_true (by have := ext_in ex b h; omega)
@[go_sem] theorem ext_lt2' (h : b ∈ L) : (b < ex.top + 2) = True := eq_true (by have := ext_in ex b h; omega)
@[go_sem] theorem ext_lt3' (h : b ∈ L) : (b < ex.top + 3) = True := eq_true (by have := ext_in ex b h; omega)
@[go_sem] theorem ext_lt4' (h : b ∈ L) : (b < ex.top + 4) = True := eq_true (by have := ext_in ex b h; omega)
@[go_sem] theorem ext_le (h : b ∈ L) : (b ≤ ex.top) = True := eq_true (Nat.le_of_lt (ext_in ex b h))
@[go_sem] theorem ext_le1 (h : b ∈ L) : (b ≤ ex.top + 1) = True := eq_true (by have := ext_in ex b h; omega)
@[go_sem] theorem ext_le2 (h : b ∈ L) : (b ≤ ex.top + 1 + 1) = True := eq_true (by have := ext_in ex b h; omega)
@[go_sem] theorem ext_ne (h : b ∈ L) : (b = ex.top) = False := eq_false (Nat.ne_of_lt (ext_in ex b h))
@[go_sem] theorem ext_ne' (h : b ∈ L) : (ex.top = b) = False := eq_false (Nat.ne_of_gt (ext_in ex b h))
@[go_sem] theorem ext_ne1 (h : b ∈ L) : (b = ex.top + 1) = False := eq_false (by have := ext_in ex b h; omega)
@[go_sem] theorem ext_ne1' (h : b ∈ L) : (ex.top + 1 = b) = False := eq_false (by have := ext_in ex b h; omega)
@[go_sem] theorem ext_ne2 (h : b ∈ L) : (b = ex.top + 1 + 1) = False := eq_false (by have := ext_in ex b h; omega)
@[go_sem] theorem ext_ne2' (h : b ∈ L) : (ex.top + 1 + 1 = b) = False := eq_false (by have := ext_in ex b h; omega)
theorem ext_low : B ≤ ex.top := Nat.le_trans ex.low (Nat.le_add_right _ _)
omit b
@[go_sem] theorem ext_ge : (B ≤ ex.top) = True := eq_true (ext_low ex)
@[go_sem] theorem ext_ge1 : (B ≤ ex.top + 1) = True := eq_true (by have := ext_low ex; omega)
@[go_sem] theorem ext_ge2 : (B ≤ ex.top + 1 + 1) = True := eq_true (by have := ext_low ex; omega)
@[go_sem] theorem ext_ge3 : (B ≤ ex.top + 1 + 1 + 1) = True := eq_true (by have := ext_low ex; omega)
@[go_sem] theorem ext_gt1 : (B < ex.top + 1) = True := eq_true (by have := ext_low ex; omega)
@[go_sem] theorem ext_gt2 : (B < ex.top + 1 + 1) = True := eq_true (by have := ext_low ex; omega)
@[go_sem] theorem ext_gt3 : (B < ex.top + 1 + 1 + 1) = True := eq_true (by have := ext_low ex; omega)
end
end Go.Kit
namespace Go.Sy
abbrev RQ (p q : Prop) : Prop := p ∧ (p → q)
abbrev IT (b : Bool) (p q : Prop) : Prop := (b = true → p) ∧ (b = false → q)
end Go.Sy

