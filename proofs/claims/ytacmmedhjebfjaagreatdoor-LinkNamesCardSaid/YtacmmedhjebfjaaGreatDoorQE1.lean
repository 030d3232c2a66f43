/- Words that the proofs use, part 1. -/
import Derived.WalkKit
import Derived.Outline
import Derived.Deep.QuietTactic
import Derived.BigQuiet
set_option linter.unusedVariables false
set_option linter.unusedSimpArgs false
namespace Go.Kit
open Go.RowKit
theorem hid {p : Prop} (h : p) : Hid p := h
theorem u32_bd {n : Int} (h : (Lit.int .u32 n).wf = true) : 0 ≤ n ∧ n < 4294967296 := by
 simp [Lit.wf, IntKind.min, IntKind.max, IntKind.signed, IntKind.bits] at h; omega
theorem i64_bd {n : Int} (h : (Lit.int .i64 n).wf = true) : -9223372036854775808 ≤ n ∧ n < 9223372036854775808 := by
 simp [Lit.wf, IntKind.min, IntKind.max, IntKind.signed, IntKind.bits] at h; omega
theorem u8_bd {n : Int} (h : (Lit.int .u8 n).wf = true) : 0 ≤ n ∧ n < 256 := by
 simp [Lit.wf, IntKind.min, IntKind.max, IntKind.signed, IntKind.bits] at h; omega
@[go_sem] theorem lt_two (n : Nat) : (n < n + 1 + 1) = True := eq_true (by omega)
@[go_sem] theorem lt_three (n : Nat) : (n < n + 1 + 1 + 1) = True := eq_true (by omega)
@[go_sem] theorem lt_four (n : Nat) : (n < n + 1 + 1 + 1 + 1) = True := eq_true (by omega)
@[go_sem] theorem lt_five (n : Nat) : (n < n + 1 + 1 + 1 + 1 + 1) = True := eq_true (by omega)
@[go_sem] theorem lt_six (n : Nat) : (n < n + 1 + 1 + 1 + 1 + 1 + 1) = True := eq_true (by omega)
@[go_sem] theorem le_two (n : Nat) : (n ≤ n + 1 + 1) = True := eq_true (by omega)
@[go_sem] theorem le_three (n : Nat) : (n ≤ n + 1 + 1 + 1) = True := eq_true (by omega)
@[go_sem] theorem le_four (n : Nat) : (n ≤ n + 1 + 1 + 1 + 1) = True := eq_true (by omega)
@[go_sem] theorem le_five (n : Nat) : (n ≤ n + 1 + 1 + 1 + 1 + 1) = True := eq_true (by omega)
structure Ext (B n : Nat) (L : List Nat) where
 objs : Array Obj
 drawn : Nat
 low : B ≤ n
 within : ∀ b ∈ L, b < n
def dummy : Obj := .stringIter ByteArray.empty 0
def fit (n : Nat) (h : Array Obj) : Array Obj := Array.ofFn (n := n) fun i => h[i.val]?.getD dummy
def Ext.top {B n : Nat} {L : List Nat} (ex : Ext B n L) : Nat := n + ex.objs.size
end Go.Kit
namespace Go
open Go.Kit
def World.ext {B n : Nat} {L : List Nat} (W : World) (ex : Ext B n L) : World := { W with heap := fit n W.heap ++ ex.objs, drawn := ex.drawn }
end Go
namespace Go.Kit
open Go.RowKit
theorem fit_size (n : Nat) (h : Array Obj) : (fit n h).size = n := by simp [fit]
theorem fit_get (n : Nat) (h : Array Obj) (k : Nat) (hk : k < n) : (fit n h)[k]? = some (h[k]?.getD dummy) := by
 rw [Array.getElem?_eq_getElem (by rw [fit_size]; exact hk)]; simp [fit]
theorem fit_of (h : Array Obj) : fit h.size h = h := by
 apply Array.ext (by rw [fit_size])
 intro i h1 h2
 simp [fit]
section
variable {B n : Nat} {L : List Nat} (W : World) (ex : Ext B n L)
@[go_sem] theorem ext_size : (W.ext ex).heap.size = ex.top := by simp [World.ext, Ext.top, fit_size]
theorem ext_get (k : Nat) (hk : k < n) : (W.ext ex).heap[k]? = some (W.heap[k]?.getD dummy) := by
 show (fit n W.heap ++ ex.objs)[k]? = _
 rw [Array.getElem?_append_left (by rw [fit_size]; exact hk), fit_get _ _ _ hk]
theorem ext_some (k : Nat) (hk : k < n) {o : Obj} (h : W.heap[k]? = some o) : (W.ext ex).heap[k]? = some o := by rw [ext_get W ex k hk, h]; rfl
theorem ext_cell_lt (b o : Nat) (h : b < n) : (W.ext ex).cell? ⟨b, o, none⟩ = W.cell? ⟨b, o, none⟩ := by
 unfold World.cell?; simp only; rw [ext_get W ex b h]
 cases W.heap[b]? <;> rfl
theorem ext_frozen_lt (b o : Nat) (h : b < n) : (W.ext ex).frozen? ⟨b, o, none⟩ = W.frozen? ⟨b, o, none⟩ := by
 unfold World.frozen?; simp only; rw [ext_get W ex b h]
 cases W.heap[b]? <;> rfl
theorem ext_set_lt (b o : Nat) (v : Value) (h : b < n) : (W.ext ex).setCell ⟨b, o, none⟩ v = (W.setCell ⟨b, o, none⟩ v).ext ex := by
 unfold World.setCell World.ext
 congr 1
 apply Array.ext
 ·simp [fit_size]
 ·intro i h1 h2
  apply Option.some.inj
  rw [← Array.getElem?_eq_getElem h1, ← Array.getElem?_eq_getElem h2]
  simp only [Array.getElem?_modify]
  by_cases hi : i < n
  ·rw [Array.getElem?_append_left (by rw [fit_size]; exact hi), fit_get _ _ _ hi, Array.getElem?_append_left (by rw [fit_size]; exact hi), fit_get _ _ _ hi, Array.getElem?_modify]
   by_cases hb : b = i
   ·subst hb
    simp only [if_true, Option.map_some]
    cases W.heap[b]? <;> simp [dummy]
   ·simp [hb]
  ·have hb : ¬ b = i := by omega
   rw [if_neg hb, Array.getElem?_append_right (by rw [fit_size]; omega), Array.getElem?_append_right (by rw [fit_size]; omega), fit_size, fit_size]
variable (b o : Nat)
@[go_sem] theorem ext_cell (h : b ∈ L) : (W.ext ex).cell? ⟨b, o, none⟩ = W.cell? ⟨b, o, none⟩ := ext_cell_lt W ex b o (ex.within b h)
@[go_sem] theorem ext_frozen (h : b ∈ L) : (W.ext ex).frozen? ⟨b, o, none⟩ = W.frozen? ⟨b, o, none⟩ := ext_frozen_lt W ex b o (ex.within b h)
@[go_sem] theorem ext_set (v : Value) (h : b ∈ L) : (W.ext ex).setCell ⟨b, o, none⟩ v = (W.setCell ⟨b, o, none⟩ v).ext ex := ext_set_lt W ex b o v (ex.within b h)
omit o W
theorem ext_in (h : b ∈ L) : b < ex.top := Nat.lt_of_lt_of_le (ex.within b h) (Nat.le_add_right _ _)
@[go_sem] theorem ext_lt (h : b ∈ L) : (b < ex.top) = True := eq_true (ext_in ex b h)
@[go_sem] theorem ext_lt1 (h : b ∈ L) : (b < ex.top + 1) = True := eq_true (by have := ext_in ex b h; omega)
@[go_sem] theorem ext_lt2 (h : b ∈ L) : (b < ex.top + 1 + 1) = True := eq_true (by have := ext_in ex b h; omega)
@[go_sem] theorem ext_lt3 (h : b ∈ L) : (b < ex.top + 1 + 1 + 1) = True := eq_true (by have := ext_in ex b h; omega)
@[go_sem] theorem ext_lt4 (h : b ∈ L) : (b < ex.top + 1 + 1 + 1 + 1) = True := eq_true (by have := ext_in ex b h; omega)
@[go_sem] theorem ext_lt2' (h : b ∈ L) : (b < ex.top + 2) = True := eq_true (by have := ext_in ex b h; omega)
@[go_sem] theorem ext_lt3' (h : b ∈ L) : (b < ex.top + 3) = True := eq_true (by have := ext_in ex b h; omega)
@[go_sem] theorem ext_lt4' (h : b ∈ L) : (b < ex.top + 4) = True := eq_true (by have := ext_in ex b h; omega)
@[go_sem] theorem ext_le (h : b ∈ L) : (b ≤ ex.top) = True := eq_true (Nat.le_of_lt (ext_in ex b h))
@[go_sem] theorem ext_le1 (h : b ∈ L) : (b ≤ ex.top + 1) = True := eq_true (by have := ext_in ex b h; omega)
@[go_sem] theorem ext_le2 (h : b ∈ L) : (b ≤ ex.top + 1 + 1) = True := eq_true (by have := ext_in ex b h; omega)
@[go_sem] theorem ext_ne (h : b ∈ L) : (b = ex.top) = False := eq_false (Nat.ne_of_lt (ext_in ex b h))
@[go_sem] theorem ext_ne' (h : b ∈ L) : (ex.top = b) = False := eq_false (Nat.ne_of_gt (ext_in ex b h))
@[go_sem] theorem ext_ne1 (h : b ∈ L) : (b = ex.top + 1) = False := eq_false (by have := ext_in ex b h; omega)
@[go_sem] theorem ext_ne1' (h : b ∈ L) : (ex.top + 1 = b) = False := eq_false (by have := ext_in ex b h; omega)
@[go_sem] theorem ext_ne2 (h : b ∈ L) : (b = ex.top + 1 + 1) = False := eq_false (by have := ext_in ex b h; omega)
@[go_sem] theorem ext_ne2' (h : b ∈ L) : (ex.top + 1 + 1 = b) = False := eq_false (by have := ext_in ex b h; omega)
theorem ext_low : B ≤ ex.top := Nat.le_trans ex.low (Nat.le_add_right _ _)
omit b
@[go_sem] theorem ext_ge : (B ≤ ex.top) = True := eq_true (ext_low ex)
@[go_sem] theorem ext_ge1 : (B ≤ ex.top + 1) = True := eq_true (by have := ext_low ex; omega)
@[go_sem] theorem ext_ge2 : (B ≤ ex.top + 1 + 1) = True := eq_true (by have := ext_low ex; omega)
@[go_sem] theorem ext_ge3 : (B ≤ ex.top + 1 + 1 + 1) = True := eq_true (by have := ext_low ex; omega)
@[go_sem] theorem ext_gt1 : (B < ex.top + 1) = True := eq_true (by have := ext_low ex; omega)
@[go_sem] theorem ext_gt2 : (B < ex.top + 1 + 1) = True := eq_true (by have := ext_low ex; omega)
@[go_sem] theorem ext_gt3 : (B < ex.top + 1 + 1 + 1) = True := eq_true (by have := ext_low ex; omega)
end
theorem ext_of (B n : Nat) (L : List Nat) {W w : World} (h : Below W.heap.size W w) (hn : W.heap.size = n) (hB : B ≤ n) (hL : ∀ b ∈ L, b < n) : ∃ ex : Ext B n L, w = W.ext ex := by
 subst hn
 refine ⟨⟨w.heap.extract W.heap.size w.heap.size, w.drawn, hB, hL⟩, ?_⟩
 unfold World.ext
 have e : w.heap = fit W.heap.size W.heap ++ w.heap.extract W.heap.size w.heap.size := by
  apply Array.ext
  ·have := h.size; simp [fit_size]; omega
  ·intro i h1 h2
   apply Option.some.inj
   rw [← Array.getElem?_eq_getElem h1, ← Array.getElem?_eq_getElem h2]
   by_cases hi : i < W.heap.size
   ·rw [Array.getElem?_append_left (by rw [fit_size]; exact hi), fit_get _ _ _ hi, h.block i hi, Array.getElem?_eq_getElem hi]; rfl
   ·rw [Array.getElem?_append_right (by rw [fit_size]; omega), fit_size]
    rw [Array.getElem?_extract]
    rw [if_pos (by omega)]
    congr 1; omega
 cases w with
 | mk heap tape drawn os output =>
  have e1 := h.os; have e2 := h.tape; have e3 := h.output
  simp only at e1 e2 e3 e ⊢
  rw [e1, e2, e3, ← e]
theorem ext_below {B n : Nat} {L : List Nat} (W : World) (ex : Ext B n L) (hn : W.heap.size = n) : Below W.heap.size W (W.ext ex) := by
 refine ⟨rfl, rfl, rfl, by rw [ext_size]; unfold Ext.top; omega, fun k hk => ?_⟩
 rw [ext_get W ex k (by omega), Array.getElem?_eq_getElem hk]; rfl
theorem since_refl (w : World) : Below w.heap.size w w := Below.refl _ _
theorem since_alloc {w W : World} (h : Below w.heap.size w W) (o : Obj) : Below w.heap.size w (W.alloc o) := h.alloc h.size o
theorem since_drew {w W : World} (h : Below w.heap.size w W) : Below w.heap.size w W.drew := h.drew
theorem since_drewN {w W : World} (h : Below w.heap.size w W) (n : Nat) : Below w.heap.size w (W.drewN n) := ⟨h.os, h.tape, h.output, h.size, h.block⟩
theorem since_set {w W : World} (h : Below w.heap.size w W) {p : Addr} (hp : w.heap.size ≤ p.block) (u : Value) : Below w.heap.size w (W.setCell p u) := h.setCell hp u
theorem since_ext {w W : World} {n : Nat} {L : List Nat} (h : Below w.heap.size w W) (ex : Ext w.heap.size n L) : Below w.heap.size w (W.ext ex) := by
 refine ⟨h.os, h.tape, h.output, by rw [ext_size]; exact ext_low ex, fun k hk => ?_⟩
 rw [ext_get W ex k (Nat.lt_of_lt_of_le hk ex.low)]
 have := h.block k hk
 rw [this, Array.getElem?_eq_getElem hk]; rfl
def Gives (w : World) (v : Value) (e : Ending) (w' : World) : Prop := e = .returned v ∧ Below w.heap.size w w'
theorem gives {w W : World} {v u : Value} (hv : u = v) (h : Below w.heap.size w W) : Gives w v (.returned u) W := ⟨by rw [hv], h⟩
theorem wp_region_ext (B n : Nat) (L : List Nat) {P : Program} {id : Nat} {Q : Exit → Act → World → Prop} {a : Act} {w : World} {l : List Oper} (hm : P.follows .mixedOrders = true) (hB : Region.lexB .any l.toArray = true)
  (hn : w.heap.size = n) (hlow : B ≤ n) (hL : ∀ b ∈ L, b < n)
  (h : Nonempty (Ext B n L) → wpQuiet P l.toArray (fun w' => ∃ g : Ext B n L, w' = w.ext g) (fun a' => ∀ g : Ext B n L, Q .normal a' (w.ext g)) l a) : (Code.region id l.toArray true).wp P Q a w :=
 wp_region_quiet (C := fun w' => ∃ g : Ext B n L, w' = w.ext g) hm hB (ext_of B n L (since_drew (since_refl w)) hn hlow hL) (by
  have e : (fun a' : Act => ∀ w', (∃ g : Ext B n L, w' = w.ext g) → Q .normal a' w') = (fun a' => ∀ g : Ext B n L, Q .normal a' (w.ext g)) := by
   funext a'; exact propext ⟨fun h g => h _ ⟨g, rfl⟩, fun h w' ⟨g, e⟩ => e ▸ h g⟩
  rw [e]; simpa using h ⟨⟨#[], 0, hlow, hL⟩⟩)
theorem quiet_ext {P : Program} {f : FuncId} {args : Array Value} {W : World} {B n : Nat} {L : List Nat} {g : Ext B n L} {v : Value} (hn : W.heap.size = n)
  (h : Calls P f args (W.ext g) (Gives (W.ext g) v)) : Calls P f args (W.ext g) fun e w'' => e = .returned v ∧ ∃ g : Ext B n L, w'' = W.ext g :=
 h.mono fun _ w' ⟨he, k⟩ => ⟨he, ext_of B n L ((ext_below W g hn).trans (k.mono (ext_below W g hn).size)) hn g.low g.within⟩
theorem quiet_same {P : Program} {f : FuncId} {args : Array Value} {W : World} {B n : Nat} {L : List Nat} {g : Ext B n L} {v : Value}
  (h : Calls P f args (W.ext g) fun e w' => e = .returned v ∧ w' = W.ext g) : Calls P f args (W.ext g) fun e w'' => e = .returned v ∧ ∃ g : Ext B n L, w'' = W.ext g :=
 h.mono fun _ _ ⟨he, hk⟩ => ⟨he, g, hk⟩
end Go.Kit
