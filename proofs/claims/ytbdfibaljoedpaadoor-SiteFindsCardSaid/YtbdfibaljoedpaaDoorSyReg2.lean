/- Regions: the state behind some of the operations. -/
import Derived.Test.YtbdfibaljoedpaaDoorSyReg
set_option linter.unusedVariables false
set_option linter.unusedSimpArgs false
namespace Go.Sy
open Go.RowKit

def lastOf : List Rec → Nat → Option Rec
  | [], _ => none
  | r :: l, d => match isDst r.dst d with
    | true => some r
    | false => lastOf l d

def slotIs (C : Ctx) (W : World) (R : Nat → Prop) (ρ : Nat → Option Value) (fr : List (Nat × SVal)) (l : List Rec) (tmps : Array Value) (d : Nat) : Prop :=
  match lastOf l d with
  | some r => (r.g.val = true → Den C W R ρ r.v (tmps.getD d undef)) ∧ (r.g.val = false → tmps.getD d undef = undef)
  | none => Den C W R ρ ((find d fr).getD .any) (tmps.getD d undef)

/-- What memory holds in truth. -/
def contT (hp : List (Nat × Option Cont)) : List Rec → Nat → Option Cont
  | [], n => (find n hp).getD none
  | r :: l, n => match r.g.val with
    | true => match find n r.ws with
      | some c => c
      | none => contT hp l n
    | false => contT hp l n

structure InvR (C : Ctx) (gl : List (Nat × SVal)) (W0 : World) (R0 own0 : Nat → Prop) (ρs : Nat → Option Value) (fr : List (Nat × SVal)) (hp : List (Nat × Option Cont)) (sz next1 : Nat) (recs : List Rec) (L : Rec → Bool)
    (a : Act) (W : World) (R : Nat → Prop) (ρ : Nat → Option Value) : Prop where
  slots : ∀ d, slotIs C W R ρ fr (recs.filter L) a.tmps d
  mem : Mem C gl W R ρ (contT hp (recs.filter L))
  size : a.tmps.size = sz
  bt : Bt W0 R0 own0 W R (ownOf ρ (contT hp (recs.filter L)))
  fresh : ∀ r ∈ recs, L r = false → ∀ j, j < r.k → ρ (r.next + j) = none
  above : ∀ n, next1 ≤ n → ρ n = none
  defers : a.defers = []
  ext : ∀ n v, ρs n = some v → ρ n = some v

section
variable {p q : Rec → Bool} {recs : List Rec} {hp : List (Nat × Option Cont)}
theorem lastOf_filter {d : Nat} (h : ∀ r ∈ recs, isDst r.dst d = true → p r = q r) : lastOf (recs.filter p) d = lastOf (recs.filter q) d := by
  induction recs with
  | nil => rfl
  | cons r l ih =>
    have ih := ih fun r hr => h r (List.mem_cons_of_mem _ hr)
    cases hd : isDst r.dst d with
    | true =>
      have := h r (List.mem_cons_self ..) hd
      simp only [List.filter_cons, this]
      split
      · simp only [lastOf, hd]
      · exact ih
    | false =>
      simp only [List.filter_cons]
      split <;> split <;> simp only [lastOf, hd, ih]
theorem contT_filter {n : Nat} (h : ∀ r ∈ recs, (∃ c, find n r.ws = some c) → p r = q r) : contT hp (recs.filter p) n = contT hp (recs.filter q) n := by
  induction recs with
  | nil => rfl
  | cons r l ih =>
    have ih := ih fun r hr => h r (List.mem_cons_of_mem _ hr)
    cases hd : find n r.ws with
    | some c =>
      have := h r (List.mem_cons_self ..) ⟨c, hd⟩
      simp only [List.filter_cons, this]
      split
      · simp only [contT, hd, ih]
      · exact ih
    | none =>
      simp only [List.filter_cons]
      split <;> split <;> simp only [contT, hd, ih] <;> split <;> rfl
theorem contT_filter2 {n : Nat} (h : ∀ r ∈ recs, r.g.val = true → (∃ c, find n r.ws = some c) → p r = q r) : contT hp (recs.filter p) n = contT hp (recs.filter q) n := by
  induction recs with
  | nil => rfl
  | cons r l ih =>
    have ih := ih fun r hr => h r (List.mem_cons_of_mem _ hr)
    cases hg : r.g.val with
    | false =>
      simp only [List.filter_cons]
      split <;> split <;> simp only [contT, hg, ih]
    | true =>
      cases hd : find n r.ws with
      | some c =>
        have := h r (List.mem_cons_self ..) hg ⟨c, hd⟩
        simp only [List.filter_cons, this]
        split
        · simp only [contT, hd, ih]
        · exact ih
      | none =>
        simp only [List.filter_cons]
        split <;> split <;> simp only [contT, hd, hg, ih]
theorem slotOf_last (l : List Rec) (d : Nat) : slotOf l d = (lastOf l d).map fun r => (r.key, r.v) := by
  induction l with
  | nil => rfl
  | cons r l ih => simp only [slotOf, lastOf]; split <;> simp_all
end
end Go.Sy
