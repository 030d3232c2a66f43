/- Contracts. -/
import Derived.Test.YtpjccdncokamlaaGreatDoorQE6
set_option linter.unusedVariables false
set_option linter.unusedSimpArgs false
namespace Go.Sy
open Go.RowKit
def isZ : SI → Bool
  | .lit n => decide (n = 0)
  | .full n => decide (n = 0)
  | .sym .. => false
def zero1 : SVal → Value → Bool
  | .int k a, .int k' n => kEq k k' && isZ a && decide (n = 0)
  | .bool b, .bool c => decide (b.val = c)
  | .str a, .string b => decide (a.data.toList = []) && decide (b.data.toList = [])
  | .nilptr, .pointer none => true
  | .nilslice, .slice none 0 0 => true
  | .nilIface, .nilIface => true
  | .err .fine, .nilIface => true
  | .nilFunc, .nilFunc => true
  | .nilmap, .map none => true
  | _, _ => false
def zeroC : List SVal → List Value → Bool
  | [], [] => true
  | s :: l, v :: vs => zero1 s v && zeroC l vs
  | _, _ => false
def zeroA : SVal → List Value → Bool
  | .arr t n xs, vs => Nat.beq xs.length n && zeroC (xs.flatMap t.enc) vs
  | _, _ => false
def zeroL : List SVal → List Value → Bool
  | [], [] => true
  | s :: l, vs => match s.isArr, vs with
    | true, vs => zeroA s (vs.take s.width) && zeroL l (vs.drop s.width)
    | false, v :: vs => zero1 s v && zeroL l vs
    | _, _ => false
  | _, _ => false
def zeroV : SVal → Value → Bool
  | .agg l, .agg cs => zeroL l cs.toList
  | .arr t n xs, .agg cs => zeroA (.arr t n xs) cs.toList
  | s, v => zero1 s v
theorem ba_ext {a b : ByteArray} (h : a.data.toList = b.data.toList) : a = b := by
  cases a; cases b; simp at h; rw [h]
theorem zero1_ok {s : SVal} {v : Value} (h : zero1 s v = true) (C : Ctx) (W : World) (R : Nat → Prop) (ρ : Nat → Option Value) : Den C W R ρ s v ∧ s.isArr = false ∧ v.oneCell' = true := by
  unfold zero1 at h
  split at h
  · rename_i k a k' n
    simp only [Bool.and_eq_true, decide_eq_true_eq] at h
    obtain ⟨⟨h1, h2⟩, rfl⟩ := h
    have : k = k' := by cases k <;> cases k' <;> first | rfl | cases h1
    subst this
    have : a.val = 0 := by
      cases a <;> simp [isZ] at h2 <;> simpa [SI.val] using h2
    refine ⟨?_, rfl, rfl⟩
    rw [← this]
    refine .int _ _ ?_
    cases a with
    | lit n => simp [isZ] at h2; subst h2; constructor <;> cases k <;> decide
    | full n => simp [isZ] at h2; subst h2; constructor <;> cases k <;> decide
    | sym => simp [isZ] at h2
  · rename_i b c
    have := of_decide_eq_true h
    subst this
    exact ⟨.bool b, rfl, rfl⟩
  · rename_i a b
    simp only [Bool.and_eq_true, decide_eq_true_eq] at h
    have : a = b := ba_ext (h.1.trans h.2.symm)
    subst this
    refine ⟨.str _ ?_, rfl, rfl⟩
    have : a.size = 0 := by show a.data.size = 0; rw [← Array.length_toList, h.1]; rfl
    rw [this]; exact Nat.zero_le _
  · exact ⟨.nilptr, rfl, rfl⟩
  · exact ⟨.nilslice, rfl, rfl⟩
  · exact ⟨.nilIface, rfl, rfl⟩
  · exact ⟨.fine, rfl, rfl⟩
  · exact ⟨.nilFunc, rfl, rfl⟩
  · exact ⟨.nilmap, rfl, rfl⟩
  · cases h
theorem zeroC_ok : ∀ {l : List SVal} {vs : List Value}, zeroC l vs = true → ∀ (C : Ctx) (W : World) (R : Nat → Prop) (ρ : Nat → Option Value), DenL C W R ρ l vs
  | [], [], _, _, _, _, _ => .nil
  | s :: l, v :: vs, h, C, W, R, ρ => by
    simp only [zeroC, Bool.and_eq_true] at h
    obtain ⟨h1, h2, h3⟩ := zero1_ok h.1 C W R ρ
    exact .one _ _ _ _ h2 h3 h1 (zeroC_ok h.2 C W R ρ)
  | [], _ :: _, h, _, _, _, _ => by cases h
  | _ :: _, [], h, _, _, _, _ => by cases h
theorem zeroA_ok {s : SVal} {vs : List Value} (h : zeroA s vs = true) : ∃ t n xs, s = .arr t n xs ∧ xs.length = n ∧ ∀ (C : Ctx) (W : World) (R : Nat → Prop) (ρ : Nat → Option Value), DenL C W R ρ (xs.flatMap t.enc) vs := by
  unfold zeroA at h
  split at h
  · rename_i t n xs
    rw [Bool.and_eq_true] at h
    exact ⟨t, n, xs, rfl, Nat.eq_of_beq_eq_true h.1, zeroC_ok h.2⟩
  · cases h
theorem zeroL_ok : ∀ {l : List SVal} {vs : List Value}, zeroL l vs = true → ∀ (C : Ctx) (W : World) (R : Nat → Prop) (ρ : Nat → Option Value), DenL C W R ρ l vs
  | [], [], _, _, _, _, _ => .nil
  | s :: l, vs, h, C, W, R, ρ => by
    unfold zeroL at h
    split at h
    · rw [Bool.and_eq_true] at h
      obtain ⟨t, n, xs, rfl, h1, h2⟩ := zeroA_ok h.1
      have := DenL.arr t n xs _ l _ h1 (h2 C W R ρ) (zeroL_ok h.2 C W R ρ)
      rwa [List.take_append_drop] at this
    · rw [Bool.and_eq_true] at h
      obtain ⟨h1, h2, h3⟩ := zero1_ok h.1 C W R ρ
      exact .one _ _ _ _ h2 h3 h1 (zeroL_ok h.2 C W R ρ)
    · cases h
  | [], _ :: _, h, _, _, _, _ => by cases h
theorem zeroV_ok {s : SVal} {v : Value} (h : zeroV s v = true) (C : Ctx) (W : World) (R : Nat → Prop) (ρ : Nat → Option Value) : Den C W R ρ s v := by
  unfold zeroV at h
  split at h
  · rename_i l cs
    have := zeroL_ok h C W R ρ
    exact .agg l cs.toList this
  · rename_i t n xs cs
    obtain ⟨t', n', xs', e, h1, h2⟩ := zeroA_ok h
    cases e
    exact .arr t n xs cs.toList h1 (h2 C W R ρ)
  · exact (zero1_ok h C W R ρ).1
theorem ti_mk {P : Program} {t : Nat} {ti : TI} {d : TypeDesc} {i : TypeInfo} {z : Value} (h1 : P.underlying t = some d) (h2 : TDOk P d ti.d) (h3 : P.info? t = some i)
    (h4 : (i.size.beq ti.size && i.bytes.beq ti.bytes && z.cells.size.beq ti.size && zeroV ti.zero z && !ti.zero.isAgg) = true) (h5 : i.zero = some z)
    (h6 : (match ti.rt with | none => true | some u => ti.size.beq u.w && Nat.ble 1 u.w && Nat.ble ti.bytes 1024 && zeroC (u.enc u.dflt) z.cells.toList) = true) : TiOk P t ti := by
  simp only [Bool.and_eq_true, Bool.not_eq_true'] at h4
  obtain ⟨⟨⟨⟨a1, a2⟩, a3⟩, a4⟩, a5⟩ := h4
  refine ⟨⟨d, h1, h2⟩, ⟨i, z, h3, Nat.eq_of_beq_eq_true a1, Nat.eq_of_beq_eq_true a2, h5, Nat.eq_of_beq_eq_true a3, zeroV_ok a4, fun u hu => ?_⟩, a5⟩
  rw [hu] at h6
  simp only [Bool.and_eq_true] at h6
  exact ⟨Nat.eq_of_beq_eq_true h6.1.1.1, Nat.le_of_ble_eq_true h6.1.1.2, Nat.le_of_ble_eq_true h6.1.2, zeroC_ok h6.2⟩
end Go.Sy

