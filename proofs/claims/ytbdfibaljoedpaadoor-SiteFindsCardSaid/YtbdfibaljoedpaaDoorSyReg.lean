/- Regions: what stands behind some of the operations. -/
import Derived.Test.YtbdfibaljoedpaaDoorSyBt
set_option linter.unusedVariables false
set_option linter.unusedSimpArgs false
namespace Go.Sy
open Go.RowKit

section
variable {p q : Rec → Bool} {recs : List Rec} {hp : List (Nat × Option Cont)}

theorem slotOf_filter {d : Nat} (h : ∀ r ∈ recs, isDst r.dst d = true → p r = q r) : slotOf (recs.filter p) d = slotOf (recs.filter q) d := by
  induction recs with
  | nil => rfl
  | cons r l ih =>
    have ih := ih fun r hr => h r (List.mem_cons_of_mem _ hr)
    cases hd : isDst r.dst d with
    | true =>
      have := h r (List.mem_cons_self ..) hd
      simp only [List.filter_cons, this]
      split
      · simp only [slotOf, hd]
      · exact ih
    | false =>
      simp only [List.filter_cons]
      split <;> split <;> simp only [slotOf, hd, ih]

theorem contOf_filter {n : Nat} (h : ∀ r ∈ recs, (∃ c, find n r.ws = some c) → p r = q r) : contOf hp (recs.filter p) n = contOf hp (recs.filter q) n := by
  induction recs with
  | nil => rfl
  | cons r l ih =>
    have ih := ih fun r hr => h r (List.mem_cons_of_mem _ hr)
    cases hd : find n r.ws with
    | some c =>
      have := h r (List.mem_cons_self ..) ⟨c, hd⟩
      simp only [List.filter_cons, this]
      split
      · simp only [contOf, hd]
      · exact ih
    | none =>
      simp only [List.filter_cons]
      split <;> split <;> simp only [contOf, hd, ih]
end

/-- What is known of an operation that 'runR' has carried out behind others (the last first). -/
structure Added (E : Env) (ops : List Oper) (fr : List (Nat × SVal)) (hp : List (Nat × Option Cont)) (sz : Nat) (l : List Rec) (r : Rec) (o : Oper) : Prop where
  idx : r.idx = l.length
  op : ops[l.length]? = some o
  dst : r.dst = o.dst
  fit : dstFit sz l o.dst = true
  how : (guardOf l o.guard = some (.lit false) ∧ r.key = none ∧ r.g = .lit false ∧ r.v = .any ∧ r.ws = [] ∧ r.k = 0 ∧ r.tch = []) ∨
    ∃ res : ORes, guardOf l o.guard = some r.g ∧ r.g ≠ .lit false ∧ r.key = (match r.g with | .lit _ => none | .sym _ => o.guard) ∧
      stepR E fr hp l r.next o r.key = .ok (res, r.tch) ∧ r.v = res.v ∧ r.ws = res.ws ∧ r.k = res.k ∧ (∀ p, res.vc = some p → r.g.val = true → p)

inductive Built (E : Env) (ops : List Oper) (fr : List (Nat × SVal)) (hp : List (Nat × Option Cont)) (sz next0 : Nat) : List Rec → Nat → Prop
  | nil : Built E ops fr hp sz next0 [] next0
  | cons (l : List Rec) (r : Rec) (o : Oper) (next : Nat) : Built E ops fr hp sz next0 l next → Added E ops fr hp sz l r o → r.next = next → Built E ops fr hp sz next0 (r :: l) (next + r.k)

theorem vc_of {g : SB} {c : Option Prop} {l : List Prop} (h : ∀ p ∈ vcOf g c l, p) : (∀ p ∈ l, p) ∧ ∀ p, c = some p → g.val = true → p := by
  cases c with
  | none => exact ⟨h, fun p hp => by cases hp⟩
  | some q =>
    cases g with
    | lit b => exact ⟨fun p hp => h p (List.mem_cons_of_mem _ hp), fun p hp _ => by cases hp; exact h _ (List.mem_cons_self ..)⟩
    | sym b => exact ⟨fun p hp => h p (List.mem_cons_of_mem _ hp), fun p hp hg => by cases hp; exact h (b = true → q) (List.mem_cons_self ..) hg⟩

theorem runR_built {E : Env} {ops : List Oper} {fr : List (Nat × SVal)} {hp : List (Nat × Option Cont)} {sz next0 : Nat} : ∀ {rest : List Oper} {i : Nat} {rs rs' : RS}, runR E fr hp sz rest i rs = .ok rs' → (∀ p ∈ rs'.vc, p) →
    ops.drop i = rest → i = rs.recs.length → i ≤ ops.length → ((∀ p ∈ rs.vc, p) → Built E ops fr hp sz next0 rs.recs rs.next) →
    (∀ p ∈ rs.vc, p) ∧ Built E ops fr hp sz next0 rs'.recs rs'.next ∧ rs'.recs.length = ops.length := by
  intro rest
  induction rest with
  | nil =>
    intro i rs rs' h hv hd hi hle hb
    simp only [runR, Except.ok.injEq] at h
    subst h
    refine ⟨hv, hb hv, ?_⟩
    have := List.drop_eq_nil_iff.1 hd
    omega
  | cons o rest ih =>
    intro i rs rs' h hv hd hi hle hb
    have hlt : i < ops.length := by
      apply Nat.lt_of_not_le; intro hc
      rw [List.drop_eq_nil_of_le hc] at hd; cases hd
    have ho : ops[i]? = some o := by
      have := congrArg (·[0]?) hd
      simpa using this
    have hd' : ops.drop (i + 1) = rest := by rw [← List.drop_drop, hd]; rfl
    simp only [runR] at h
    split at h
    · cases h
    · rename_i hfit
      split at h
      · cases h
      · rename_i hg
        have := ih h hv hd' (by simp [hi]) hlt fun hvv => Built.cons _ _ o _ (hb hvv) ⟨hi, by rw [← hi]; exact ho, rfl, hfit, .inl ⟨hg, rfl, rfl, rfl, rfl, rfl, rfl⟩⟩ rfl
        exact this
      · rename_i g hng hg
        split at h
        · cases h
        · rename_i r tch hs
          have key := fun hvv : ∀ p ∈ vcOf g r.vc rs.vc, p => vc_of hvv
          have := ih h hv hd' (by simp [hi]) hlt fun hvv => Built.cons _ _ o _ (hb (key hvv).1) ⟨hi, by rw [← hi]; exact ho, rfl, hfit, .inr ⟨r, hg, fun e => hng e, rfl, hs, rfl, rfl, rfl, (key hvv).2⟩⟩ rfl
          exact ⟨(key this.1).1, this.2⟩
end Go.Sy
