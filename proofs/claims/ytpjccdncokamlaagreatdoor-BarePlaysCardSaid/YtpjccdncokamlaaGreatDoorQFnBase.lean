/- Contracts. -/
import Derived.Test.YtpjccdncokamlaaGreatDoorQTabD2
import Derived.Test.YtpjccdncokamlaaGreatDoorQE12
set_option linter.unusedVariables false
set_option linter.unusedSimpArgs false
namespace Go.Proofs.YtpjccdncokamlaaGreatDoor
open Go.RowKit Go.Sy
def G7 : List (Nat × SVal) := [(2, .rop [.err (.bare 102)]), (0, .rop [.err (.bare 103)]), (3, .rop [.err (.bare 104)]), (4, .rop [.err (.bare 105)]), (5, .rop [.err (.bare 106)]), (6, .rop [.err (.bare 107)]), (8, .rop [.err (.bare 109)])]
abbrev tAtN : Nat := 150
abbrev ctx (ea : Ear) (has : Int → Prop) : Ctx := ⟨ea.f, 184, tAtN, has, ea.fix⟩
def cmpT : List Nat := [58]
theorem cmp_ok : ∀ t, cmpT.contains t = true → CmpOk Tryz.prog t := by
  intro t ht
  have nm : ∀ t, ((Tryz.prog.fieldsOf t).toList.all fun f => f.name != "_") = true → ∀ f ∈ (Tryz.prog.fieldsOf t).toList, f.name ≠ "_" := fun t h f hf => by
    have := List.all_eq_true.1 h f hf
    simpa using this
  simp [cmpT] at ht
  subst ht
  exact ⟨by kernel_rfl, by kernel_rfl, nm _ (by kernel_rfl)⟩
abbrev env (gl : List (Nat × SVal)) (con : List (Nat × (List SVal → Nat → Acc ORes))) : Env := { tab := tab, con := con, glob := gl, tAt := tAtN, cmp := cmpT }
theorem err_ok (ea : Ear) (has : Int → Prop) : ErrOk Tryz.prog (ctx ea has) where
  tE := ⟨_, Tryz.t184, Tryz.t200, Tryz.underlying184, by kernel_rfl, by kernel_rfl, by kernel_rfl, Nat.ne_of_beq_eq_false (by kernel_rfl)⟩
  tAt := ⟨_, Tryz.underlying150⟩
section
variable {ea : Ear} {has : Int → Prop} {gl : List (Nat × SVal)}
def Cons (P : Program) (C : Ctx) (gl : List (Nat × SVal)) : List (Nat × (List SVal → Nat → Acc ORes)) → Prop
  | [] => True
  | (f, k) :: l => ConOk P C gl f k ∧ Cons P C gl l
theorem cons_find {P : Program} {C : Ctx} {l : List (Nat × (List SVal → Nat → Acc ORes))} (h : Cons P C gl l) : ∀ f k, find f l = some k → ConOk P C gl f k := by
  induction l with
  | nil => intro f k hf; cases hf
  | cons p l ih =>
    obtain ⟨g, k'⟩ := p
    intro f k hf
    simp only [find] at hf
    split at hf
    · rename_i hb; have := Nat.eq_of_beq_eq_true hb; subst this; cases hf; exact h.1
    · exact ih h.2 f k hf
theorem env_ok {con : List (Nat × (List SVal → Nat → Acc ORes))} (h : Cons Tryz.prog (ctx ea has) gl con) : EnvOk Tryz.prog (ctx ea has) gl (env gl con) where
  tab := tab_ok
  err := err_ok ea has
  glob := rfl
  tAt := rfl
  mixed := by kernel_rfl
  con := cons_find h
  cmp := cmp_ok
abbrev Con (ea : Ear) (has : Int → Prop) (gl : List (Nat × SVal)) (f : Nat) (k : List SVal → Nat → Acc ORes) : Prop := ConOk Tryz.prog (ctx ea has) gl f k
end
end Go.Proofs.YtpjccdncokamlaaGreatDoor

