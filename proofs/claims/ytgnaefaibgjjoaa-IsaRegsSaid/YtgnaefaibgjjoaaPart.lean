/- General words: a region walked in parts: what the first operations leave in slots that nobody reads again is forgotten. -/
import Derived.Test.YtgnaefaibgjjoaaKit
import Derived.Deep.Cut
set_option linter.unusedVariables false
set_option linter.unusedSimpArgs false
namespace Go.Kit
open Go.RowKit

def putMany (a : Act) : List Nat → List Value → Act
  | s :: ss, v :: vs => putMany (a.put (some s) v) ss vs
  | _, _ => a

/-- Behind the part: the slots of sl hold whatever, slot s holds v, nothing else has turned. -/
def PartPost (a0 : Act) (w0 : World) (sl : List Nat) (s : Nat) (v : Value) (e : Exit) (a : Act) (w : World) : Prop :=
  e = .normal ∧ w = w0 ∧ ∃ vs : List Value, vs.length = sl.length ∧ a = (putMany a0 sl vs).put (some s) v

theorem LetsOut_part {a0 : Act} {w0 : World} {sl : List Nat} {s : Nat} {v : Value} (h : LetsOut (PartPost a0 w0 sl s v)) : False := by
  unfold LetsOut PartPost at h; simp at h

theorem Oper.wp_weak {P : Program} {o : Oper} {a : Act} {w : World} {K : Act → World → Prop} {Q Q' : Exit → Act → World → Prop}
    (h : o.wp P a w K Q) (hp : ∀ c a w, Q (.panic c) a w → Q' (.panic c) a w) (hl : LetsOut Q → LetsOut Q') : o.wp P a w K Q' := by
  unfold Oper.wp at *
  generalize (execOp a.eval o).run P w = r at *
  cases r with
  | ok n w' =>
    cases n <;> simp only [Oper.upon] at h ⊢
    case value => exact h
    case skip => exact h
    case defer => exact h
    case enter => exact Calls.mono h fun e w'' he => by
                    cases e with
                    | returned => exact he
                    | panicked => exact hp _ _ _ he
                    | outgrown => exact hl he
    case row => exact h
  | halt x w' =>
    cases x <;> simp only [Oper.upon] at h ⊢
    case panic => exact hp _ _ _ h

theorem wpList_bind {P : Program} {ops : Array Oper} {Q Q1 : Exit → Act → World → Prop} {l2 : List Oper}
    (hn : ∀ a w, Q1 .normal a w → wpList P ops Q l2 a w) (hp : ∀ c a w, Q1 (.panic c) a w → Q (.panic c) a w) (hl : LetsOut Q1 → LetsOut Q) :
    ∀ (l1 : List Oper) (a : Act) (w : World), wpList P ops Q1 l1 a w → wpList P ops Q (l1 ++ l2) a w
  | [], a, w, h => hn a w h
  | o :: l1, a, w, h => by
    rw [List.cons_append]
    unfold wpList at h ⊢
    split at h
    · rename_i hw
      rw [if_pos hw]
      rcases h with h | ⟨h1, h2⟩
      · exact .inl (Oper.wp_mono (fun a w => wpList_bind hn hp hl l1 a w) (Oper.wp_weak h hp hl))
      · exact .inr ⟨h1, hl h2⟩
    · rename_i hw
      rw [if_neg hw]
      exact wpList_bind hn hp hl l1 _ w h

theorem wpList_part (k : Nat) (sl : List Nat) (s : Nat) (v : Value) {P : Program} {ops : Array Oper} {Q : Exit → Act → World → Prop} {l : List Oper} {a : Act} {w : World}
    (h1 : wpList P ops (PartPost a w sl s v) (l.take k) a w)
    (h2 : ∀ vs : List Value, vs.length = sl.length → wpList P ops Q (l.drop k) ((putMany a sl vs).put (some s) v) w) : wpList P ops Q l a w := by
  rw [← List.take_append_drop k l]
  refine wpList_bind (Q1 := PartPost a w sl s v) ?_ ?_ ?_ _ a w h1
  · rintro a' w' ⟨_, rfl, vs, hl, rfl⟩; exact h2 vs hl
  · rintro c a' w' ⟨he, _⟩; cases he
  · intro h; exact (LetsOut_part h).elim
end Go.Kit
