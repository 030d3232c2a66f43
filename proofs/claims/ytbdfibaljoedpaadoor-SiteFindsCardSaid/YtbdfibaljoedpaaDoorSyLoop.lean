/- Loops over a counter. -/
import Derived.Test.YtbdfibaljoedpaaDoorSyCon
set_option linter.unusedVariables false
set_option linter.unusedSimpArgs false
namespace Go.Sy
open Go.RowKit

/-- What one state tells, another one tells. -/
abbrev fits (E : Env) (s t : SState) : Prop := all (subSt E (mtch E.old s t) s t)

def loopN (c : Code) (n : Nat) : Code := (loopsOf c).getD n .skip

/-- One round of a loop that is left at its end only. -/
def rnd1 (E : Env) (J : Nat → Prop) (N : Nat) (H : Nat → SState) (id : Nat) (X : SState) (i : Nat) : Exi → SState → Prop
  | .normal, s => i < N ∧ J (i + 1) ∧ fits E s (H (i + 1))
  | .exit n, s => n.beq id = true ∧ fits E s X
  | .ret, _ => False
/-- .. of one that may return. -/
def rnd2 (E : Env) (J : Nat → Prop) (N : Nat) (H : Nat → SState) (id : Nat) (b : Bool) (X Y : SState) (i : Nat) : Exi → SState → Prop
  | .normal, s => i < N ∧ J (i + 1) ∧ fits E s (H (i + 1))
  | .exit n, s => n.beq id = true ∧ b = true ∧ fits E s X
  | .ret, s => b = false ∧ fits E s Y

section
variable {P : Program} {C : Ctx} {gl : List (Nat × SVal)} {E : Env} {W0 : World} {R0 own0 : Nat → Prop} {ρ0 : Nat → Option Value}

theorem loop1_ok (EO : EnvOk P C gl E) (hown : HownOk E own0 ρ0) {ls : Nat → List (Nat × LSum)} {b : Code} (HL : ∀ i, ∀ c ∈ loopsOf b, ∀ L, find (headId c) (ls i) = some L → LOk P E C gl W0 R0 own0 ρ0 c L)
    {J : Nat → Prop} {N : Nat} {H : Nat → SState} {id : Nat} {X : SState} {pre : Prop} (body : pre → ∀ i, i ≤ N → J i → (run E (ls i) b (H i) .leaf).sat (rnd1 E J N H id X i)) (i0 : Nat) (h0 : pre → i0 ≤ N) (j0 : pre → J i0) :
    LOk P E C gl W0 R0 own0 ρ0 b ⟨H i0, fun k => k (.exit id) X, pre⟩ := by
  refine loop_ok EO hown (ls := fun i => ls i.1) (fun i => HL i.1) (ι := { i // i ≤ N ∧ J i }) (fun i => H i.1) (fun i => N - i.1) (fun _ e t => e = .exit id ∧ t = X) (fun hp i => sat_mono (fun e s hs => ?_) (body hp i.1 i.2.1 i.2.2)) (fun hp => ⟨i0, h0 hp, j0 hp⟩) (fun _ => rfl) (fun _ _ _ h e t ht => by rw [ht.1, ht.2]; exact h)
  cases e with
  | normal => exact ⟨⟨i.1 + 1, hs.1, hs.2.1⟩, _, by have := hs.1; show N - (i.1 + 1) < N - i.1; omega, hs.2.2, fun e t h => h⟩
  | ret => exact hs.elim
  | exit n => exact ⟨X, _, ⟨by rw [Nat.eq_of_beq_eq_true hs.1], rfl⟩, hs.2⟩
theorem loop2_ok (EO : EnvOk P C gl E) (hown : HownOk E own0 ρ0) {ls : Nat → List (Nat × LSum)} {b : Code} (HL : ∀ i, ∀ c ∈ loopsOf b, ∀ L, find (headId c) (ls i) = some L → LOk P E C gl W0 R0 own0 ρ0 c L)
    {J : Nat → Prop} {N : Nat} {H : Nat → SState} {id : Nat} {t : Bool} {X Y : SState} {pre : Prop} (body : pre → ∀ i, i ≤ N → J i → (run E (ls i) b (H i) .leaf).sat (rnd2 E J N H id t X Y i)) (i0 : Nat) (h0 : pre → i0 ≤ N) (j0 : pre → J i0) :
    LOk P E C gl W0 R0 own0 ρ0 b ⟨H i0, fun k => .ite t (k (.exit id) X) (k .ret Y), pre⟩ := by
  refine loop_ok EO hown (ls := fun i => ls i.1) (fun i => HL i.1) (ι := { i // i ≤ N ∧ J i }) (fun i => H i.1) (fun i => N - i.1) (fun _ e s => (e = .exit id ∧ t = true ∧ s = X) ∨ (e = .ret ∧ t = false ∧ s = Y)) (fun hp i => sat_mono (fun e s hs => ?_) (body hp i.1 i.2.1 i.2.2)) (fun hp => ⟨i0, h0 hp, j0 hp⟩) (fun _ => rfl)
    (fun _ _ _ h e s ht => by
      rcases ht with ⟨rfl, h1, rfl⟩ | ⟨rfl, h1, rfl⟩
      · exact h.1 h1
      · exact h.2 h1)
  cases e with
  | normal => exact ⟨⟨i.1 + 1, hs.1, hs.2.1⟩, _, by have := hs.1; show N - (i.1 + 1) < N - i.1; omega, hs.2.2, fun e t h => h⟩
  | ret => exact ⟨Y, _, .inr ⟨rfl, hs.1, rfl⟩, hs.2⟩
  | exit n => exact ⟨X, _, .inl ⟨by rw [Nat.eq_of_beq_eq_true hs.1], hs.2.1, rfl⟩, hs.2.2⟩

/-- A point where ways join, or much is forgotten. -/
def cutL (s : SState) : LSum := ⟨s, fun k => k .normal s, True⟩

theorem hl1 {c b : Code} {ls : List (Nat × LSum)} {L0 : LSum} {Z : Code → LSum → Prop} (hc : loopsOf c = [b]) (hf : find (headId b) ls = some L0) (hz : Z b L0) : ∀ b ∈ loopsOf c, ∀ L, find (headId b) ls = some L → Z b L := by
  intro b' hb L hL
  rw [hc] at hb
  simp only [List.mem_singleton] at hb
  subst hb
  rw [hf] at hL; cases hL; exact hz
theorem hlN {c : Code} {bs : List Code} {ls : List (Nat × LSum)} {Z : Code → LSum → Prop} (hc : loopsOf c = bs) (hz : ∀ b ∈ bs, ∃ L0, find (headId b) ls = some L0 ∧ Z b L0) : ∀ b ∈ loopsOf c, ∀ L, find (headId b) ls = some L → Z b L := by
  intro b hb L hL
  rw [hc] at hb
  obtain ⟨L0, h1, h2⟩ := hz b hb
  rw [h1] at hL; cases hL; exact h2
end
end Go.Sy
