/- Code: what a run tells is so. -/
import Derived.Test.YtbdfibaljoedpaaDoorSySub
set_option linter.unusedVariables false
set_option linter.unusedSimpArgs false
namespace Go.Sy
open Go.RowKit

structure Inv (E : Env) (C : Ctx) (gl : List (Nat × SVal)) (W0 : World) (R0 own0 : Nat → Prop) (ρ0 : Nat → Option Value) (s : SState) (a : Act) (W : World) (R : Nat → Prop) (ρ : Nat → Option Value) : Prop where
  slots : ∀ d, Den C W R ρ ((find d s.fr).getD .any) (a.tmps.getD d undef)
  mem : Mem C gl W R ρ (lookS s.hp)
  size : a.tmps.size = s.sz
  bt : Bt W0 R0 own0 W R (ownOf ρ (lookS s.hp))
  above : ∀ n, s.next ≤ n → ρ n = none
  defers : a.defers = []
  pins : ∀ n ∈ E.old, ∀ v, ρ0 n = some v → ρ n = some v

section
variable {P : Program} {C : Ctx} {gl : List (Nat × SVal)} {E : Env} {W0 : World} {R0 own0 : Nat → Prop} {ρ0 : Nat → Option Value}
variable {s t : SState} {a : Act} {W W' : World} {R R' : Nat → Prop} {ρ ρ' : Nat → Option Value} {σ : List (Nat × Nat)}

theorem flat_of {α : Type} {f : α → List Prop} {l : List α} (h : ∀ p ∈ l.flatMap f, p) {x : α} (hx : x ∈ l) : ∀ p ∈ f x, p := fun p hp => h p (List.mem_flatMap.2 ⟨x, hx, hp⟩)
theorem all_mem {l : List Prop} (h : all l) : ∀ p ∈ l, p := by
  induction l with
  | nil => intro p hp; cases hp
  | cons q l ih =>
    intro p hp
    cases l with
    | nil =>
      rcases List.mem_cons.1 hp with rfl | hp
      · exact h
      · cases hp
    | cons q' l =>
      rcases List.mem_cons.1 hp with rfl | hp
      · exact h.1
      · exact ih h.2 p hp

theorem fstLt_of {next : Nat} (h : fstLt next σ = true) {r q : Nat} (hf : find r σ = some q) : r < next := by
  have hm := find_mem hf
  clear hf
  induction σ with
  | nil => cases hm
  | cons p σ ih =>
    obtain ⟨r', q'⟩ := p
    simp only [fstLt, Bool.and_eq_true] at h
    rcases List.mem_cons.1 hm with e | hm
    · cases e; exact Nat.le_of_ble_eq_true h.1
    · exact ih h.2 hm
theorem snd_mem {r q : Nat} (hm : (r, q) ∈ σ) : q ∈ sndN σ := by
  induction σ with
  | nil => cases hm
  | cons p σ ih =>
    obtain ⟨r', q'⟩ := p
    rcases List.mem_cons.1 hm with e | hm
    · cases e; exact List.mem_cons_self ..
    · exact List.mem_cons_of_mem _ (ih hm)
theorem nodup_inj (h : nodupB (sndN σ) = true) {r r' q : Nat} (hm : (r, q) ∈ σ) (hm' : (r', q) ∈ σ) : r = r' := by
  induction σ with
  | nil => cases hm
  | cons p σ ih =>
    obtain ⟨x, y⟩ := p
    simp only [sndN, nodupB] at h
    split at h
    · cases h
    · rename_i hn
      have hn : y ∉ sndN σ := fun hm => by rw [memN_iff.2 hm] at hn; cases hn
      rcases List.mem_cons.1 hm with e | hm1 <;> rcases List.mem_cons.1 hm' with e' | hm2
      · cases e; cases e'; rfl
      · cases e; exact (hn (snd_mem hm2)).elim
      · cases e'; exact (hn (snd_mem hm1)).elim
      · exact ih h hm1 hm2
theorem oldOk_of {old : List Nat} (h : oldOk old σ = true) : ∀ n ∈ old, find n σ = some n ∧ Nat.ble nilN n = false := by
  induction old with
  | nil => intro n hn; cases hn
  | cons m l ih =>
    simp only [oldOk, Bool.and_eq_true] at h
    intro n hn
    rcases List.mem_cons.1 hn with rfl | hn
    · have := h.1
      split at this
      · rename_i q hq
        obtain ⟨rfl, h2⟩ := same_ok this
        exact ⟨hq, h2⟩
      · cases this
    · exact ih h.2 n hn
abbrev HownOk (E : Env) (own0 : Nat → Prop) (ρ0 : Nat → Option Value) : Prop := True

theorem subC_ok (M : Mem C gl W R ρ (lookS s.hp)) {v : Value} {c c' : Cont} (hp : ∀ p ∈ subC C.tAt (lookS s.hp) σ (some c) (some c'), p) (hc : HoldC C W R ρ v c) :
    HoldC C W (RF σ (lookS s.hp) ρ R) (ρσ σ ρ) v c' := by
  unfold subC at hp
  split at hp
  · rename_i h; cases h
  · rename_i l l' h1 h2; cases h1; cases h2
    obtain ⟨b, vs, T, rfl, hh, hl⟩ := hc
    exact ⟨b, vs, T, rfl, hh, (sub_ok M deep).2.1 _ _ _ hl hp⟩
  · rename_i t l t' l' h1 h2; cases h1; cases h2
    split at hp
    · rename_i e heq
      subst e
      have e := hd1 hp
      simp only at e
      subst e
      obtain ⟨e, vs, ho, hl⟩ := hc
      exact ⟨e, vs, ho, hl.free (fun _ h => .inl h) (flat_plain t l)⟩
    · exact no hp
  · rename_i w l w' l' h1 h2; cases h1; cases h2
    split at hp
    · rename_i hb
      have := Nat.eq_of_beq_eq_true hb; subst this
      obtain ⟨e, vs, n, ho, hl, h0⟩ := hc
      exact ⟨e, vs, n, ho, (sub_ok M deep).2.1 _ _ _ hl hp, h0⟩
    · exact no hp
  · rename_i m m' h1 h2; cases h1; cases h2
    have := hd1 hp; subst this; exact hc
  · rename_i m m' h1 h2; cases h1; cases h2
    have := hd1 hp; subst this; exact hc
  · exact no hp

theorem holdNil (t : RT) : HoldC C W R ρ (.slice none 0 0) (.recs t []) := ⟨0, [], ⟨by simp, .inl ⟨rfl, rfl⟩⟩, .nil⟩

/-- Of a state only what another one says is kept, under new names. -/
theorem Inv.sub (EO : EnvOk P C gl E) (I : Inv E C gl W0 R0 own0 ρ0 s a W R ρ) (hown : HownOk E own0 ρ0) (h : all (subSt E σ s t)) :
    ∃ R' ρ', Inv E C gl W0 R0 own0 ρ0 t a W R' ρ' := by
  have h := all_mem h
  unfold subSt at h
  rw [EO.tAt] at h
  have h1 := fun p hp => h p (List.mem_append_left _ (List.mem_append_left _ hp))
  have h2 := fun p hp => h p (List.mem_append_left _ (List.mem_append_right _ hp))
  have h3 := fun p hp => h p (List.mem_append_right _ hp)
  clear h
  have hb : (s.sz.beq t.sz && nodupB (sndN σ) && fstLt t.next σ && oldOk E.old σ) = true := by
    split at h3
    · assumption
    · exact no h3
  simp only [Bool.and_eq_true] at hb
  obtain ⟨⟨⟨b1, b2⟩, b3⟩, b4⟩ := hb
  have M := I.mem
  have old := oldOk_of b4
  have inj : ∀ {r r' q}, find r σ = some q → find r' σ = some q → r = r' := fun h h' => nodup_inj b2 (find_mem h) (find_mem h')
  -- what t knows
  have known : ∀ r c, lookS t.hp r = some c → (∃ q c0 v, find r σ = some q ∧ lookS s.hp q = some c0 ∧ ρ q = some v ∧ ρσ σ ρ r = some v ∧ HoldC C W (RF σ (lookS s.hp) ρ R) (ρσ σ ρ) v c) ∨
      (ρσ σ ρ r = some (.slice none 0 0) ∧ HoldC C W (RF σ (lookS s.hp) ρ R) (ρσ σ ρ) (.slice none 0 0) c) := fun r c hc => by
    unfold lookS at hc
    cases hf : find r t.hp with
    | none => rw [hf] at hc; cases hc
    | some c' =>
      rw [hf] at hc
      simp only [Option.getD_some] at hc
      subst hc
      have hp := flat_of h2 (find_mem hf)
      simp only at hp
      split at hp
      · rename_i q hq
        split at hp
        · rename_i hN
          unfold nilC at hp
          split at hp
          · rename_i hc; cases hc
          · rename_i t' l hc
            cases hc
            have := hd1 hp; subst this
            exact .inr ⟨ρσ_nil hq hN, holdNil _⟩
          · exact no hp
        · rename_i hN
          cases hcs : lookS s.hp q with
          | none => rw [hcs] at hp; simp only [subC] at hp; exact no hp
          | some c0 =>
            rw [hcs] at hp
            obtain ⟨v, hv, hh⟩ := M.at_ q c0 hcs
            exact .inl ⟨q, c0, v, hq, hcs, hv, by rw [ρσ_at hq hN]; exact hv, subC_ok M hp hh⟩
      · exact no hp
  have fresh : ∀ b, RF σ (lookS s.hp) ρ R b → R0 b ∨ W0.heap.size ≤ b ∨ own0 b := fun b hb => by
    rcases hb with hb | ⟨n, c, v, hn, hc, hv, hbk⟩
    · exact I.bt.Rn b hb
    · rcases I.bt.owned b ⟨n, c, v, hc, hv, hbk⟩ with ho | ho
      · exact .inr (.inr ho)
      · exact .inr (.inl ho)
  refine ⟨RF σ (lookS s.hp) ρ R, ρσ σ ρ, fun d => ?_, ⟨?_, fun r c hc => ?_, fun r r' c c' v v' b k1 k2 k3 k4 k5 k6 => ?_, fun r c v b k1 k2 k3 k4 => ?_⟩, ?_, ⟨I.bt.os, I.bt.tape, I.bt.output, I.bt.size, fun b hb => .inl (I.bt.Rm b hb), fresh, I.bt.keep, fun b hb => ?_⟩, fun n hn => ?_, I.defers, fun n hn v hv => ?_⟩
  · cases hf : find d t.fr with
    | none => exact .any _
    | some v => exact (sub_ok M deep).1 _ _ _ (I.slots d) (flat_of h1 (find_mem hf))
  · refine M.base.mono (fun _ h => .inl h) (fun b hb => ?_) fun _ _ => rfl
    rcases hb with hb | ⟨n, c, v, hn, hc, hv, hbk⟩
    · exact M.base.inR b hb
    · obtain ⟨v', hv', hh⟩ := M.at_ n c hc
      rw [hv] at hv'; cases hv'
      exact hh.lt hbk
  · rcases known r c hc with ⟨q, c0, v, q1, q2, q3, q4, q5⟩ | ⟨q1, q2⟩
    · exact ⟨v, q4, q5⟩
    · exact ⟨_, q1, q2⟩
  · rcases known r c k1 with ⟨q, c0, u, q1, q2, q3, e1, q4⟩ | ⟨e1, _⟩
    · rcases known r' c' k2 with ⟨q', c0', u', q1', q2', q3', e2, q4'⟩ | ⟨e2, _⟩
      · rw [e1] at k3; cases k3
        rw [e2] at k4; cases k4
        have := M.apart q q' c0 c0' v v' b q2 q2' q3 q3' k5 k6
        subst this
        exact inj q1 q1'
      · rw [e2] at k4; cases k4; cases k6
    · rw [e1] at k3; cases k3; cases k5
  · rcases known r c k1 with ⟨q, c0, u, q1, q2, q3, e1, q4⟩ | ⟨e1, _⟩
    · rw [e1] at k2; cases k2
      rcases k4 with hb | ⟨n, c', v', hn, hc, hv, hbk⟩
      · exact M.off q c0 v b q2 q3 k3 hb
      · have := M.apart n q c' c0 v' v b hc q2 hv q3 hbk k3
        subst this
        rw [rng_find q1] at hn; cases hn
    · rw [e1] at k2; cases k2; cases k3
  · rw [I.size]; exact Nat.eq_of_beq_eq_true b1
  · obtain ⟨r, c, v, k1, k2, k3⟩ := hb
    rcases known r c k1 with ⟨q, c0, u, q1, q2, q3, e1, q4⟩ | ⟨e1, _⟩
    · rw [e1] at k2; cases k2
      exact I.bt.owned b ⟨q, c0, v, q2, q3, k3⟩
    · rw [e1] at k2; cases k2; cases k3
  · cases hf : find n σ with
    | none => unfold ρσ; rw [hf]; rfl
    | some q => have := fstLt_of b3 hf; omega
  · obtain ⟨o1, o2⟩ := old n hn
    rw [ρσ_at o1 o2]; exact I.pins n hn v hv
end
end Go.Sy
