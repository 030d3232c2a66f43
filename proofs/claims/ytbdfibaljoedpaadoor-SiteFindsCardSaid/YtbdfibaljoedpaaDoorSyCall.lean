/- A function that is called does what its run tells. -/
import Derived.Test.YtbdfibaljoedpaaDoorSyCode2
set_option linter.unusedVariables false
set_option linter.unusedSimpArgs false
namespace Go.Sy
open Go.RowKit

section
variable {P : Program} {C : Ctx} {gl : List (Nat × SVal)} {E : Env} {W0 : World} {R0 own0 : Nat → Prop} {ρ0 : Nat → Option Value}
variable {s t : SState} {a : Act} {W W' : World} {R R' : Nat → Prop} {ρ ρ' : Nat → Option Value} {σ : List (Nat × Nat)} {h : Nat → Option Cont}

theorem resVs_ok (EO : EnvOk P C gl E) (I : Inv E C gl W0 R0 own0 ρ0 s a W R ρ) : ∀ {rv : List ResultVar} {vs : List SVal}, resVs E s rv = some vs → ∃ us : List Value, (rv.mapM (m := Sem) fun
    | .tmp t => pure (a.tmps.getD t undef)
    | .cell x t => do loadVar t (← asAddr (a.tmps.getD x undef))).run P W = .ok us W ∧ DenA C W R ρ vs us := by
  intro rv
  induction rv with
  | nil => intro vs h; simp only [resVs, Option.some.injEq] at h; subst h; exact ⟨[], rfl, .nil⟩
  | cons r rv ih =>
    intro vs h
    simp only [resVs] at h
    split at h
    · rename_i v vs' h1 h2
      cases h
      obtain ⟨us, h3, h4⟩ := ih h2
      cases r with
      | cell x t =>
        simp only [resV] at h1
        split at h1
        · rename_i r ti hx ht
          split at h1
          · rename_i l hl
            split at h1
            · rename_i w l' hw
              cases h1
              have hd := I.slots x
              rw [hx] at hd
              simp only [Option.getD_some] at hd
              generalize hu : a.tmps.getD x undef = u at hd
              cases hd with
              | ptr _ _ b hv =>
                obtain ⟨v', hv', b', cs, T, e, hb, hc⟩ := I.mem.at_ r _ hl
                rw [hv] at hv'; cases hv'; cases e
                obtain ⟨y, y1, y2⟩ := load_ok (EO.tab _ _ ht) hc (cells_at hb) hw
                refine ⟨y :: us, ?_, .cons _ _ _ _ y2 h4⟩
                have ha : (asAddr (.pointer (some ⟨b, 0, none⟩))).run P W = .ok ⟨b, 0, none⟩ W := rfl
                simp only [List.mapM_cons, Sem.run_bind, Sem.run_pure, Result.andThen_ok, h3, hu, ha, y1]
            · cases h1
          · cases h1
        · cases h1
      | tmp t =>
        simp only [resV, Option.some.injEq] at h1
        subst h1
        refine ⟨_ :: us, ?_, .cons _ _ _ _ (I.slots t) h4⟩
        simp only [List.mapM_cons, Sem.run_bind, Sem.run_pure, Result.andThen_ok, h3]
    · cases h

theorem results_ok (EO : EnvOk P C gl E) (I : Inv E C gl W0 R0 own0 ρ0 s a W R ρ) {fn : Func} {vs : List SVal} (hr : resVs E s fn.results.toList = some vs) : ∃ v, (results fn a.tmps).run P W = .ok v W ∧ Den C W R ρ (oneOf vs) v := by
  obtain ⟨us, h1, h2⟩ := resVs_ok EO I hr
  have e : (results fn a.tmps).run P W = .ok (if h : us.toArray.size = 1 then us.toArray[0] else .tuple us.toArray) W := by
    unfold results
    rw [Array.mapM_eq_mapM_toList]
    have hm : ∀ {α β : Type} (f : α → β) (x : Sem α) (y : α), x.run P W = .ok y W → (f <$> x).run P W = .ok (f y) W := fun f x y hx => by
      rw [← bind_pure_comp]; simp only [Sem.run_bind, hx, Result.andThen_ok, Sem.run_pure]
    rw [Sem.run_bind]
    refine (congrArg (fun r => Result.andThen r _) (hm List.toArray _ us ?_)).trans rfl
    refine Eq.trans ?_ h1
    congr 1
  refine ⟨_, e, ?_⟩
  unfold oneOf
  cases h2 with
  | nil => exact .tuple _ _ .nil
  | cons s v l us d1 d2 =>
    cases d2 with
    | nil => simpa using d1
    | cons s' v' l us d3 d4 =>
      have : ¬ (v :: v' :: us).toArray.size = 1 := by simp
      rw [dif_neg this]
      exact .tuple _ _ (.cons _ _ _ _ d1 (.cons _ _ _ _ d3 d4))

theorem find_pick {f : Nat → Option Cont} {l : List Nat} {n : Nat} {c : Cont} (h : lookS (l.map fun r => (r, f r)) n = some c) : f n = some c := by
  unfold lookS at h
  induction l with
  | nil => cases h
  | cons m l ih =>
    simp only [List.map_cons, find] at h
    cases hb : m.beq n with
    | true => rw [hb] at h; have := Nat.eq_of_beq_eq_true hb; subst this; exact h
    | false => rw [hb] at h; exact ih h

/-- At a function's end. -/
theorem ends_ok (EO : EnvOk P C gl E) (I : Inv E C gl W0 R0 own0 ρ0 s a W R ρ) {fn : Func} {e : Exi} {Q : Exi → SState → Prop} (h : (ends E fn.results.toList e s).sat Q) :
    (e = .normal ∨ e = .ret) ∧ ∃ v s', (results fn a.tmps).run P W = .ok v W ∧ Q .ret s' ∧ Inv E C gl W0 R0 own0 ρ0 s' ⟨#[v], []⟩ W R ρ := by
  have key : (match resVs E s fn.results.toList with
      | some vs => Tr.leaf .ret { fr := [(0, oneOf vs)], hp := (reach s.hp deep (E.old ++ names deep (oneOf vs)) []).map fun r => (r, lookS s.hp r), next := s.next, sz := 1 }
      | none => .fail "results").sat Q → ∃ v s', (results fn a.tmps).run P W = .ok v W ∧ Q .ret s' ∧ Inv E C gl W0 R0 own0 ρ0 s' ⟨#[v], []⟩ W R ρ := fun h => by
    split at h
    · rename_i vs hvs
      obtain ⟨v, h1, h2⟩ := results_ok EO I hvs
      have hw : ∀ n c, lookS ((reach s.hp deep (E.old ++ names deep (oneOf vs)) []).map fun r => (r, lookS s.hp r)) n = some c → lookS s.hp n = some c := fun n c hc => find_pick hc
      refine ⟨v, _, h1, h, ⟨fun d => ?_, I.mem.weaken hw, rfl, I.bt.weaken (ownOf.weaken hw), I.above, rfl, I.pins⟩⟩
      cases d with
      | zero => exact h2
      | succ d => exact .any _
    · exact h.elim
  cases e with
  | normal => exact ⟨.inl rfl, key h⟩
  | ret => exact ⟨.inr rfl, key h⟩
  | exit id => exact h.elim

theorem call_run (EO : EnvOk P C gl E) (hown : HownOk E own0 ρ0) {f : Nat} {fn : Func} {c : Code} (hf : P.funcs[f]? = some fn) (hb : fn.body = some c)
    {ls : List (Nat × LSum)} (HL : ∀ b ∈ loopsOf c, ∀ L, find (headId b) ls = some L → LOk P E C gl W0 R0 own0 ρ0 b L) {vs : List Value}
    (I : Inv E C gl W0 R0 own0 ρ0 s ⟨vs.toArray ++ Array.replicate (fn.ntmps - vs.toArray.size) undef, []⟩ W R ρ) {Q : Exi → SState → Prop} (h : (run E ls c s (ends E fn.results.toList)).sat Q)
    {Z : Ending → World → Prop} (hZ : ∀ s' v W R ρ, Q .ret s' → Inv E C gl W0 R0 own0 ρ0 s' ⟨#[v], []⟩ W R ρ → Z (.returned v) W) : Calls P f vs.toArray W Z := by
  refine calls_of_wp hf hb (run_sound EO hown c HL s _ _ _ W R ρ I h fun e s' a' W' R' ρ' J hs => ?_)
  obtain ⟨he, v, s'', h1, h2, h3⟩ := ends_ok EO J hs
  rcases he with rfl | rfl
  · exact ⟨J.defers, v, h1, hZ _ _ _ _ _ h2 h3⟩
  · exact ⟨J.defers, v, h1, hZ _ _ _ _ _ h2 h3⟩
end
end Go.Sy
