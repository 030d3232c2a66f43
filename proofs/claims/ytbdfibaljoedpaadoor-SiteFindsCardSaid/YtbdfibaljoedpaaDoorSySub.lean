/- What 'sub' asks is enough. -/
import Derived.Test.YtbdfibaljoedpaaDoorSyReg5
set_option linter.unusedVariables false
set_option linter.unusedSimpArgs false
namespace Go.Sy
open Go.RowKit

def ρσ (σ : List (Nat × Nat)) (ρ : Nat → Option Value) : Nat → Option Value := fun r => (find r σ).bind fun q => match Nat.ble nilN q with
  | true => some (.slice none 0 0)
  | false => ρ q
/-- What is read for ever from now on. -/
def RF (σ : List (Nat × Nat)) (h : Nat → Option Cont) (ρ : Nat → Option Value) (R : Nat → Prop) : Nat → Prop := fun b => R b ∨ ∃ n c v, rng σ n = false ∧ h n = some c ∧ ρ n = some v ∧ blk v = some b

section
variable {C : Ctx} {gl : List (Nat × SVal)} {W : World} {R : Nat → Prop} {ρ : Nat → Option Value} {h : Nat → Option Cont} {σ : List (Nat × Nat)}

theorem same_ok {q r : Nat} (h : same q r = true) : q = r ∧ Nat.ble nilN q = false := by
  unfold same at h
  split at h
  · cases h
  · rename_i hb; exact ⟨Nat.eq_of_beq_eq_true h, hb⟩
theorem ρσ_at {r q : Nat} (hf : find r σ = some q) (hb : Nat.ble nilN q = false) : ρσ σ ρ r = ρ q := by unfold ρσ; rw [hf]; simp only [Option.bind_some, hb]
theorem ρσ_nil {r q : Nat} (hf : find r σ = some q) (hb : Nat.ble nilN q = true) : ρσ σ ρ r = some (.slice none 0 0) := by unfold ρσ; rw [hf]; simp only [Option.bind_some, hb]
theorem rng_find {r q : Nat} (hf : find r σ = some q) : rng σ q = true := by
  induction σ with
  | nil => cases hf
  | cons p σ ih =>
    obtain ⟨m, x⟩ := p
    simp only [find] at hf
    split at hf
    · cases hf; simp [rng]
    · simp [rng, ih hf]

theorem kEq_ok {k k' : IntKind} (hk : kEq k k' = true) : k = k' := by cases k <;> cases k' <;> first | rfl | cases hk
theorem subI_ok {k : IntKind} {a b : SI} (hp : ∀ p ∈ subI k a b, p) (hi : InI k a) : a.val = b.val ∧ InI k b := by
  unfold subI at hp
  split at hp
  · have := hp _ (List.mem_cons_self ..)
    rename_i n
    have e : SI.val (.lit n) = n := rfl
    refine ⟨this, ?_⟩
    have h1 := hi.lo; have h2 := hi.hi
    rw [this] at h1 h2
    exact ⟨h1, h2, Int.le_refl _, Int.le_refl _⟩
  · have := hp _ (List.mem_cons_self ..)
    have h1 := hi.lo; have h2 := hi.hi
    rw [this] at h1 h2
    exact ⟨this, h1, h2, h1, h2⟩
  · rename_i n lo hi'
    split at hp
    · rename_i hb
      have := hp _ (List.mem_cons_self ..)
      rw [Bool.and_eq_true] at hb
      have h1 := hi.lo; have h2 := hi.hi; have h3 := hi.lo'; have h4 := hi.hi'
      rw [this] at h1 h2 h3 h4
      exact ⟨this, h1, h2, Int.le_trans (leB_iff.1 hb.1) h3, Int.le_trans h4 (leB_iff.1 hb.2)⟩
    · have h0 := hp _ (List.mem_cons_self ..)
      have h5 := hp _ (List.mem_cons_of_mem _ (List.mem_cons_self ..))
      have h1 := hi.lo; have h2 := hi.hi
      rw [h0] at h1 h2
      exact ⟨h0, h1, h2, h5.1, h5.2⟩

theorem no {α : Prop} {l : List Prop} (hp : ∀ p ∈ False :: l, p) : α := (hp _ (List.mem_cons_self ..)).elim
theorem hd1 {p : Prop} {l : List Prop} (hp : ∀ q ∈ p :: l, q) : p := hp _ (List.mem_cons_self ..)
theorem hd2 {p p' : Prop} {l : List Prop} (hp : ∀ q ∈ p :: p' :: l, q) : p' := hp _ (List.mem_cons_of_mem _ (List.mem_cons_self ..))
theorem hd3 {p p' p'' : Prop} {l : List Prop} (hp : ∀ q ∈ p :: p' :: p'' :: l, q) : p'' := hp _ (List.mem_cons_of_mem _ (List.mem_cons_of_mem _ (List.mem_cons_self ..)))

theorem cells_at {b : Nat} {vs : List Value} {T : Nat} {z : Nat × Nat} (hh : W.heap[b]? = some (.cells vs.toArray T z)) : CellsAt W b 0 vs := fun j v hv => by
  unfold World.cell?
  simp only [hh, Option.isSome_none, Bool.false_eq_true, if_false, Nat.zero_add]
  simpa using hv

theorem eqB_ok {a b : Bool} (he : eqB a b = true) : a = b := by cases a <;> cases b <;> first | rfl | cases he

/-- Values without names. -/
def plain : SVal → Bool
  | .int .. | .bool _ | .str _ | .err _ => true
  | _ => false
theorem Den.free {R' : Nat → Prop} {ρ' : Nat → Option Value} (hR : ∀ b, R b → R' b) {s : SVal} {v : Value} (hd : Den C W R ρ s v) (hp : plain s = true) : Den C W R' ρ' s v := by
  cases hd <;> first | (cases hp; done) | skip
  · exact .int _ _ (by assumption)
  · exact .bool _
  · exact .str _ (by assumption)
  · exact .fine
  · exact .bare _ (by assumption)
  · rename_i n p b off h1 h2 h3 h4 h5
    exact .placed n p b off h1 (hR _ h2) h3 h4 h5
theorem DenL.free {R' : Nat → Prop} {ρ' : Nat → Option Value} (hR : ∀ b, R b → R' b) {l : List SVal} {vs : List Value} (hd : DenL C W R ρ l vs) (hp : ∀ s ∈ l, plain s = true) : DenL C W R' ρ' l vs := by
  induction l generalizing vs with
  | nil => cases hd; exact .nil
  | cons s l ih =>
    have hs := hp s (List.mem_cons_self ..)
    have harr : s.isArr = false := by cases s <;> first | rfl | cases hs
    obtain ⟨v, us, rfl, h1, h2, h3⟩ := hd.inv_one harr
    exact .one _ _ _ _ harr h1 (h2.free hR hs) (ih h3 fun s hs => hp s (List.mem_cons_of_mem _ hs))
theorem enc_plain (t : RT) (x : t.ty) : ∀ s ∈ t.enc x, plain s = true := by
  cases t <;> simp [RT.enc, In5.enc, plain]
theorem flat_plain (t : RT) (l : List t.ty) : ∀ s ∈ l.flatMap t.enc, plain s = true := by
  intro s hs
  obtain ⟨x, _, hx⟩ := List.mem_flatMap.1 hs
  exact enc_plain t x s hx

/-- A slice of one's own that is read for ever from now on. -/
theorem frozen_row (M : Mem C gl W R ρ h) {r : Nat} {t : RT} {l : List t.ty} (hr : rng σ r = false) (hh : h r = some (.recs t l)) {A : Option Addr} {n cap : Nat} (hv : ρ r = some (.slice A n cap)) :
    n = l.length ∧ l.length ≤ cap ∧ cap ≤ maxLen ∧ ∃ vs, DenL C W R ρ (l.flatMap t.enc) vs ∧ (l ≠ [] → ∃ b, A = some ⟨b, 0, none⟩ ∧ RF σ h ρ R b ∧ CellsAt W b 0 vs) := by
  obtain ⟨v, hv', e, vs, ho, hd⟩ := M.at_ r _ hh
  rw [hv] at hv'; cases hv'
  obtain ⟨hlen, ⟨he, hn⟩ | ⟨g, cap', cur, he, hb, hg, h1, h2, h3, h4⟩⟩ := ho
  · cases he
    exact ⟨hn.symm, by omega, by unfold maxLen; omega, vs, hd, fun hl => by have : l = [] := List.eq_nil_of_length_eq_zero hn; exact (hl this).elim⟩
  · cases he
    refine ⟨rfl, h1, h2, vs, hd, fun _ => ⟨g, rfl, .inr ⟨r, _, _, hr, hh, hv, rfl⟩, fun j v hj => ?_⟩⟩
    unfold World.cell?
    simp only [hg, Option.isSome_none, Bool.false_eq_true, if_false, Nat.zero_add]
    rw [← h4] at hj
    rw [List.getElem?_take] at hj
    split at hj
    · simpa using hj
    · cases hj

theorem sub_ok (M : Mem C gl W R ρ h) : ∀ n,
    (∀ s t v, Den C W R ρ s v → (∀ p ∈ sub C.tAt h σ n s t, p) → Den C W (RF σ h ρ R) (ρσ σ ρ) t v) ∧
    (∀ l l' vs, DenL C W R ρ l vs → (∀ p ∈ subL C.tAt h σ n l l', p) → DenL C W (RF σ h ρ R) (ρσ σ ρ) l' vs) ∧
    (∀ l l' vs, DenA C W R ρ l vs → (∀ p ∈ subL C.tAt h σ n l l', p) → DenA C W (RF σ h ρ R) (ρσ σ ρ) l' vs) := by
  have flatL : ∀ (t : RT) (l : List t.ty) (vs : List Value), DenL C W R ρ (l.flatMap t.enc) vs → DenL C W (RF σ h ρ R) (ρσ σ ρ) (l.flatMap t.enc) vs := fun t l vs hd => hd.free (fun _ h => .inl h) (flat_plain t l)
  have nm : ∀ {r q r' : Nat} {v : Value}, find r' σ = some q → same q r = true → ρ r = some v → ρσ σ ρ r' = some v := fun hf hb hv => by
    obtain ⟨rfl, h2⟩ := same_ok hb
    rw [ρσ_at hf h2]; exact hv
  intro n
  induction n using Nat.strongRecOn with
  | _ n ih =>
  have hS : ∀ s t v, Den C W R ρ s v → (∀ p ∈ sub C.tAt h σ n s t, p) → Den C W (RF σ h ρ R) (ρσ σ ρ) t v := by
    intro s t v hd hp
    unfold sub at hp
    split at hp
    · exact .any _
    · -- int
      split at hp
      · rename_i hk
        have := kEq_ok hk; subst this
        cases hd with
        | int _ _ hi =>
          obtain ⟨e, hi'⟩ := subI_ok hp hi
          rw [e]; exact .int _ _ hi'
      · exact no hp
    · cases hd; rw [hd1 hp]; exact .bool _
    · have := hd1 hp; subst this; cases hd; exact .str _ (by assumption)
    · cases hd; exact .nilptr
    · -- ptr
      split at hp
      · rename_i q hf
        split at hp
        · rename_i hb
          rw [Bool.and_eq_true] at hb
          cases hd with
          | ptr _ _ b hv =>
            have := Nat.eq_of_beq_eq_true hb.2; subst this
            exact .ptr _ _ b (nm hf hb.1 hv)
        · exact no hp
      · exact no hp
    · -- freeze a box
      split at hp
      · rename_i l hr hh
        cases hd with
        | ptr _ _ b hv =>
          obtain ⟨v, hv', b', vs, T, e, hb, hl⟩ := M.at_ _ _ hh
          rw [hv] at hv'; cases hv'; cases e
          exact .rop _ vs b 0 (.inr ⟨_, _, _, hr, hh, hv, rfl⟩) ((ih _ (Nat.lt_succ_self _)).2.1 _ _ _ hl hp) (cells_at hb)
      · exact no hp
    · -- own
      split at hp
      · rename_i q hf
        split at hp
        · rename_i hb
          cases hd with
          | own _ A m cap hv => exact .own _ A m cap (nm hf hb hv)
        · exact no hp
      · exact no hp
    · -- nil
      split at hp
      · rename_i q hf
        split at hp
        · rename_i hb
          cases hd; exact .own _ _ _ _ (ρσ_nil hf hb)
        · exact no hp
      · exact no hp
    · -- freeze a slice
      split at hp
      · rename_i t' l' hr hh
        split at hp
        · rename_i e heq
          subst e
          have e := hd1 hp
          simp only at e
          subst e
          cases hd with
          | own _ A m cap hv =>
            obtain ⟨rfl, h1, h2, vs, h3, h4⟩ := frozen_row M hr hh hv
            exact .ro _ _ A cap vs h1 h2 (flatL _ _ _ h3) fun hl => let ⟨b, e1, e2, e3⟩ := h4 hl; ⟨b, 0, e1, e2, e3⟩
        · exact no hp
      · exact no hp
    · -- view
      split at hp
      · rename_i q hf ht
        split at hp
        · rename_i hb
          have ht := of_decide_eq_true ht
          have e1 := hd1 hp
          have e2 := hd2 hp
          subst ht e1 e2
          cases hd with
          | view _ _ _ _ A A' m cap cap' hv h1 h2 h3 h4 => exact .view _ _ _ _ A A' m cap cap' (nm hf hb hv) h1 h2 h3 h4
        · exact no hp
      · exact no hp
    · -- ro
      split at hp
      · rename_i e heq
        subst e
        have e := hd1 hp
        simp only at e
        subst e
        cases hd with
        | ro _ _ A cap vs h1 h2 h3 h4 => exact .ro _ _ A cap vs h1 h2 (flatL _ _ _ h3) fun hl => let ⟨b, off, e1, e2, e3⟩ := h4 hl; ⟨b, off, e1, .inl e2, e3⟩
      · exact no hp
    · cases hd; exact .nilslice
    · have := hd1 hp; subst this; cases hd
      exact .ro _ [] none 0 [] (Nat.le_refl _) (Nat.zero_le _) .nil fun h => (h rfl).elim
    · cases hd; exact .nilmap
    · -- map
      split at hp
      · rename_i q hf
        split at hp
        · rename_i hb
          cases hd with
          | map _ b hv => exact .map _ b (nm hf hb hv)
        · exact no hp
      · exact no hp
    · cases hd; exact .nilFunc
    · -- func
      split at hp
      · rename_i hb
        have := Nat.eq_of_beq_eq_true hb; subst this
        cases hd with
        | func _ _ vs hl => exact .func _ _ vs ((ih _ (Nat.lt_succ_self _)).2.2 _ _ _ hl hp)
      · exact no hp
    · cases hd; exact .nilIface
    · have := hd1 hp; subst this; exact hd.free (fun _ h => .inl h) rfl
    · have := hd1 hp; subst this; cases hd; exact .fine
    · -- freeze an error
      split at hp
      · rename_i p e' hta hr hh
        have := Nat.eq_of_beq_eq_true hta; subst this
        have e1 := hd1 hp; have e2 := hd2 hp; have e3 := hd3 hp
        cases hd with
        | iface _ _ v hd =>
          cases hd with
          | ptr _ _ b hv =>
            obtain ⟨v, hv', b', vs, T, e, hb, hl⟩ := M.at_ _ _ hh
            rw [hv] at hv'; cases hv'; cases e
            obtain ⟨v1, us, rfl, o1, d1, hl⟩ := hl.inv_one rfl
            obtain ⟨v2, us, rfl, o2, d2, hl⟩ := hl.inv_one rfl
            cases hl
            cases d1 with
            | int _ _ hi =>
              cases e' with
              | fine => cases e2
              | placed n q => cases e3
              | bare n =>
                cases d2 with
                | bare _ hn =>
                  rw [e1]
                  exact .placed n _ b 0 hn (.inr ⟨_, _, _, hr, hh, hv, rfl⟩) hi.lo hi.hi (cells_at hb)
      · exact no hp
    · -- iface
      split at hp
      · rename_i hb
        have := Nat.eq_of_beq_eq_true hb; subst this
        cases hd with
        | iface _ _ v hd => exact .iface _ _ v ((ih _ (Nat.lt_succ_self _)).1 _ _ _ hd hp)
      · exact no hp
    · cases hd with
      | agg _ vs hl => exact .agg _ vs ((ih _ (Nat.lt_succ_self _)).2.1 _ _ _ hl hp)
    · cases hd with
      | tuple _ vs hl => exact .tuple _ vs ((ih _ (Nat.lt_succ_self _)).2.2 _ _ _ hl hp)
    · cases hd with
      | rop _ vs b off h1 hl h2 => exact .rop _ vs b off (.inl h1) ((ih _ (Nat.lt_succ_self _)).2.1 _ _ _ hl hp) h2
    · -- arr
      split at hp
      · rename_i e heq hn
        subst e
        have hn := Nat.eq_of_beq_eq_true hn
        subst hn
        have e := hd1 hp
        simp only at e
        subst e
        cases hd with
        | arr _ _ _ vs h1 h2 => exact .arr _ _ _ vs h1 (flatL _ _ _ h2)
      · exact no hp
    · -- eptr
      split at hp
      · rename_i q hf
        split at hp
        · rename_i hb
          rw [Bool.and_eq_true, Bool.and_eq_true] at hb
          have e := hd1 hp
          subst e
          have := Nat.eq_of_beq_eq_true hb.1.2; subst this
          have := Nat.eq_of_beq_eq_true hb.2; subst this
          cases hd with
          | eptr _ _ _ _ b m cap hv h1 h2 => exact .eptr _ _ _ _ b m cap (nm hf hb.1.1 hv) h1 h2
        · exact no hp
      · exact no hp
    · exact no hp
  refine ⟨hS, fun l l' vs hd hp => ?_, fun l l' vs hd hp => ?_⟩
  · unfold subL at hp
    split at hp
    · cases hd; exact .nil
    · rename_i m a l b l'
      split at hp
      · rename_i hb
        have hb := eqB_ok hb
        have ih := ih _ (Nat.lt_succ_self m)
        have h1 := fun p hm => hp p (List.mem_append_left _ hm)
        have h2 := fun p hm => hp p (List.mem_append_right _ hm)
        cases ha : a.isArr with
        | false =>
          obtain ⟨v, us, rfl, o1, d1, hl⟩ := hd.inv_one ha
          exact .one _ _ _ _ (by rw [← hb, ha]) o1 (ih.1 _ _ _ d1 h1) (ih.2.1 _ _ _ hl h2)
        | true =>
          cases hd with
          | one _ _ _ _ h => rw [ha] at h; cases h
          | arr t n xs us _ vs' e1 e2 e3 =>
            have hbv := ih.1 (.arr t n xs) b (.agg us.toArray) (.arr _ _ _ _ e1 e2) h1
            rw [ha] at hb
            cases b <;> simp [SVal.isArr] at hb
            rename_i t' n' xs'
            cases hbv with
            | arr _ _ _ us' f1 f2 =>
              rename_i hus
              exact .arr _ _ _ _ _ _ f1 f2 (ih.2.1 _ _ _ e3 h2)
      · exact no hp
    · exact no hp
  · unfold subL at hp
    split at hp
    · cases hd; exact .nil
    · rename_i m a l b l'
      split at hp
      · have ih := ih _ (Nat.lt_succ_self m)
        have h1 := fun p hm => hp p (List.mem_append_left _ hm)
        have h2 := fun p hm => hp p (List.mem_append_right _ hm)
        cases hd with
        | cons _ v _ us d1 hl => exact .cons _ _ _ _ (ih.1 _ _ _ d1 h1) (ih.2.2 _ _ _ hl h2)
      · exact no hp
    · exact no hp
end
end Go.Sy
