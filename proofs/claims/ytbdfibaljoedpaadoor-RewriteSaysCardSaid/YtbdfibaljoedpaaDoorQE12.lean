/- Words that the proofs use, part 12. -/
import Derived.Test.YtbdfibaljoedpaaDoorQE11
set_option linter.unusedVariables false
set_option linter.unusedSimpArgs false
namespace Go.Sy
open Go.RowKit
mutual
def rnV (f : Nat → Nat) : SVal → SVal
  | .ptr r off => .ptr (f r) off
  | .eptr r w i j => .eptr (f r) w i j
  | .aptr r off w n i j => .aptr (f r) off w n i j
  | .rop l => .rop (rnL f l)
  | .own r => .own (f r)
  | .view t r k n => .view t (f r) k n
  | .map r => .map (f r)
  | .func g l => .func g (rnL f l)
  | .iface t v => .iface t (rnV f v)
  | .agg l => .agg (rnL f l)
  | .tuple l => .tuple (rnL f l)
  | v => v
def rnL (f : Nat → Nat) : List SVal → List SVal
  | [] => []
  | a :: l => rnV f a :: rnL f l
end
def rnC (f : Nat → Nat) : Cont → Cont
  | .cells l => .cells (rnL f l)
  | .row w l => .row w (rnL f l)
  | c => c
def rnH (f : Nat → Nat) : List (Nat × Cont) → List (Nat × Option Cont)
  | [] => []
  | (n, c) :: l => (f n, some (rnC f c)) :: rnH f l
def fN : List Nat → Nat → Nat → Nat
  | [], next, i => Nat.add next i
  | q :: _, _, 0 => q
  | _ :: l, next, i + 1 => fN l next i
def genR (kept : List Nat) (fz : List (Nat × Option Cont)) (next : Nat) (v : SVal) (hp : List (Nat × Cont)) (k : Nat) (vc : Option Prop := none) : ORes :=
  { v := rnV (fN kept next) v, ws := fz ++ rnH (fN kept next) hp, k := k, vc := vc }
section
variable {C : Ctx} {gl : List (Nat × SVal)} {W : World} {R : Nat → Prop} {ρ ρ' : Nat → Option Value} {f : Nat → Nat}
theorem rnV_arr (s : SVal) : (rnV f s).isArr = s.isArr := by cases s <;> (unfold rnV; rfl)
mutual
theorem Den.rn (hρ : ∀ r v, ρ r = some v → ρ' (f r) = some v) : ∀ {s v}, Den C W R ρ s v → Den C W R ρ' (rnV f s) v
  | _, _, .any v => by unfold rnV; exact .any v
  | _, _, .int k n h => by unfold rnV; exact .int k n h
  | _, _, .bool b => by unfold rnV; exact .bool b
  | _, _, .str s h => by unfold rnV; exact .str s h
  | _, _, .nilptr => by unfold rnV; exact .nilptr
  | _, _, .ptr r off b h => by unfold rnV; exact .ptr _ off b (hρ _ _ h)
  | _, _, .eptr r w i j b n cap h h1 h2 => by unfold rnV; exact .eptr _ w i j b n cap (hρ _ _ h) h1 h2
  | _, _, .aptr r off w n i j b h h1 h2 => by unfold rnV; exact .aptr _ off w n i j b (hρ _ _ h) h1 h2
  | _, _, .rop l vs b off h1 h2 h3 => by unfold rnV; exact .rop _ vs b off h1 (DenL.rn hρ h2) h3
  | _, _, .nilslice => by unfold rnV; exact .nilslice
  | _, _, .own r A n cap h => by unfold rnV; exact .own _ A n cap (hρ _ _ h)
  | _, _, .view t r k n A A' m cap cap' h h1 h2 h3 h4 h5 => by unfold rnV; exact .view t _ k n A A' m cap cap' (hρ _ _ h) h1 h2 h3 h4 h5
  | _, _, .ro t l A cap vs h1 h2 h3 h4 h5 => by unfold rnV; exact .ro t l A cap vs h1 h2 (h3.free (fun _ h => h) (flat_plain t l)) h4 h5
  | _, _, .roN t l A cap vs h1 h2 h3 h4 => by unfold rnV; exact .roN t l A cap vs h1 h2 (h3.free (fun _ h => h) (flat_plain t l)) h4
  | _, _, .nilmap => by unfold rnV; exact .nilmap
  | _, _, .map r b h => by unfold rnV; exact .map _ b (hρ _ _ h)
  | _, _, .nilFunc => by unfold rnV; exact .nilFunc
  | _, _, .func f l vs h => by unfold rnV; exact .func f _ vs (DenA.rn hρ h)
  | _, _, .nilIface => by unfold rnV; exact .nilIface
  | _, _, .iface t s v h => by unfold rnV; exact .iface t _ v (Den.rn hρ h)
  | _, _, .fine => by unfold rnV; exact .fine
  | _, _, .bare n h => by unfold rnV; exact .bare n h
  | _, _, .placed n p b off h1 h2 h3 h4 h5 => by unfold rnV; exact .placed n p b off h1 h2 h3 h4 h5
  | _, _, .atp n p b off h1 h2 h3 h4 h5 => by unfold rnV; exact .atp n p b off h1 h2 h3 h4 h5
  | _, _, .atnil e h => by unfold rnV; exact .atnil e h
  | _, _, .agg l vs h => by unfold rnV; exact .agg _ vs (DenL.rn hρ h)
  | _, _, .arr t n xs vs h1 h2 => by unfold rnV; exact .arr t n xs vs h1 (h2.free (fun _ h => h) (flat_plain t xs))
  | _, _, .tuple l vs h => by unfold rnV; exact .tuple _ vs (DenA.rn hρ h)
theorem DenL.rn (hρ : ∀ r v, ρ r = some v → ρ' (f r) = some v) : ∀ {l vs}, DenL C W R ρ l vs → DenL C W R ρ' (rnL f l) vs
  | _, _, .nil => by unfold rnL; exact .nil
  | _, _, .one s v l vs h1 h2 h3 h4 => by unfold rnL; exact .one _ v _ vs (by rw [rnV_arr]; exact h1) h2 (Den.rn hρ h3) (DenL.rn hρ h4)
  | _, _, .arr t n xs us l vs h1 h2 h3 => by
    unfold rnL
    have : rnV f (.arr t n xs) = .arr t n xs := by unfold rnV; rfl
    rw [this]; exact .arr t n xs us _ vs h1 (h2.free (fun _ h => h) (flat_plain t xs)) (DenL.rn hρ h3)
theorem DenA.rn (hρ : ∀ r v, ρ r = some v → ρ' (f r) = some v) : ∀ {l vs}, DenA C W R ρ l vs → DenA C W R ρ' (rnL f l) vs
  | _, _, .nil => by unfold rnL; exact .nil
  | _, _, .cons s v l vs h1 h2 => by unfold rnL; exact .cons _ v _ vs (Den.rn hρ h1) (DenA.rn hρ h2)
end
theorem HoldC.rn (hρ : ∀ r v, ρ r = some v → ρ' (f r) = some v) {v : Value} {c : Cont} (h : HoldC C W R ρ v c) : HoldC C W R ρ' v (rnC f c) := by
  cases c with
  | cells l => obtain ⟨b, vs, T, rfl, hh, hl⟩ := h; exact ⟨b, vs, T, rfl, hh, hl.rn hρ⟩
  | recs t l => obtain ⟨e, vs, ho, hl⟩ := h; exact ⟨e, vs, ho, hl.free (fun _ h => h) (flat_plain t l)⟩
  | row w l => obtain ⟨e, vs, n, ho, hl, h0⟩ := h; exact ⟨e, vs, n, ho, hl.rn hρ, h0⟩
  | strMap m => exact h
  | intMap m => exact h
theorem rnH_mem {hp : List (Nat × Cont)} {n : Nat} {c : Option Cont} (h : find n (rnH f hp) = some c) : ∃ q c0, n = f q ∧ (q, c0) ∈ hp ∧ c = some (rnC f c0) := by
  induction hp with
  | nil => cases h
  | cons p hp ih =>
    obtain ⟨m, c0⟩ := p
    simp only [rnH, find] at h
    split at h
    · rename_i hb
      cases h
      exact ⟨m, c0, (Nat.eq_of_beq_eq_true hb).symm, List.mem_cons_self .., rfl⟩
    · obtain ⟨q, c1, h1, h2, h3⟩ := ih h
      exact ⟨q, c1, h1, List.mem_cons_of_mem _ h2, h3⟩
theorem rnH_key {hp : List (Nat × Cont)} {q : Nat} (h : q ∈ keysH hp) : f q ∈ keys (rnH f hp) := by
  induction hp with
  | nil => cases h
  | cons p hp ih =>
    obtain ⟨m, c0⟩ := p
    simp only [rnH, keys, List.map_cons, List.mem_cons, keysH] at h ⊢
    rcases h with rfl | h
    · exact .inl rfl
    · exact .inr (ih h)
theorem keysH_of {hp : List (Nat × Cont)} {q : Nat} {c : Cont} (h : (q, c) ∈ hp) : q ∈ keysH hp := by
  induction hp with
  | nil => cases h
  | cons p hp ih =>
    obtain ⟨m, c0⟩ := p
    simp only [keysH, List.mem_cons] at h ⊢
    rcases h with h | h
    · cases h; exact .inl rfl
    · exact .inr (ih h)
theorem optH_find {hp : List (Nat × Cont)} (hn : nodupB (keysH hp) = true) {q : Nat} {c : Cont} (h : (q, c) ∈ hp) : find q (optH hp) = some (some c) := by
  induction hp with
  | nil => cases h
  | cons p hp ih =>
    obtain ⟨m, c0⟩ := p
    simp only [optH, find]
    simp only [keysH, nodupB] at hn
    split at hn
    · cases hn
    · rename_i hm
      rcases List.mem_cons.1 h with h | h
      · cases h; rw [Nat.beq_refl]
      · have : m.beq q = false := by
          cases hb : m.beq q with
          | false => rfl
          | true =>
            have := Nat.eq_of_beq_eq_true hb; subst this
            rw [memN_iff.2 (keysH_of h)] at hm; cases hm
        rw [this]; exact ih hn h
def tauG (f : Nat → Nat) : List Nat → List (Nat × Nat)
  | [] => []
  | q :: l => (f q, q) :: tauG f l
theorem tauG_find {l : List Nat} {n q : Nat} (h : find n (tauG f l) = some q) : n = f q ∧ q ∈ l := by
  induction l with
  | nil => cases h
  | cons m l ih =>
    simp only [tauG, find] at h
    split at h
    · rename_i hb; cases h; exact ⟨(Nat.eq_of_beq_eq_true hb).symm, List.mem_cons_self ..⟩
    · exact ⟨(ih h).1, List.mem_cons_of_mem _ (ih h).2⟩
theorem tauG_has {l : List Nat} {q : Nat} (h : q ∈ l) (hi : ∀ m ∈ l, f m = f q → m = q) : find (f q) (tauG f l) = some q := by
  induction l with
  | nil => cases h
  | cons m l ih =>
    simp only [tauG, find]
    cases hb : Nat.beq (f m) (f q) with
    | true => rw [hi m (List.mem_cons_self ..) (Nat.eq_of_beq_eq_true hb)]
    | false =>
      rcases List.mem_cons.1 h with e | h
      · subst e; rw [Nat.beq_refl] at hb; cases hb
      · exact ih h fun m hm => hi m (List.mem_cons_of_mem _ hm)
theorem tauG_snd (l : List Nat) : sndN (tauG f l) = l := by
  induction l with
  | nil => rfl
  | cons m l ih => simp only [tauG, sndN, ih]
theorem fN_lt : ∀ {kept : List Nat} {next i : Nat}, i < kept.length → ∃ q, kept[i]? = some q ∧ fN kept next i = q
  | [], _, _, h => by cases h
  | q :: l, next, 0, _ => ⟨q, rfl, rfl⟩
  | q :: l, next, i + 1, h => by
    obtain ⟨q', h1, h2⟩ := fN_lt (kept := l) (next := next) (i := i) (by simpa using h)
    exact ⟨q', by simpa using h1, h2⟩
theorem fN_ge : ∀ {kept : List Nat} {next i : Nat}, kept.length ≤ i → fN kept next i = next + (i - kept.length)
  | [], next, i, _ => by simp [fN]
  | q :: l, next, 0, h => by simp at h
  | q :: l, next, i + 1, h => by
    simp only [fN]
    rw [fN_ge (by simpa using h)]
    simp
def ltB (r m : Nat) : Bool := Nat.ble (r + 1) m
mutual
def okV (m : Nat) : SVal → Bool
  | .ptr r _ => ltB r m
  | .eptr r _ _ _ => ltB r m
  | .aptr r _ _ _ _ _ => ltB r m
  | .rop l => okL m l
  | .own r => ltB r m
  | .view _ r _ _ => ltB r m
  | .map r => ltB r m
  | .func _ l => okL m l
  | .iface _ v => okV m v
  | .agg l => okL m l
  | .tuple l => okL m l
  | _ => true
def okL (m : Nat) : List SVal → Bool
  | [] => true
  | a :: l => okV m a && okL m l
end
def okC (m : Nat) : Cont → Bool
  | .cells l => okL m l
  | .row _ l => okL m l
  | _ => true
theorem ltB_ok {r m : Nat} (h : ltB r m = true) : r < m := Nat.le_of_ble_eq_true h
mutual
theorem Den.unrn {m : Nat} (hρ : ∀ r v, r < m → ρ (f r) = some v → ρ' r = some v) : ∀ (s : SVal) {v : Value}, okV m s = true → Den C W R ρ (rnV f s) v → Den C W R ρ' s v
  | .ptr r off, v, ho, h => by unfold rnV at h; unfold okV at ho; cases h with | ptr _ _ b h => exact .ptr r off b (hρ _ _ (ltB_ok ho) h)
  | .eptr r w i j, v, ho, h => by unfold rnV at h; unfold okV at ho; cases h with | eptr _ _ _ _ b n cap h h1 h2 => exact .eptr r w i j b n cap (hρ _ _ (ltB_ok ho) h) h1 h2
  | .aptr r off w n i j, v, ho, h => by unfold rnV at h; unfold okV at ho; cases h with | aptr _ _ _ _ _ _ b h h1 h2 => exact .aptr r off w n i j b (hρ _ _ (ltB_ok ho) h) h1 h2
  | .rop l, v, ho, h => by unfold rnV at h; unfold okV at ho; cases h with | rop _ vs b off h1 h2 h3 => exact .rop l vs b off h1 (DenL.unrn hρ l ho h2) h3
  | .own r, v, ho, h => by unfold rnV at h; unfold okV at ho; cases h with | own _ A n cap h => exact .own r A n cap (hρ _ _ (ltB_ok ho) h)
  | .view t r k n, v, ho, h => by unfold rnV at h; unfold okV at ho; cases h with | view _ _ _ _ A A' m cap cap' h h1 h2 h3 h4 h5 => exact .view t r k n A A' m cap cap' (hρ _ _ (ltB_ok ho) h) h1 h2 h3 h4 h5
  | .map r, v, ho, h => by unfold rnV at h; unfold okV at ho; cases h with | map _ b h => exact .map r b (hρ _ _ (ltB_ok ho) h)
  | .func g l, v, ho, h => by unfold rnV at h; unfold okV at ho; cases h with | func _ _ vs h => exact .func g l vs (DenA.unrn hρ l ho h)
  | .iface t s, v, ho, h => by unfold rnV at h; unfold okV at ho; cases h with | iface _ _ v h => exact .iface t s v (Den.unrn hρ s ho h)
  | .agg l, v, ho, h => by unfold rnV at h; unfold okV at ho; cases h with | agg _ vs h => exact .agg l vs (DenL.unrn hρ l ho h)
  | .tuple l, v, ho, h => by unfold rnV at h; unfold okV at ho; cases h with | tuple _ vs h => exact .tuple l vs (DenA.unrn hρ l ho h)
  | .any, v, _, h => .any v
  | .int k n, v, _, h => by unfold rnV at h; exact h.free (fun _ h => h) rfl
  | .bool b, v, _, h => by unfold rnV at h; exact h.free (fun _ h => h) rfl
  | .str s, v, _, h => by unfold rnV at h; exact h.free (fun _ h => h) rfl
  | .err e, v, _, h => by unfold rnV at h; exact h.free (fun _ h => h) rfl
  | .nilptr, v, _, h => by unfold rnV at h; cases h; exact .nilptr
  | .nilslice, v, _, h => by unfold rnV at h; cases h; exact .nilslice
  | .nilmap, v, _, h => by unfold rnV at h; cases h; exact .nilmap
  | .nilFunc, v, _, h => by unfold rnV at h; cases h; exact .nilFunc
  | .nilIface, v, _, h => by unfold rnV at h; cases h; exact .nilIface
  | .ro t l, v, _, h => by unfold rnV at h; cases h with | ro _ _ A cap vs h1 h2 h3 h4 h5 => exact .ro t l A cap vs h1 h2 (h3.free (fun _ h => h) (flat_plain t l)) h4 h5
  | .roN t l, v, _, h => by unfold rnV at h; cases h with | roN _ _ a cap vs h1 h2 h3 h4 => exact .roN t l a cap vs h1 h2 (h3.free (fun _ h => h) (flat_plain t l)) h4
  | .atp e, v, _, h => by
    unfold rnV at h
    cases h with
    | atp n p b off h1 h2 h3 h4 h5 => exact .atp n p b off h1 h2 h3 h4 h5
    | atnil _ h => exact .atnil _ h
  | .arr t n xs, v, _, h => by unfold rnV at h; cases h with | arr _ _ _ vs h1 h2 => exact .arr t n xs vs h1 (h2.free (fun _ h => h) (flat_plain t xs))
theorem DenL.unrn {m : Nat} (hρ : ∀ r v, r < m → ρ (f r) = some v → ρ' r = some v) : ∀ (l : List SVal) {vs : List Value}, okL m l = true → DenL C W R ρ (rnL f l) vs → DenL C W R ρ' l vs
  | [], vs, _, h => by unfold rnL at h; cases h; exact .nil
  | s :: l, vs, ho, h => by
    unfold rnL at h
    unfold okL at ho
    rw [Bool.and_eq_true] at ho
    cases ha : s.isArr with
    | false =>
      obtain ⟨v, us, rfl, h2, h3, h4⟩ := h.inv_one (by rw [rnV_arr]; exact ha)
      exact .one s v l us ha h2 (Den.unrn hρ s ho.1 h3) (DenL.unrn hρ l ho.2 h4)
    | true =>
      cases s <;> simp [SVal.isArr] at ha
      rename_i t n xs
      have e : rnV f (.arr t n xs) = .arr t n xs := by unfold rnV; rfl
      rw [e] at h
      cases h with
      | one _ _ _ _ h => cases h
      | arr _ _ _ us _ vs h1 h2 h3 => exact .arr t n xs us l vs h1 (h2.free (fun _ h => h) (flat_plain t xs)) (DenL.unrn hρ l ho.2 h3)
theorem DenA.unrn {m : Nat} (hρ : ∀ r v, r < m → ρ (f r) = some v → ρ' r = some v) : ∀ (l : List SVal) {vs : List Value}, okL m l = true → DenA C W R ρ (rnL f l) vs → DenA C W R ρ' l vs
  | [], vs, _, h => by unfold rnL at h; cases h; exact .nil
  | s :: l, vs, ho, h => by
    unfold rnL at h
    unfold okL at ho
    rw [Bool.and_eq_true] at ho
    cases h with
    | cons _ v _ us h1 h2 => exact .cons s v l us (Den.unrn hρ s ho.1 h1) (DenA.unrn hρ l ho.2 h2)
end
theorem HoldC.unrn {m : Nat} (hρ : ∀ r v, r < m → ρ (f r) = some v → ρ' r = some v) {v : Value} {c : Cont} (ho : okC m c = true) (h : HoldC C W R ρ v (rnC f c)) : HoldC C W R ρ' v c := by
  cases c with
  | cells l => obtain ⟨b, vs, T, rfl, hh, hl⟩ := h; exact ⟨b, vs, T, rfl, hh, DenL.unrn hρ l ho hl⟩
  | recs t l => obtain ⟨e, vs, ho, hl⟩ := h; exact ⟨e, vs, ho, hl.free (fun _ h => h) (flat_plain t l)⟩
  | row w l => obtain ⟨e, vs, n, ho', hl, h0⟩ := h; exact ⟨e, vs, n, ho', DenL.unrn hρ l ho hl, h0⟩
  | strMap m => exact h
  | intMap m => exact h
def gq (qs : List Nat) (i : Nat) : Nat := qs.getD i 0
def numC : Nat → List Cont → List (Nat × Option Cont)
  | _, [] => []
  | n, c :: l => (n, some c) :: numC (n + 1) l
theorem numC_find : ∀ {l : List Cont} {n d : Nat} {c : Option Cont}, find d (numC n l) = some c → n ≤ d ∧ ∃ c0, c = some c0 ∧ l[d - n]? = some c0 := by
  intro l
  induction l with
  | nil => intro n d c h; cases h
  | cons x l ih =>
    intro n d c h
    simp only [numC, find] at h
    split at h
    · rename_i hb
      have := Nat.eq_of_beq_eq_true hb; subst this
      cases h; exact ⟨Nat.le_refl _, x, rfl, by simp⟩
    · obtain ⟨h1, c0, h2, h3⟩ := ih h
      refine ⟨by omega, c0, h2, ?_⟩
      rw [show d - n = (d - (n + 1)) + 1 by omega]
      exact h3
theorem nodup_get : ∀ (L : List Nat), nodupB L = true → ∀ (i j q : Nat), L[i]? = some q → L[j]? = some q → i = j := by
  intro L
  induction L with
  | nil => intro _ i j q hi; simp at hi
  | cons m L ih =>
    intro hL i j q hi hj
    simp only [nodupB] at hL
    split at hL
    · cases hL
    · rename_i hm
      cases i <;> cases j
      · rfl
      · simp at hi hj; subst hi
        rw [memN_iff.2 (List.mem_of_getElem? hj)] at hm; cases hm
      · simp at hi hj; subst hj
        rw [memN_iff.2 (List.mem_of_getElem? hi)] at hm; cases hm
      · rename_i i j; rw [ih hL i j q (by simpa using hi) (by simpa using hj)]
theorem Enters.hand {h : Nat → Option Cont} (M : Mem C gl W R ρ h) {r : ORes} {qs : List Nat} {cs : List Cont} (hlen : cs.length = qs.length) (hnd : nodupB qs = true) (hc : ∀ (i q : Nat) (c : Cont), qs[i]? = some q → cs[i]? = some c → h q = some (rnC (gq qs) c))
    (hk : ∀ q ∈ qs, q ∈ keys r.ws) {args0 : List SVal} {vs : List Value} (hA : DenA C W R ρ (rnL (gq qs) args0) vs) (ho : okL qs.length args0 = true) (hoc : ∀ c ∈ cs, okC qs.length c = true) :
    Enters C gl W R ρ h r R (fun b => ∃ q v, q ∈ qs ∧ ρ q = some v ∧ blk v = some b) (fun i => (qs[i]?).bind ρ) (numC 0 cs) qs.length args0 vs := by
  have hρ : ∀ r v, r < qs.length → ρ (gq qs r) = some v → (fun i => (qs[i]?).bind ρ) r = some v := fun r v hr hv => by
    have e : qs[r]? = some (gq qs r) := by unfold gq; rw [List.getD_eq_getElem?_getD, List.getElem?_eq_getElem hr]; rfl
    simp only [e, Option.bind_some]; exact hv
  have known : ∀ i c, lookS (numC 0 cs) i = some c → ∃ q, qs[i]? = some q ∧ cs[i]? = some c ∧ h q = some (rnC (gq qs) c) := fun i c hi => by
    unfold lookS at hi
    cases hf : find i (numC 0 cs) with
    | none => rw [hf] at hi; cases hi
    | some c' =>
      rw [hf] at hi
      simp only [Option.getD_some] at hi
      obtain ⟨_, c0, e1, e2⟩ := numC_find hf
      rw [e1] at hi; cases hi
      rw [Nat.sub_zero] at e2
      have hlt : i < qs.length := by rw [← hlen]; exact (List.getElem?_eq_some_iff.1 e2).1
      exact ⟨qs[i], List.getElem?_eq_getElem hlt, e2, hc i _ _ (List.getElem?_eq_getElem hlt) e2⟩
  have named : ∀ {i q : Nat} {v : Value}, qs[i]? = some q → (qs[i]?).bind ρ = some v → ρ q = some v := fun {i q v} h1 h2 => by rw [h1] at h2; exact h2
  refine ⟨DenA.unrn hρ args0 ho hA, ⟨M.base, fun i c hi => ?_, fun i j c c' v v' b k1 k2 k3 k4 k5 k6 => ?_, fun i c v b k1 k2 k3 => ?_⟩, fun n hn => ?_, fun _ h => h, fun _ h => .inl h, fun b hb => ?_, fun b ⟨q, v, h1, h2, h3⟩ => ?_⟩
  · obtain ⟨q, e1, e2, e3⟩ := known i c hi
    obtain ⟨v, hv, hh⟩ := M.at_ q _ e3
    exact ⟨v, by simp only [e1, Option.bind_some]; exact hv, HoldC.unrn hρ (hoc c (List.mem_of_getElem? e2)) hh⟩
  · obtain ⟨q, e1, _, e3⟩ := known i c k1
    obtain ⟨q', e1', _, e3'⟩ := known j c' k2
    have := M.apart q q' _ _ v v' b e3 e3' (named e1 k3) (named e1' k4) k5 k6
    subst this
    exact nodup_get qs hnd i j q e1 e1'
  · obtain ⟨q, e1, _, e3⟩ := known i c k1
    exact M.off q _ v b e3 (named e1 k2) k3
  · simp [List.getElem?_eq_none hn]
  · obtain ⟨i, c, v, k1, k2, k3⟩ := hb
    obtain ⟨q, e1, _, e3⟩ := known i c k1
    exact ⟨q, v, List.mem_of_getElem? e1, named e1 k2, k3⟩
  · obtain ⟨i, hi⟩ := List.mem_iff_getElem?.1 h1
    have hlt : i < cs.length := by rw [hlen]; exact (List.getElem?_eq_some_iff.1 hi).1
    exact ⟨q, _, v, hk q h1, hc i q _ hi (List.getElem?_eq_getElem hlt), h2, h3⟩
def rangeN : Nat → Nat → List Nat
  | _, 0 => []
  | a, n + 1 => a :: rangeN (a + 1) n
theorem rangeN_mem {a n i : Nat} : i ∈ rangeN a n ↔ a ≤ i ∧ i < a + n := by
  induction n generalizing a with
  | zero => simp [rangeN]
  | succ n ih => simp only [rangeN, List.mem_cons, ih]; omega
theorem con_gen {P : Program} {E : Env} (EO : EnvOk P C gl E) {g : Nat} {fn : Func} {c : Code} (hf : P.funcs[g]? = some fn) (hb : fn.body = some c) {ls : List (Nat × LSum)} {n : Nat} {h : Nat → Option Cont}
    (M : Mem C gl W R ρ h) {qs rest : List Nat} {kept : List Nat} {cs : List Cont} {args0 : List SVal} {vs : List Value} (hA : DenA C W R ρ (rnL (gq qs) args0) vs) {next : Nat} {r : ORes} {rv : SVal} {hp : List (Nat × Cont)} {k : Nat} {fz : List (Nat × Option Cont)} {s1 : SState}
    (hr : r.v = rnV (fN kept next) rv ∧ r.ws = fz ++ rnH (fN kept next) hp ∧ r.k = k) (hz : ∀ p ∈ fz, p.2 = none) (hn : ∀ j, j < r.k → ρ (next + j) = none)
    (hqs : qs = kept ++ rest) (hlen : cs.length = qs.length) (hnd : nodupB qs = true) (hc : ∀ (i q : Nat) (c : Cont), qs[i]? = some q → cs[i]? = some c → h q = some (rnC (gq qs) c))
    (hk : ∀ q ∈ qs, q ∈ keys r.ws) (ho : (okL qs.length args0 && cs.all (okC qs.length)) = true)
    (hold : E.old = rangeN 0 kept.length) (hnt : fn.ntmps = n) (hlenA : Nat.ble args0.length n = true)
    (hfit : fits E { fr := numb 0 args0, hp := numC 0 cs, next := qs.length, sz := n } s1)
    (hm : (nodupB (keysH hp) && allLt (kept.length + k) (keysH hp) && boundIn (keysH hp) (kept.length + k)) = true)
    (HL : ∀ W R ρ0 own0, HownOk E own0 ρ0 → ∀ b ∈ loopsOf c, ∀ L, find (headId b) ls = some L → LOk P E C gl W R own0 ρ0 b L)
    (hrun : (run E ls c s1 (ends E fn.results.toList)).sat (newQ E rv hp (kept.length + k))) :
    Calls P g vs.toArray W fun e W' => ∃ v R' ρ', e = .returned v ∧ Trans C gl W R ρ h r.ws W' R' ρ' ∧ Den C W' R' ρ' r.v v := by
  subst hnt
  obtain ⟨r1, r2, r3⟩ := hr
  simp only [Bool.and_eq_true] at hm ho
  obtain ⟨⟨m1, m2⟩, m3⟩ := hm
  have hm2 := allLt_of m2
  have hm3 := boundIn_of m3
  have S := Enters.hand M (r := r) hlen hnd hc hk hA ho.1 (fun c hc => List.all_eq_true.1 ho.2 c hc)
  have keptq : ∀ {i q}, kept[i]? = some q → qs[i]? = some q := fun {i q} hi => by
    rw [hqs, List.getElem?_append_left (List.getElem?_eq_some_iff.1 hi).1]; exact hi
  have hsome : ∀ {i q}, kept[i]? = some q → ρ q ≠ none := fun {i q} hq => by
    have hq := keptq hq
    have hlt : i < cs.length := by rw [hlen]; exact (List.getElem?_eq_some_iff.1 hq).1
    obtain ⟨v, hv, _⟩ := M.at_ q _ (hc i q _ hq (List.getElem?_eq_getElem hlt))
    rw [hv]; simp
  have inj : ∀ i j, i < kept.length + k → j < kept.length + k → fN kept next i = fN kept next j → i = j := fun i j hi hj he => by
    rcases Nat.lt_or_ge i kept.length with a | a <;> rcases Nat.lt_or_ge j kept.length with b | b
    · obtain ⟨q, e1, e2⟩ := fN_lt (next := next) a
      obtain ⟨q', e3, e4⟩ := fN_lt (next := next) b
      rw [e2, e4] at he; subst he
      exact nodup_get _ hnd i j q (keptq e1) (keptq e3)
    · obtain ⟨q, e1, e2⟩ := fN_lt (next := next) a
      rw [e2, fN_ge b] at he
      exact (hsome e1 (by rw [he]; exact hn _ (by rw [r3]; omega))).elim
    · obtain ⟨q, e1, e2⟩ := fN_lt (next := next) b
      rw [e2, fN_ge a] at he
      exact (hsome e1 (by rw [← he]; exact hn _ (by rw [r3]; omega))).elim
    · rw [fN_ge a, fN_ge b] at he; omega
  have has : ∀ q ∈ keysH hp, find (fN kept next q) (tauG (fN kept next) (keysH hp)) = some q := fun q hq => tauG_has hq fun m hm he => inj m q (hm2 m hm) (hm2 q hq) he
  have sh : ∀ {ρ2 ρ3 : Nat → Option Value}, (∀ n, kept.length + k ≤ n → ρ2 n = none) → (∀ n q, find n (tauG (fN kept next) (keysH hp)) = some q → ρ3 n = ρ2 q) → ∀ r v, ρ2 r = some v → ρ3 (fN kept next r) = some v := fun ha he r v hv => by
    have : r < kept.length + k := Nat.lt_of_not_le fun hle => by rw [ha r hle] at hv; cases hv
    rw [he _ r (has r (hm3 r this))]; exact hv
  refine con_core EO hf hb M hn S hlenA HL fun I => ?_
  obtain ⟨R2, ρ2, I2⟩ := I.sub EO trivial hfit
  refine ⟨s1, R2, ρ2, I2, sat_mono (fun e s hs => ⟨_, _, tauG (fN kept next) (keysH hp), hs, ?_, ?_, ?_, ?_⟩) hrun⟩
  · intro W R ρ2 ρ3 u M2 ha he _ _ hd
    rw [r1]
    exact Den.rn (sh ha he) hd
  · intro j c hc
    rw [r2, find_append] at hc
    split at hc
    · rename_i c' hf
      cases hc
      exact .inl (hz _ (find_mem hf))
    · obtain ⟨q, c0, rfl, hq, rfl⟩ := rnH_mem hc
      have hq' := optH_find m1 hq
      exact .inr ⟨q, c0, _, has q (keysH_of hq), rfl, optH_look hq', fun W R ρ2 ρ3 u M2 ha he _ _ hh => hh.rn (sh ha he)⟩
  · intro j q hq
    obtain ⟨rfl, hm⟩ := tauG_find hq
    have hlt := hm2 q hm
    rcases Nat.lt_or_ge q kept.length with a | a
    · obtain ⟨q', e1, e2⟩ := fN_lt (next := next) a
      refine .inl ⟨by rw [hold]; exact rangeN_mem.2 ⟨Nat.zero_le _, by omega⟩, ?_, ?_⟩
      · rw [e2, keptq e1]; rfl
      · rw [e2]; exact hsome e1
    · rw [fN_ge a]
      refine .inr ⟨?_, by omega, by rw [r3]; omega⟩
      rw [r2]; simp only [keys, List.map_append, List.mem_append]
      right
      have := rnH_key (f := fN kept next) hm
      rw [fN_ge a] at this
      exact this
  · rw [tauG_snd]; exact m1
end
end Go.Sy

