/- Calls that yield new memory. -/
import Derived.Test.YtbdfibaljoedpaaDoorSyLoop
set_option linter.unusedVariables false
set_option linter.unusedSimpArgs false
namespace Go.Sy
open Go.RowKit

/-! Names further on by d. -/
mutual
def shV (d : Nat) : SVal → SVal
  | .ptr r off => .ptr (Nat.add d r) off
  | .eptr r w i j => .eptr (Nat.add d r) w i j
  | .aptr r off w n i j => .aptr (Nat.add d r) off w n i j
  | .rop l => .rop (shL d l)
  | .own r => .own (Nat.add d r)
  | .view t r k n => .view t (Nat.add d r) k n
  | .map r => .map (Nat.add d r)
  | .func f l => .func f (shL d l)
  | .iface t v => .iface t (shV d v)
  | .agg l => .agg (shL d l)
  | .tuple l => .tuple (shL d l)
  | v => v
def shL (d : Nat) : List SVal → List SVal
  | [] => []
  | a :: l => shV d a :: shL d l
end
def shC (d : Nat) : Cont → Cont
  | .cells l => .cells (shL d l)
  | .row w l => .row w (shL d l)
  | c => c
def shH (d : Nat) : List (Nat × Cont) → List (Nat × Option Cont)
  | [] => []
  | (n, c) :: l => (Nat.add d n, some (shC d c)) :: shH d l
def optH : List (Nat × Cont) → List (Nat × Option Cont)
  | [] => []
  | (n, c) :: l => (n, some c) :: optH l

/-- A value with new memory: names 0 .. m - 1, which become next .. -/
def newR (next : Nat) (v : SVal) (hp : List (Nat × Cont)) (m : Nat) (vc : Option Prop := none) : ORes := { v := shV next v, ws := shH next hp, k := m, vc := vc }

section
variable {C : Ctx} {gl : List (Nat × SVal)} {W : World} {R : Nat → Prop} {ρ ρ' : Nat → Option Value} {d : Nat}

theorem shV_arr (s : SVal) : (shV d s).isArr = s.isArr := by cases s <;> (unfold shV; rfl)
mutual
theorem Den.shift (hρ : ∀ r v, ρ r = some v → ρ' (d + r) = some v) : ∀ {s v}, Den C W R ρ s v → Den C W R ρ' (shV d s) v
  | _, _, .any v => by unfold shV; exact .any v
  | _, _, .int k n h => by unfold shV; exact .int k n h
  | _, _, .bool b => by unfold shV; exact .bool b
  | _, _, .str s h => by unfold shV; exact .str s h
  | _, _, .nilptr => by unfold shV; exact .nilptr
  | _, _, .ptr r off b h => by unfold shV; exact .ptr _ off b (hρ _ _ h)
  | _, _, .eptr r w i j b n cap h h1 h2 => by unfold shV; exact .eptr _ w i j b n cap (hρ _ _ h) h1 h2
  | _, _, .aptr r off w n i j b h h1 h2 => by unfold shV; exact .aptr _ off w n i j b (hρ _ _ h) h1 h2
  | _, _, .rop l vs b off h1 h2 h3 => by unfold shV; exact .rop _ vs b off h1 (DenL.shift hρ h2) h3
  | _, _, .nilslice => by unfold shV; exact .nilslice
  | _, _, .own r A n cap h => by unfold shV; exact .own _ A n cap (hρ _ _ h)
  | _, _, .view t r k n A A' m cap cap' h h1 h2 h3 h4 => by unfold shV; exact .view t _ k n A A' m cap cap' (hρ _ _ h) h1 h2 h3 h4
  | _, _, .ro t l A cap vs h1 h2 h3 h4 => by unfold shV; exact .ro t l A cap vs h1 h2 (h3.free (fun _ h => h) (flat_plain t l)) h4
  | _, _, .nilmap => by unfold shV; exact .nilmap
  | _, _, .map r b h => by unfold shV; exact .map _ b (hρ _ _ h)
  | _, _, .nilFunc => by unfold shV; exact .nilFunc
  | _, _, .func f l vs h => by unfold shV; exact .func f _ vs (DenA.shift hρ h)
  | _, _, .nilIface => by unfold shV; exact .nilIface
  | _, _, .iface t s v h => by unfold shV; exact .iface t _ v (Den.shift hρ h)
  | _, _, .fine => by unfold shV; exact .fine
  | _, _, .bare n h => by unfold shV; exact .bare n h
  | _, _, .placed n p b off h1 h2 h3 h4 h5 => by unfold shV; exact .placed n p b off h1 h2 h3 h4 h5
  | _, _, .atp n p b off h1 h2 h3 h4 h5 => by unfold shV; exact .atp n p b off h1 h2 h3 h4 h5
  | _, _, .atnil e h => by unfold shV; exact .atnil e h
  | _, _, .agg l vs h => by unfold shV; exact .agg _ vs (DenL.shift hρ h)
  | _, _, .arr t n xs vs h1 h2 => by unfold shV; exact .arr t n xs vs h1 (h2.free (fun _ h => h) (flat_plain t xs))
  | _, _, .tuple l vs h => by unfold shV; exact .tuple _ vs (DenA.shift hρ h)
theorem DenL.shift (hρ : ∀ r v, ρ r = some v → ρ' (d + r) = some v) : ∀ {l vs}, DenL C W R ρ l vs → DenL C W R ρ' (shL d l) vs
  | _, _, .nil => by unfold shL; exact .nil
  | _, _, .one s v l vs h1 h2 h3 h4 => by unfold shL; exact .one _ v _ vs (by rw [shV_arr]; exact h1) h2 (Den.shift hρ h3) (DenL.shift hρ h4)
  | _, _, .arr t n xs us l vs h1 h2 h3 => by
    unfold shL
    have : shV d (.arr t n xs) = .arr t n xs := by unfold shV; rfl
    rw [this]; exact .arr t n xs us _ vs h1 (h2.free (fun _ h => h) (flat_plain t xs)) (DenL.shift hρ h3)
theorem DenA.shift (hρ : ∀ r v, ρ r = some v → ρ' (d + r) = some v) : ∀ {l vs}, DenA C W R ρ l vs → DenA C W R ρ' (shL d l) vs
  | _, _, .nil => by unfold shL; exact .nil
  | _, _, .cons s v l vs h1 h2 => by unfold shL; exact .cons _ v _ vs (Den.shift hρ h1) (DenA.shift hρ h2)
end
theorem HoldC.shift (hρ : ∀ r v, ρ r = some v → ρ' (d + r) = some v) {v : Value} {c : Cont} (h : HoldC C W R ρ v c) : HoldC C W R ρ' v (shC d c) := by
  cases c with
  | cells l => obtain ⟨b, vs, T, rfl, hh, hl⟩ := h; exact ⟨b, vs, T, rfl, hh, hl.shift hρ⟩
  | recs t l => obtain ⟨e, vs, ho, hl⟩ := h; exact ⟨e, vs, ho, hl.free (fun _ h => h) (flat_plain t l)⟩
  | row w l => obtain ⟨e, vs, n, ho, hl, h0⟩ := h; exact ⟨e, vs, n, ho, hl.shift hρ, h0⟩
  | strMap m => exact h
  | intMap m => exact h

theorem shH_find {hp : List (Nat × Cont)} {n : Nat} {c : Option Cont} (h : find n (shH d hp) = some c) : ∃ q c0, n = d + q ∧ find q (optH hp) = some (some c0) ∧ c = some (shC d c0) := by
  induction hp with
  | nil => cases h
  | cons p hp ih =>
    obtain ⟨m, c0⟩ := p
    simp only [shH, find] at h
    cases hb : Nat.beq (Nat.add d m) n with
    | true =>
      rw [hb] at h
      cases h
      have := Nat.eq_of_beq_eq_true hb
      exact ⟨m, c0, this.symm, by simp [optH, find, Nat.beq_refl], rfl⟩
    | false =>
      rw [hb] at h
      obtain ⟨q, c1, h1, h2, h3⟩ := ih h
      refine ⟨q, c1, h1, ?_, h3⟩
      simp only [optH, find]
      have : m.beq q = false := by
        cases hq : m.beq q with
        | false => rfl
        | true =>
          have e := Nat.eq_of_beq_eq_true hq
          subst e
          rw [h1] at hb
          have : Nat.beq (Nat.add d m) (d + m) = true := Nat.beq_refl _
          rw [this] at hb; cases hb
      rw [this]; exact h2
theorem shH_key {hp : List (Nat × Cont)} {q : Nat} {c : Option Cont} (h : find q (optH hp) = some c) : d + q ∈ keys (shH d hp) := by
  induction hp with
  | nil => cases h
  | cons p hp ih =>
    obtain ⟨m, c0⟩ := p
    simp only [optH, find] at h
    simp only [shH, keys, List.map_cons, List.mem_cons]
    cases hb : m.beq q with
    | true => have := Nat.eq_of_beq_eq_true hb; subst this; exact .inl rfl
    | false => rw [hb] at h; exact .inr (ih h)

def tauF (next : Nat) : List Nat → List (Nat × Nat)
  | [] => []
  | q :: l => (next + q, q) :: tauF next l
theorem tau_find {next : Nat} {l : List Nat} {n q : Nat} (h : find n (tauF next l) = some q) : n = next + q ∧ q ∈ l := by
  have := find_mem h
  clear h
  induction l with
  | nil => cases this
  | cons m l ih =>
    rcases List.mem_cons.1 this with e | hm
    · cases e; exact ⟨rfl, List.mem_cons_self ..⟩
    · exact ⟨(ih hm).1, List.mem_cons_of_mem _ (ih hm).2⟩
theorem tau_has {next : Nat} {l : List Nat} {q : Nat} (h : q ∈ l) : find (next + q) (tauF next l) = some q := by
  induction l with
  | nil => cases h
  | cons m l ih =>
    simp only [tauF, find]
    cases hb : Nat.beq (next + m) (next + q) with
    | true => have := Nat.eq_of_beq_eq_true hb; have : m = q := by omega
              rw [this]
    | false =>
      rcases List.mem_cons.1 h with e | h
      · subst e; rw [Nat.beq_refl] at hb; cases hb
      · exact ih h
theorem tau_snd (next : Nat) (l : List Nat) : sndN (tauF next l) = l := by
  induction l with
  | nil => rfl
  | cons m l ih => simp only [tauF, sndN, ih]
theorem optH_look {hp : List (Nat × Cont)} {q : Nat} {c : Cont} (h : find q (optH hp) = some (some c)) : lookS (optH hp) q = some c := by unfold lookS; rw [h]; rfl
theorem optH_some {hp : List (Nat × Cont)} {q : Nat} {c : Option Cont} (h : find q (optH hp) = some c) : ∃ c0, c = some c0 := by
  induction hp with
  | nil => cases h
  | cons p hp ih =>
    obtain ⟨m, c0⟩ := p
    simp only [optH, find] at h
    split at h
    · cases h; exact ⟨c0, rfl⟩
    · exact ih h

def boundIn (l : List Nat) : Nat → Bool
  | 0 => true
  | m + 1 => memN m l && boundIn l m
theorem boundIn_of {l : List Nat} {m : Nat} (h : boundIn l m = true) : ∀ q, q < m → q ∈ l := by
  induction m with
  | zero => intro q hq; omega
  | succ m ih =>
    simp only [boundIn, Bool.and_eq_true] at h
    intro q hq
    by_cases e : q = m
    · subst e; exact memN_iff.1 h.1
    · exact ih h.2 q (by omega)

/-- What a run has to give whose result has new memory (names 0 .. m - 1; as many rows as names). -/
def newQ (E : Env) (v : SVal) (hp : List (Nat × Cont)) (m : Nat) : Exi → SState → Prop := fun _ s => fits E s { fr := [(0, v)], hp := optH hp, next := m, sz := 1 }

def keysH : List (Nat × Cont) → List Nat
  | [] => []
  | (n, _) :: l => n :: keysH l
def allLt (m : Nat) : List Nat → Bool
  | [] => true
  | q :: l => Nat.ble (q + 1) m && allLt m l
theorem allLt_of {m : Nat} {l : List Nat} (h : allLt m l = true) : ∀ q ∈ l, q < m := by
  induction l with
  | nil => intro q hq; cases hq
  | cons a l ih =>
    simp only [allLt, Bool.and_eq_true] at h
    intro q hq
    rcases List.mem_cons.1 hq with rfl | hq
    · exact Nat.le_of_ble_eq_true h.1
    · exact ih h.2 q hq
theorem keysH_find {hp : List (Nat × Cont)} {q : Nat} (h : q ∈ keysH hp) : ∃ c, find q (optH hp) = some c := by
  refine mem_find ?_
  induction hp with
  | nil => cases h
  | cons p hp ih =>
    obtain ⟨m, c0⟩ := p
    simp only [optH, keys, List.map_cons, List.mem_cons]
    rcases List.mem_cons.1 h with rfl | h
    · exact .inl rfl
    · exact .inr (ih h)
theorem find_keysH {hp : List (Nat × Cont)} {q : Nat} {c : Option Cont} (h : find q (optH hp) = some c) : q ∈ keysH hp := by
  induction hp with
  | nil => cases h
  | cons p hp ih =>
    obtain ⟨m, c0⟩ := p
    simp only [optH, find] at h
    simp only [keysH, List.mem_cons]
    split at h
    · rename_i hb; exact .inl (Nat.eq_of_beq_eq_true hb).symm
    · exact .inr (ih h)

theorem con_new {P : Program} {E : Env} (EO : EnvOk P C gl E) {f : Nat} {fn : Func} {c : Code} (hf : P.funcs[f]? = some fn) (hb : fn.body = some c) {ls : List (Nat × LSum)} {n : Nat} {h : Nat → Option Cont}
    (M : Mem C gl W R ρ h) {args' : List SVal} {vs : List Value} {next : Nat} {r : ORes} {rv : SVal} {hp : List (Nat × Cont)} {m : Nat} {fz : List (Nat × Option Cont)} {R1 own0 : Nat → Prop} (S : Enters C gl W R ρ h r R1 own0 (fun _ => none) [] 0 args' vs)
    (hr : r.v = shV next rv ∧ r.ws = fz ++ shH next hp ∧ r.k = m) (hz : ∀ p ∈ fz, p.2 = none ∧ ρ p.1 ≠ none) (hn : ∀ j, j < r.k → ρ (next + j) = none) (hold : E.old = []) (hnt : fn.ntmps = n)
    (hlen : Nat.ble args'.length n = true) (hm : (nodupB (keysH hp) && allLt m (keysH hp) && boundIn (keysH hp) m) = true)
    (HL : ∀ W R ρ0 own0, HownOk E own0 ρ0 → ∀ b ∈ loopsOf c, ∀ L, find (headId b) ls = some L → LOk P E C gl W R own0 ρ0 b L)
    (hrun : (run E ls c { fr := numb 0 args', hp := [], next := 0, sz := n } (ends E fn.results.toList)).sat (newQ E rv hp m)) :
    Calls P f vs.toArray W fun e W' => ∃ v R' ρ', e = .returned v ∧ Trans C gl W R ρ h r.ws W' R' ρ' ∧ Den C W' R' ρ' r.v v := by
  subst hnt
  obtain ⟨h1, h2, h3⟩ := hr
  simp only [Bool.and_eq_true] at hm
  obtain ⟨⟨m1, m2⟩, m3⟩ := hm
  have hm2 := allLt_of m2
  have hm3 := boundIn_of m3
  refine con_run EO hf hb M hn S hlen HL ?_
  have sh : ∀ {ρ2 ρ3 : Nat → Option Value}, (∀ n, m ≤ n → ρ2 n = none) → (∀ n q, find n (tauF next (keysH hp)) = some q → ρ3 n = ρ2 q) → ∀ r v, ρ2 r = some v → ρ3 (next + r) = some v := fun ha he r v hv => by
    have : r < m := Nat.lt_of_not_le fun hle => by rw [ha r hle] at hv; cases hv
    rw [he _ r (tau_has (hm3 r this))]; exact hv
  refine sat_mono (fun e s hs => ⟨_, _, tauF next (keysH hp), hs, ?_, ?_, ?_, ?_⟩) hrun
  · intro W R ρ2 ρ3 u M2 ha he _ _ hd
    rw [h1]
    exact Den.shift (sh ha he) hd
  · intro k c hc
    rw [h2, find_append] at hc
    split at hc
    · rename_i c' hf
      cases hc
      exact .inl (hz _ (find_mem hf)).1
    · obtain ⟨q, c0, rfl, hq, rfl⟩ := shH_find hc
      exact .inr ⟨q, c0, _, tau_has (find_keysH hq), rfl, optH_look hq, fun W R ρ2 ρ3 u M2 ha he _ _ hh => hh.shift (sh ha he)⟩
  · intro k q hq
    obtain ⟨rfl, hm⟩ := tau_find hq
    obtain ⟨c, hc⟩ := keysH_find hm
    have := hm2 q hm
    exact .inr ⟨by rw [h2]; simp only [keys, List.map_append, List.mem_append]; exact .inr (shH_key hc), by omega, by rw [h3]; omega⟩
  · rw [tau_snd]; exact m1

/-! One map that is handed over. -/
def isMapC : Cont → Bool
  | .strMap _ => true
  | .intMap _ => true
  | _ => false
theorem HoldC.map {W : World} {R : Nat → Prop} {ρ ρ' : Nat → Option Value} {v : Value} {c : Cont} (hm : isMapC c = true) (h : HoldC C W R ρ v c) : HoldC C W R ρ' v c := by
  cases c <;> first | exact h | cases hm
theorem Enters.map {W : World} {R : Nat → Prop} {ρ : Nat → Option Value} {h : Nat → Option Cont} (M : Mem C gl W R ρ h) {r : ORes} {q : Nat} {c0 : Cont} (hq : h q = some c0) (hm : isMapC c0 = true) (hk : q ∈ keys r.ws) {l l' : List SVal} {vs : List Value} (hA : DenA C W R ρ (l ++ [.map q]) vs)
    (hp : ∀ p ∈ subL C.tAt none' [] deep l l', p) : ∃ own0, Enters C gl W R ρ h r R own0 (fun n => if n = 0 then ρ q else none) [(0, some c0)] 1 (l' ++ [.map 0]) vs := by
  obtain ⟨v0, hv0, hh0⟩ := M.at_ q _ hq
  have main : ∀ {n : Nat} {l l' : List SVal} {vs : List Value}, DenA C W R ρ (l ++ [.map q]) vs → (∀ p ∈ subL C.tAt none' [] n l l', p) → DenA C W R (fun n => if n = 0 then ρ q else none) (l' ++ [.map 0]) vs := by
    intro n l
    induction l generalizing n with
    | nil =>
      intro l' vs hA hp
      cases l' with
      | nil =>
        cases hA with
        | cons _ v _ us h1 h2 =>
          cases h2
          refine .cons _ _ _ _ ?_ .nil
          cases h1 with
          | map _ b hv => exact .map 0 b (by simpa using hv)
      | cons b l' => cases n <;> (unfold subL at hp; exact no hp)
    | cons a l ih =>
      intro l' vs hA hp
      cases l' with
      | nil => cases n <;> (unfold subL at hp; exact no hp)
      | cons b l' =>
        cases n with
        | zero => unfold subL at hp; exact no hp
        | succ n =>
          unfold subL at hp
          split at hp
          · cases hA with
            | cons _ v _ us h1 h2 =>
              refine .cons _ _ _ _ ?_ (ih h2 fun p hm => hp p (List.mem_append_right _ hm))
              exact (h1.ren M fun p hm => hp p (List.mem_append_left _ hm)).mono (fun _ h => h) (fun _ _ => rfl) fun r v hv => by cases hv
          · exact no hp
  have only : ∀ n c, lookS [(0, some c0)] n = some c → n = 0 ∧ c = c0 := fun n c hc => by
    unfold lookS at hc
    simp only [find] at hc
    split at hc
    · rename_i hb; have := Nat.eq_of_beq_eq_true hb; subst this; cases hc; exact ⟨rfl, rfl⟩
    · cases hc
  refine ⟨fun b => blk v0 = some b, main hA hp, ⟨M.base, fun n c hc => ?_, fun n n' c c' v v' b k1 k2 _ _ _ _ => ?_, fun n c v b k1 k2 k3 => ?_⟩, fun n hn => ?_, fun _ h => h, fun _ h => .inl h, fun b hb => ?_, fun b hb => ⟨q, c0, v0, hk, hq, hv0, hb⟩⟩
  · obtain ⟨rfl, rfl⟩ := only n c hc
    exact ⟨v0, by simpa using hv0, hh0.map hm⟩
  · rw [(only n c k1).1, (only n' c' k2).1]
  · obtain ⟨rfl, rfl⟩ := only n c k1
    exact M.off q _ v b hq (by simpa using k2) k3
  · have : n ≠ 0 := by omega
    simp [this]
  · obtain ⟨n, c, v, k1, k2, k3⟩ := hb
    obtain ⟨rfl, rfl⟩ := only n c k1
    have k2 : ρ q = some v := by simpa using k2
    rw [hv0] at k2; cases k2; exact k3

theorem con_map {P : Program} {E : Env} (EO : EnvOk P C gl E) {f : Nat} {fn : Func} {c : Code} (hf : P.funcs[f]? = some fn) (hb : fn.body = some c) {ls : List (Nat × LSum)} {n : Nat} {h : Nat → Option Cont}
    (M : Mem C gl W R ρ h) {l l' : List SVal} {q : Nat} {vs : List Value} (hA : DenA C W R ρ (l ++ [.map q]) vs) {next : Nat} {r : ORes} {c0 c1 : Cont} (hq : h q = some c0) (hm : (isMapC c0 && isMapC c1) = true) (hr : plain r.v = true ∧ r.ws = [(q, some c1)] ∧ r.k = 0) (hold : E.old = [0]) (hnt : fn.ntmps = n)
    (hargs : ∀ p ∈ subL C.tAt none' [] deep l l', p) (hlen : Nat.ble (l'.length + 1) n = true)
    (HL : ∀ W R ρ0 own0, HownOk E own0 ρ0 → ∀ b ∈ loopsOf c, ∀ L, find (headId b) ls = some L → LOk P E C gl W R own0 ρ0 b L)
    (hrun : (run E ls c { fr := numb 0 (l' ++ [.map 0]), hp := [(0, some c0)], next := 1, sz := n } (ends E fn.results.toList)).sat fun _ s => fits E s { fr := [(0, r.v)], hp := [(0, some c1)], next := 1, sz := 1 }) :
    Calls P f vs.toArray W fun e W' => ∃ v R' ρ', e = .returned v ∧ Trans C gl W R ρ h r.ws W' R' ρ' ∧ Den C W' R' ρ' r.v v := by
  subst hnt
  obtain ⟨h1, h2, h3⟩ := hr
  rw [Bool.and_eq_true] at hm
  obtain ⟨v0, hv0, hh0⟩ := M.at_ q _ hq
  obtain ⟨own0, S⟩ := Enters.map M (r := r) hq hm.1 (by rw [h2]; simp [keys]) hA hargs
  refine con_run EO hf hb M (next := next) (fun j hj => by rw [h3] at hj; cases hj) S (by simpa using hlen) HL ?_
  have fq : find q [(q, 0)] = some 0 := by simp [find, Nat.beq_refl]
  refine sat_mono (fun e s hs => ⟨_, _, [(q, 0)], hs, ?_, ?_, ?_, rfl⟩) hrun
  · intro W R ρ2 ρ3 u M2 ha he _ _ hd
    exact hd.free (fun _ h => h) h1
  · intro k c hc
    rw [h2] at hc
    obtain ⟨rfl, rfl⟩ := find_one hc
    exact .inr ⟨0, c1, c1, fq, rfl, rfl, fun W R ρ2 ρ3 u M2 ha he _ _ hh => hh.map hm.2⟩
  · intro k q' hq'
    obtain ⟨rfl, rfl⟩ := find_one hq'
    exact .inl ⟨by rw [hold]; simp, by simp, by rw [hv0]; simp⟩
end
end Go.Sy
