/- A contract from a run. -/
import Derived.Test.YtbdfibaljoedpaaDoorSyCall
set_option linter.unusedVariables false
set_option linter.unusedSimpArgs false
namespace Go.Sy
open Go.RowKit

section
variable {P : Program} {C : Ctx} {gl : List (Nat × SVal)} {E : Env} {W W' : World} {R R' : Nat → Prop} {ρ ρ' : Nat → Option Value} {σ : List (Nat × Nat)} {h : Nat → Option Cont}

abbrev none' : Nat → Option Cont := fun _ => none

theorem Mem.blank (M : Mem C gl W R ρ h) : Mem C gl W R ρ none' := M.weaken fun _ _ h => by cases h
theorem RF_blank : ∀ b, RF σ none' ρ R b → R b := fun b hb => by
  rcases hb with hb | ⟨_, _, _, _, hc, _⟩
  · exact hb
  · cases hc

/-- New names for old ones, in a value. -/
theorem Den.ren (M : Mem C gl W R ρ h) {s t : SVal} {v : Value} {n : Nat} (hd : Den C W R ρ s v) (hp : ∀ p ∈ sub C.tAt none' σ n s t, p) : Den C W R (ρσ σ ρ) t v :=
  ((sub_ok M.blank n).1 _ _ _ hd hp).mono RF_blank (fun _ _ => rfl) fun _ _ h => h
theorem DenA.ren (M : Mem C gl W R ρ h) {l l' : List SVal} {vs : List Value} {n : Nat} (hd : DenA C W R ρ l vs) (hp : ∀ p ∈ subL C.tAt none' σ n l l', p) : DenA C W R (ρσ σ ρ) l' vs :=
  ((sub_ok M.blank n).2.2 _ _ _ hd hp).mono RF_blank (fun _ _ => rfl) fun _ _ h => h
theorem HoldC.ren (M : Mem C gl W R ρ h) {c c' : Cont} {v : Value} (hc : HoldC C W R ρ v c) (hp : ∀ p ∈ subC C.tAt none' σ (some c) (some c'), p) : HoldC C W R (ρσ σ ρ) v c' := by
  have M0 := M.blank
  have hb := RF_blank (σ := σ) (ρ := ρ) (R := R)
  unfold subC at hp
  split at hp
  · rename_i h; cases h
  · rename_i l l' h1 h2; cases h1; cases h2
    obtain ⟨b, vs, T, rfl, hh, hl⟩ := hc
    exact ⟨b, vs, T, rfl, hh, ((sub_ok M0 deep).2.1 _ _ _ hl hp).mono hb (fun _ _ => rfl) fun _ _ h => h⟩
  · rename_i t l t' l' h1 h2; cases h1; cases h2
    split at hp
    · rename_i e heq
      subst e
      have e := hd1 hp
      simp only at e
      subst e
      obtain ⟨e, vs, ho, hl⟩ := hc
      exact ⟨e, vs, ho, hl.free (fun _ h => h) (flat_plain t l)⟩
    · exact no hp
  · rename_i w l w' l' h1 h2; cases h1; cases h2
    split at hp
    · rename_i hbq
      have := Nat.eq_of_beq_eq_true hbq; subst this
      obtain ⟨e, vs, n, ho, hl, h0⟩ := hc
      exact ⟨e, vs, n, ho, ((sub_ok M0 deep).2.1 _ _ _ hl hp).mono hb (fun _ _ => rfl) (fun _ _ h => h), h0⟩
    · exact no hp
  · rename_i m m' h1 h2; cases h1; cases h2
    have := hd1 hp; subst this; exact hc
  · rename_i m m' h1 h2; cases h1; cases h2
    have := hd1 hp; subst this; exact hc
  · exact no hp

def numb : Nat → List SVal → List (Nat × SVal)
  | _, [] => []
  | n, v :: l => (n, v) :: numb (n + 1) l
theorem numb_find : ∀ {l : List SVal} {n d : Nat} {v : SVal}, find d (numb n l) = some v → n ≤ d ∧ l[d - n]? = some v := by
  intro l
  induction l with
  | nil => intro n d v h; cases h
  | cons x l ih =>
    intro n d v h
    simp only [numb, find] at h
    split at h
    · rename_i hb
      have := Nat.eq_of_beq_eq_true hb; subst this
      cases h; simp
    · have := ih h
      refine ⟨by omega, ?_⟩
      rw [show d - n = (d - (n + 1)) + 1 by omega]
      exact this.2

/-- How the callee's names are the caller's at the end (τ: the callee's, by the caller's). -/
structure FitsS (C : Ctx) (gl : List (Nat × SVal)) (old : List Nat) (ρ ρ0 : Nat → Option Value) (τ : List (Nat × Nat)) (t : SState) (r : ORes) (next : Nat) : Prop where
  v : ∀ W R ρ2 ρ3 u, Mem C gl W R ρ2 (lookS t.hp) → (∀ n, t.next ≤ n → ρ2 n = none) → (∀ n q, find n τ = some q → ρ3 n = ρ2 q) → (∀ q ∈ old, ∀ v, ρ0 q = some v → ρ2 q = some v) → (∀ n v, ρ n = some v → ρ3 n = some v) → Den C W R ρ2 ((find 0 t.fr).getD .any) u → Den C W R ρ3 r.v u
  ws : ∀ n c, find n r.ws = some c → c = none ∨ ∃ q c0 c', find n τ = some q ∧ c = some c' ∧ lookS t.hp q = some c0 ∧
    ∀ W R ρ2 ρ3 u, Mem C gl W R ρ2 (lookS t.hp) → (∀ n, t.next ≤ n → ρ2 n = none) → (∀ n q, find n τ = some q → ρ3 n = ρ2 q) → (∀ q ∈ old, ∀ v, ρ0 q = some v → ρ2 q = some v) → (∀ n v, ρ n = some v → ρ3 n = some v) → HoldC C W R ρ2 u c0 → HoldC C W R ρ3 u c'
  keys : ∀ n q, find n τ = some q → (q ∈ old ∧ ρ0 q = ρ n ∧ ρ n ≠ none) ∨ (n ∈ keys r.ws ∧ next ≤ n ∧ n < next + r.k)
  inj : nodupB (sndN τ) = true

theorem mem_find {α : Type} {n : Nat} {l : List (Nat × α)} (hm : n ∈ keys l) : ∃ c, find n l = some c := by
  induction l with
  | nil => cases hm
  | cons p l ih =>
    obtain ⟨m, x⟩ := p
    simp only [find]
    cases hb : m.beq n with
    | true => exact ⟨x, rfl⟩
    | false =>
      rcases List.mem_cons.1 hm with rfl | hm
      · rw [Nat.beq_refl] at hb; cases hb
      · exact ih hm

theorem DenA.lenA {args : List SVal} {vs : List Value} (h : DenA C W R ρ args vs) : vs.length = args.length := by
  induction args generalizing vs with
  | nil => cases h; rfl
  | cons s l ih => cases h with | cons _ v _ us h1 h2 => simp [ih h2]
/-- Where a callee begins. -/
structure Enters (C : Ctx) (gl : List (Nat × SVal)) (W : World) (R : Nat → Prop) (ρ : Nat → Option Value) (h : Nat → Option Cont) (r : ORes) (R1 own0 : Nat → Prop) (ρ0 : Nat → Option Value) (hp0 : List (Nat × Option Cont)) (n0 : Nat) (args' : List SVal) (vs : List Value) : Prop where
  args : DenA C W R1 ρ0 args' vs
  mem : Mem C gl W R1 ρ0 (lookS hp0)
  above : ∀ n, n0 ≤ n → ρ0 n = none
  Rm : ∀ b, R b → R1 b
  Rn : ∀ b, R1 b → R b ∨ own0 b
  owned : ∀ b, ownOf ρ0 (lookS hp0) b → own0 b
  own : ∀ b, own0 b → ∃ n c v, n ∈ keys r.ws ∧ h n = some c ∧ ρ n = some v ∧ blk v = some b

theorem con_run (EO : EnvOk P C gl E) {f : Nat} {fn : Func} {c : Code} (hf : P.funcs[f]? = some fn) (hb : fn.body = some c) {ls : List (Nat × LSum)}
    (M : Mem C gl W R ρ h) {args' : List SVal} {vs : List Value} {next : Nat} {r : ORes} (hn : ∀ j, j < r.k → ρ (next + j) = none)
    {R1 own0 : Nat → Prop} {ρ0 : Nat → Option Value} {hp0 : List (Nat × Option Cont)} {n0 : Nat} (S : Enters C gl W R ρ h r R1 own0 ρ0 hp0 n0 args' vs) (hlen : Nat.ble args'.length fn.ntmps = true)
    (HL : ∀ W R ρ0 own0, HownOk E own0 ρ0 → ∀ b ∈ loopsOf c, ∀ L, find (headId b) ls = some L → LOk P E C gl W R own0 ρ0 b L)
    (hrun : (run E ls c { fr := numb 0 args', hp := hp0, next := n0, sz := fn.ntmps } (ends E fn.results.toList)).sat fun _ s => ∃ t σ τ, all (subSt E σ s t) ∧ FitsS C gl E.old ρ ρ0 τ t r next) :
    Calls P f vs.toArray W fun e W' => ∃ v R' ρ', e = .returned v ∧ Trans C gl W R ρ h r.ws W' R' ρ' ∧ Den C W' R' ρ' r.v v := by
  have hlen := Nat.le_of_ble_eq_true hlen
  have hsz : vs.toArray.size = args'.length := by simpa using S.args.lenA
  have I : Inv E C gl W R own0 ρ0 { fr := numb 0 args', hp := hp0, next := n0, sz := fn.ntmps } ⟨vs.toArray ++ Array.replicate (fn.ntmps - vs.toArray.size) undef, []⟩ W R1 ρ0 := by
    refine ⟨fun d => ?_, S.mem, ?_, ⟨rfl, rfl, rfl, Nat.le_refl _, S.Rm, fun b hb => (S.Rn b hb).imp id .inr, fun _ _ _ => rfl, fun b hb => .inl (S.owned b hb)⟩, S.above, rfl, fun _ _ _ h => h⟩
    · cases hf : find d (numb 0 args') with
      | none => exact .any _
      | some s =>
        obtain ⟨_, hs⟩ := numb_find hf
        obtain ⟨v, hv, hd⟩ := S.args.get (by simpa using hs)
        have : (vs.toArray ++ Array.replicate (fn.ntmps - vs.toArray.size) undef).getD d undef = v := by
          have hlt : d < vs.length := (List.getElem?_eq_some_iff.1 hv).1
          rw [Array.getD_eq_getD_getElem?, Array.getElem?_append_left (by simpa using hlt)]
          simp [hv]
        rw [this]; exact hd
    · show (vs.toArray ++ Array.replicate (fn.ntmps - vs.toArray.size) undef).size = fn.ntmps
      rw [Array.size_append, Array.size_replicate, hsz]; omega
  refine call_run EO trivial hf hb (HL _ _ _ _ trivial) I hrun fun s' v W' R1 ρ1 hQ J => ?_
  obtain ⟨t, σ, τ, hsub, F⟩ := hQ
  obtain ⟨R2, ρ2, J⟩ := J.sub EO trivial hsub
  have M2 := J.mem
  -- a block of the caller's that the callee could touch is one that is handed over
  have hframe : ∀ {n c u b}, h n = some c → ρ n = some u → blk u = some b → own0 b → n ∈ keys r.ws := fun {n c u b} k1 k2 k3 ho => by
    obtain ⟨n', c', u', h1, h3, h4, h5⟩ := S.own b ho
    have := M.apart n n' c c' u u' b k1 h3 k2 h4 k3 h5
    subst this
    exact h1
  have hkeepR : ∀ b, R b → W'.heap[b]? = W.heap[b]? := fun b hb => J.bt.keep b (M.base.inR b hb) fun ho => by
    obtain ⟨n', c', u', h1, h3, h4, h5⟩ := S.own b ho
    exact M.off n' c' u' b h3 h4 h5 hb
  let ρ3 : Nat → Option Value := fun n => match find n τ with
    | some q => ρ2 q
    | none => ρ n
  have e3 : ∀ {n q}, find n τ = some q → ρ3 n = ρ2 q := fun {n q} hq => by show (match find n τ with | some q => ρ2 q | none => ρ n) = _; rw [hq]
  have e3' : ∀ {n}, find n τ = none → ρ3 n = ρ n := fun {n} hq => by show (match find n τ with | some q => ρ2 q | none => ρ n) = _; rw [hq]
  have hm : ∀ n v, ρ n = some v → ρ3 n = some v := fun n v hv => by
    cases hq : find n τ with
    | none => rw [e3' hq]; exact hv
    | some q =>
      rcases F.keys n q hq with ⟨ho, hs, _⟩ | ⟨_, h1, h2⟩
      · rw [e3 hq]; exact J.pins q ho v (by rw [hs]; exact hv)
      · have := hn (n - next) (by omega)
        rw [show next + (n - next) = n by omega, hv] at this; cases this
  have hDen : Den C W' R2 ρ3 r.v v := F.v _ _ _ ρ3 _ M2 J.above (fun n q hq => e3 hq) J.pins hm (J.slots 0)
  have stay : ∀ {n c u}, h n = some c → ρ3 n = some u → ρ n = some u := fun {n c u} hc hu => by
    obtain ⟨v, hv, _⟩ := M.at_ n c hc
    rw [hm n v hv] at hu; cases hu; exact hv
  have split : ∀ {n c}, upd h r.ws n = some c → (∃ q c0 v, find n τ = some q ∧ lookS t.hp q = some c0 ∧ ρ2 q = some v ∧ ρ3 n = some v ∧ HoldC C W' R2 ρ3 v c) ∨ (find n r.ws = none ∧ h n = some c) := fun {n c} hu => by
    unfold upd at hu
    cases hf : find n r.ws with
    | some c0 =>
      rw [hf] at hu; simp only at hu; subst hu
      rcases F.ws n _ hf with hc | ⟨q, c0, c', h1, h2, h3, h4⟩
      · cases hc
      · cases h2
        obtain ⟨v, hv, hh⟩ := M2.at_ q c0 h3
        exact .inl ⟨q, c0, v, h1, h3, hv, by rw [e3 h1]; exact hv, h4 _ _ _ ρ3 _ M2 J.above (fun n q hq => e3 hq) J.pins hm hh⟩
    | none =>
      rw [hf] at hu
      exact .inr ⟨rfl, hu⟩
  refine ⟨v, R2, ρ3, rfl, ⟨⟨M2.base, fun n c hu => ?_, fun n n' c c' u u' b k1 k2 k3 k4 k5 k6 => ?_, fun n c u b k1 k2 k3 k4 => ?_⟩, J.bt.os, J.bt.tape, J.bt.output, J.bt.size, J.bt.Rm, fun b hb => ?_, hm, fun n u hu => ?_, fun k hk hx => ?_, fun n c u b k1 k2 k3 => ?_⟩, hDen⟩
  · rcases split hu with ⟨q, c0, v, h1, h2, h3, h4, h5⟩ | ⟨h1, h3⟩
    · exact ⟨v, h4, h5⟩
    · obtain ⟨v, hv, hh⟩ := M.at_ n c h3
      refine ⟨v, hm _ _ hv, hh.mono J.bt.Rm hkeepR hm fun b hb => J.bt.keep b (hh.lt hb) fun ho => ?_⟩
      exact find_none h1 (hframe h3 hv hb ho)
  · have one : ∀ {n n' c' u u' b q c0}, find n τ = some q → lookS t.hp q = some c0 → ρ2 q = some u → ρ3 n = some u → blk u = some b → find n' r.ws = none → h n' = some c' → ρ3 n' = some u' → blk u' = some b → False := fun {n n' c' u u' b q c0} g1 g2 g3 g4 g5 g6 g7 g8 g9 => by
      replace g8 := stay g7 g8
      rcases J.bt.owned b ⟨q, c0, u, g2, g3, g5⟩ with ho | ho
      · exact find_none g6 (hframe g7 g8 g9 ho)
      · obtain ⟨v', hv', hh⟩ := M.at_ n' c' g7
        rw [g8] at hv'; cases hv'
        have := hh.lt g9; omega
    rcases split k1 with ⟨q, c0, v, h1, h2, h3, h4, h5⟩ | ⟨h1, h3⟩ <;> rcases split k2 with ⟨q', c0', v', h1', h2', h3', h4', h5'⟩ | ⟨h1', h3'⟩
    · rw [h4] at k3; cases k3
      rw [h4'] at k4; cases k4
      have := M2.apart q q' c0 c0' u u' b h2 h2' h3 h3' k5 k6
      subst this
      exact nodup_inj F.inj (find_mem h1) (find_mem h1')
    · rw [h4] at k3; cases k3
      exact (one h1 h2 h3 h4 k5 h1' h3' k4 k6).elim
    · rw [h4'] at k4; cases k4
      exact (one h1' h2' h3' h4' k6 h1 h3 k3 k5).elim
    · exact M.apart n n' c c' u u' b h3 h3' (stay h3 k3) (stay h3' k4) k5 k6
  · rcases split k1 with ⟨q, c0, v, h1, h2, h3, h4, h5⟩ | ⟨h1, h3⟩
    · rw [h4] at k2; cases k2
      exact M2.off q c0 u b h2 h3 k3 k4
    · replace k2 := stay h3 k2
      rcases J.bt.Rn b k4 with hb | hb | hb
      · exact M.off n c u b h3 k2 k3 hb
      · obtain ⟨v', hv', hh⟩ := M.at_ n c h3
        rw [k2] at hv'; cases hv'
        have := hh.lt k3; omega
      · exact find_none h1 (hframe h3 k2 k3 hb)
  · exact (J.bt.Rn b hb).imp id fun g => g.imp id fun g => S.own b g
  · cases hq : find n τ with
    | none => rw [e3' hq] at hu; exact .inl hu
    | some q =>
      rw [e3 hq] at hu
      rcases F.keys n q hq with ⟨ho, hs, hne⟩ | ⟨g1, h1, h2⟩
      · cases hρ : ρ n with
        | none => exact (hne hρ).elim
        | some w =>
          have := J.pins q ho w (by rw [hs]; exact hρ)
          rw [hu] at this; cases this
          exact .inl rfl
      · have := hn (n - next) (by omega)
        rw [show next + (n - next) = n by omega] at this
        exact .inr ⟨this, g1⟩
  · refine J.bt.keep k hk fun ho => ?_
    obtain ⟨n', c', u', h1, h3, h4, h5⟩ := S.own k ho
    exact hx n' c' u' h1 h3 h4 h5
  · rcases split k1 with ⟨q, c0, v, h1, h2, h3, h4, h5⟩ | ⟨h1, h3⟩
    · rw [h4] at k2; cases k2
      rcases J.bt.owned b ⟨q, c0, u, h2, h3, k3⟩ with ho | ho
      · obtain ⟨n', c', u', g1, g3, g4, g5⟩ := S.own b ho
        exact .inl ⟨n', c', u', .inr g1, g3, g4, g5⟩
      · exact .inr ho
    · exact .inl ⟨n, c, u, .inl rfl, h3, stay h3 k2, k3⟩

/-- Nothing named is handed over. -/
theorem Enters.bare (M : Mem C gl W R ρ h) {r : ORes} {args args' : List SVal} {vs : List Value} (hA : DenA C W R ρ args vs) (hargs : ∀ p ∈ subL C.tAt none' [] deep args args', p) :
    Enters C gl W R ρ h r R (fun _ => False) (fun _ => none) [] 0 args' vs where
  args := (hA.ren M hargs).mono (fun _ h => h) (fun _ _ => rfl) fun r v hv => by cases hv
  mem := ⟨M.base, (fun r c hc => by cases hc), (fun r r' c c' v v' b h1 => by cases h1), (fun r c v b h1 => by cases h1)⟩
  above _ _ := rfl
  Rm _ h := h
  Rn _ h := .inl h
  owned b hb := by obtain ⟨r, c, v, h1, _⟩ := hb; cases h1
  own b hb := hb.elim

/-- The last argument is a slice that is read. -/
theorem Enters.last (M : Mem C gl W R ρ h) {r : ORes} {t : RT} {x : List t.ty} {l l' : List SVal} {vs : List Value} (hA : DenA C W R ρ (l ++ [.ro t x]) vs) (hp : ∀ p ∈ subL C.tAt none' [] deep l l', p) :
    Enters C gl W R ρ h r R (fun _ => False) (fun _ => none) [] 0 (l' ++ [.ro t x]) vs := by
  have main : ∀ {n : Nat} {l l' : List SVal} {vs : List Value}, DenA C W R ρ (l ++ [.ro t x]) vs → (∀ p ∈ subL C.tAt none' [] n l l', p) → DenA C W R (fun _ => none) (l' ++ [.ro t x]) vs := by
    intro n l
    induction l generalizing n with
    | nil =>
      intro l' vs hA hp
      cases l' with
      | nil =>
        cases hA with
        | cons _ v _ us h1 h2 =>
          cases h2
          refine .cons _ _ _ _ ?_ .nil
          cases h1 with
          | ro _ _ A cap vs h1 h2 h3 h4 => exact .ro _ _ A cap vs h1 h2 (h3.free (fun _ h => h) (flat_plain t x)) h4
      | cons b l' => cases n <;> (unfold subL at hp; exact no hp)
    | cons a l ih =>
      intro l' vs hA hp
      cases l' with
      | nil => cases n <;> (unfold subL at hp; exact no hp)
      | cons b l' =>
        cases n with
        | zero => unfold subL at hp; exact no hp
        | succ n =>
          unfold subL at hp
          split at hp
          · cases hA with
            | cons _ v _ us h1 h2 =>
              refine .cons _ _ _ _ ?_ (ih h2 fun p hm => hp p (List.mem_append_right _ hm))
              exact (h1.ren M fun p hm => hp p (List.mem_append_left _ hm)).mono (fun _ h => h) (fun _ _ => rfl) fun r v hv => by cases hv
          · exact no hp
  exact ⟨main hA hp, ⟨M.base, (fun r c hc => by cases hc), (fun r r' c c' v v' b h1 => by cases h1), (fun r c v b h1 => by cases h1)⟩, fun _ _ => rfl, fun _ h => h, fun _ h => .inl h, (fun b hb => by obtain ⟨r, c, v, h1, _⟩ := hb; cases h1), fun b hb => hb.elim⟩

/-- The last argument is a slice of the caller's own: it is read for ever from now on. -/
theorem Enters.frozen (M : Mem C gl W R ρ h) {r : ORes} {q : Nat} {t : RT} {x : List t.ty} (hq : h q = some (.recs t x)) (hk : q ∈ keys r.ws) : ∀ {l l' : List SVal} {vs : List Value}, DenA C W R ρ (l ++ [.own q]) vs → (∀ p ∈ subL C.tAt none' [] deep l l', p) →
    ∃ R1 own0, Enters C gl W R ρ h r R1 own0 (fun _ => none) [] 0 (l' ++ [.ro t x]) vs := by
  intro l l' vs hA hp
  obtain ⟨v0, hv0, hh0⟩ := M.at_ q _ hq
  have main : ∀ {n : Nat} {l l' : List SVal} {vs : List Value}, DenA C W R ρ (l ++ [.own q]) vs → (∀ p ∈ subL C.tAt none' [] n l l', p) → DenA C W (fun b => R b ∨ blk v0 = some b) (fun _ => none) (l' ++ [.ro t x]) vs := by
    intro n l
    induction l generalizing n with
    | nil =>
      intro l' vs hA hp
      cases l' with
      | nil =>
        cases hA with
        | cons _ v _ us h1 h2 =>
          cases h2
          refine .cons _ _ _ _ ?_ .nil
          cases h1 with
          | own _ A m cap hv =>
            obtain ⟨rfl, g1, g2, vs, g3, g4⟩ := frozen_row (σ := []) M rfl hq hv
            rw [hv0] at hv; cases hv
            refine .ro _ _ A cap vs g1 g2 (g3.free (fun _ h => .inl h) (flat_plain t x)) fun hl => ?_
            obtain ⟨b, e1, _, e3⟩ := g4 hl
            exact ⟨b, 0, e1, .inr (by rw [e1]; rfl), e3⟩
      | cons b l' => cases n <;> (unfold subL at hp; exact no hp)
    | cons a l ih =>
      intro l' vs hA hp
      cases l' with
      | nil => cases n <;> (unfold subL at hp; exact no hp)
      | cons b l' =>
        cases n with
        | zero => unfold subL at hp; exact no hp
        | succ n =>
          unfold subL at hp
          split at hp
          · cases hA with
            | cons _ v _ us h1 h2 =>
              refine .cons _ _ _ _ ?_ (ih h2 fun p hm => hp p (List.mem_append_right _ hm))
              exact (h1.ren M fun p hm => hp p (List.mem_append_left _ hm)).mono (fun _ h => .inl h) (fun _ _ => rfl) fun r v hv => by cases hv
          · exact no hp
  refine ⟨_, fun b => blk v0 = some b, main hA hp, ⟨M.base.mono (fun _ h => .inl h) (fun b hb => hb.elim (M.base.inR b) fun hb => hh0.lt hb) fun _ _ => rfl, fun r c hc => (by cases hc), fun r r' c c' v v' b h1 => (by cases h1), fun r c v b h1 => (by cases h1)⟩, fun _ _ => rfl, fun _ h => .inl h, fun _ h => h, fun b hb => ?_, fun b hb => ⟨q, _, v0, hk, hq, hv0, hb⟩⟩
  obtain ⟨r, c, v, h1, _⟩ := hb; cases h1

theorem sat_mono {Q Q' : Exi → SState → Prop} (hq : ∀ e s, Q e s → Q' e s) : ∀ {t : Tr}, t.sat Q → t.sat Q' := by
  intro t
  induction t with
  | leaf e s => intro hs; exact hq _ _ hs
  | ite b t f iht ihf => intro hs; exact ⟨fun hb => iht (hs.1 hb), fun hb => ihf (hs.2 hb)⟩
  | req p t ih => intro hs; exact ⟨hs.1, fun hp => ih (hs.2 hp)⟩
  | prop p => intro hs; exact hs
  | both t u iht ihu => intro hs; exact ⟨iht hs.1, ihu hs.2⟩
  | fail w => intro hs; exact hs.elim
theorem noks {ws : List (Nat × Option Cont)} (h : ∀ p ∈ ws, p.2 = none) : ∀ n c, find n ws = some c → c = none := fun n c hc => h _ (find_mem hc)

/-- A call that yields a value without names. -/
theorem con_plain (EO : EnvOk P C gl E) {f : Nat} {fn : Func} {c : Code} (hf : P.funcs[f]? = some fn) (hb : fn.body = some c) {ls : List (Nat × LSum)} {n : Nat}
    (M : Mem C gl W R ρ h) {args' : List SVal} {vs : List Value} {r : ORes} {rv : SVal} {R1 own0 : Nat → Prop} (S : Enters C gl W R ρ h r R1 own0 (fun _ => none) [] 0 args' vs) (hr : r.v = rv ∧ (∀ p ∈ r.ws, p.2 = none) ∧ r.k = 0) (hold : E.old = []) (hnt : fn.ntmps = n)
    (hlen : Nat.ble args'.length n = true)
    (HL : ∀ W R ρ0 own0, HownOk E own0 ρ0 → ∀ b ∈ loopsOf c, ∀ L, find (headId b) ls = some L → LOk P E C gl W R own0 ρ0 b L)
    (hrun : (run E ls c { fr := numb 0 args', hp := [], next := 0, sz := n } (ends E fn.results.toList)).sat fun _ s => all (sub E.tAt (lookS s.hp) [] deep ((find 0 s.fr).getD .any) rv)) :
    Calls P f vs.toArray W fun e W' => ∃ v R' ρ', e = .returned v ∧ Trans C gl W R ρ h r.ws W' R' ρ' ∧ Den C W' R' ρ' r.v v := by
  subst hnt
  obtain ⟨h1, h2, h3⟩ := hr
  refine con_run EO hf hb M (next := 0) (fun j hj => by rw [h3] at hj; cases hj) S hlen HL ?_
  refine sat_mono (fun e s hs => ?_) hrun
  refine ⟨{ fr := [(0, rv)], hp := [], next := 0, sz := s.sz }, [], [], all_of fun p hp => ?_, fun W R ρ2 ρ3 u M2 ha he _ _ hd => ?_, fun n c hc => .inl (noks h2 n c hc), (fun n q hq => by cases hq), rfl⟩
  · unfold subSt at hp
    rw [hold] at hp
    simp only [List.flatMap_cons, List.flatMap_nil, List.append_nil, sndN, nodupB, fstLt, oldOk, Nat.beq_refl, Bool.and_self, Bool.and_true, List.append_nil] at hp
    exact all_mem hs p hp
  · rw [h1]
    exact hd.mono (fun _ h => h) (fun _ _ => rfl) fun n u hu => by rw [ha n (Nat.zero_le _)] at hu; cases hu
end

/-- A function with a body is entered. -/
theorem enters {P : Program} {f : Nat} {fn : Func} {c : Code} (hf : P.funcs[f]? = some fn) (hb : fn.body = some c) (hname : (fn.name == "runtime.NumGoroutine") = false) (args : Array Value) (w : World) :
    (callFunc f args).run P w = .ok (.enter f args) w := by
  unfold callFunc
  have hn : ¬ fn.name = "runtime.NumGoroutine" := by simpa using hname
  simp [hf, hb, hn]
end Go.Sy
