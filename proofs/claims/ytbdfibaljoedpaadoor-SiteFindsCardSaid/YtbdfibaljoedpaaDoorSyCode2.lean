/- Code: what a run tells is so. -/
import Derived.Test.YtbdfibaljoedpaaDoorSyCode
set_option linter.unusedVariables false
set_option linter.unusedSimpArgs false
namespace Go.Sy
open Go.RowKit

section
variable {P : Program} {C : Ctx} {gl : List (Nat × SVal)} {E : Env} {W0 : World} {R0 own0 : Nat → Prop} {ρ0 : Nat → Option Value}
variable {s t : SState} {a : Act} {W W' : World} {R R' : Nat → Prop} {ρ ρ' : Nat → Option Value} {σ : List (Nat × Nat)}

theorem leaveF_find (fr : List (Nat × SVal)) (l : List Rec) (d : Nat) : find d (leaveF fr l) = match lastOf l d with
    | some r => some (keyed .any r.v r.key)
    | none => find d fr := by
  induction l with
  | nil => rfl
  | cons r l ih =>
    simp only [leaveF, lastOf]
    cases hd : r.dst with
    | none => simp only [isDst]; exact ih
    | some d' =>
      simp only [find, isDst]
      cases d'.beq d with
      | true => rfl
      | false => exact ih

theorem find_append {α : Type} {n : Nat} {l l' : List (Nat × α)} : find n (l ++ l') = match find n l with
    | some a => some a
    | none => find n l' := by
  induction l with
  | nil => rfl
  | cons p l ih =>
    obtain ⟨m, x⟩ := p
    simp only [List.cons_append, find]
    cases m.beq n with
    | true => rfl
    | false => exact ih
theorem find_map {α β : Type} {f : α → β} {n : Nat} {l : List (Nat × α)} : find n (l.map fun x => (x.1, f x.2)) = (find n l).map f := by
  induction l with
  | nil => rfl
  | cons p l ih =>
    obtain ⟨m, x⟩ := p
    simp only [List.map_cons, find]
    cases m.beq n with
    | true => rfl
    | false => exact ih

theorem leaveH_known {hp : List (Nat × Option Cont)} : ∀ {l : List Rec}, (∀ r ∈ l, r.key = none → r.g.val = true ∨ r.ws = []) → ∀ n c, lookS (leaveH hp l) n = some c → contT hp l n = some c := by
  intro l
  induction l with
  | nil => intro _ n c h; exact h
  | cons r l ih =>
    intro hk n c h
    have ih := ih (fun q hq => hk q (List.mem_cons_of_mem _ hq)) n c
    unfold lookS at h ih
    simp only [leaveH] at h
    rw [find_append] at h
    have hm := find_map (f := fun c => keyed none c r.key) (n := n) (l := r.ws)
    rw [hm] at h
    simp only [contT]
    cases hf : find n r.ws with
    | none =>
      rw [hf] at h
      have := ih h
      cases r.g.val <;> exact this
    | some c0 =>
      rw [hf] at h
      simp only [Option.map_some, Option.getD_some] at h
      cases hkey : r.key with
      | some p => rw [hkey] at h; cases h
      | none =>
        rw [hkey] at h
        rcases hk r (List.mem_cons_self ..) hkey with hg | hw
        · rw [hg]; exact h
        · rw [hw] at hf; cases hf

theorem Mem.world {h : Nat → Option Cont} (M : Mem C gl W R ρ h) (e : W'.heap = W.heap) : Mem C gl W' R ρ h where
  base := M.base.mono (fun _ h => h) (fun b hb => by rw [e]; exact M.base.inR b hb) fun _ _ => by rw [e]
  at_ r c hc := let ⟨v, hv, hh⟩ := M.at_ r c hc; ⟨v, hv, hh.mono (fun _ h => h) (fun _ _ => by rw [e]) (fun _ _ h => h) fun _ _ => by rw [e]⟩
  apart := M.apart
  off := M.off

theorem Inv.start {recs : List Rec} {next1 : Nat} (I : Inv E C gl W0 R0 own0 ρ0 s a W R ρ) (e : W'.os = W.os ∧ W'.tape = W.tape ∧ W'.output = W.output ∧ W'.heap = W.heap) {ops : List Oper} (B : Built E ops s.fr s.hp s.sz s.next recs next1) {L : Rec → Bool} (hL : ∀ q ∈ recs, L q = false) :
    InvR C gl W0 R0 own0 ρ s.fr s.hp s.sz next1 recs L a W' R ρ := by
  have hf : recs.filter L = [] := List.filter_eq_nil_iff.2 fun q hq => by rw [hL q hq]; simp
  refine ⟨fun d => ?_, ?_, I.size, ?_, fun r hr _ j hj => ?_, fun n hn => ?_, I.defers, fun _ _ h => h⟩
  · rw [hf]
    exact (I.slots d).mono (fun _ h => h) (fun _ _ => by rw [e.2.2.2]) fun _ _ h => h
  · rw [hf]; exact I.mem.world e.2.2.2
  · rw [hf]; exact I.bt.world e
  · exact I.above _ (Nat.le_trans (B.mem r hr).2.2 (Nat.le_add_right _ _))
  · exact I.above _ (Nat.le_trans B.le hn)

theorem Built.keys {ops : List Oper} {fr : List (Nat × SVal)} {hp : List (Nat × Option Cont)} {sz next0 next1 : Nat} {recs : List Rec} (B : Built E ops fr hp sz next0 recs next1) : ∀ r ∈ recs, r.key = none → r.g.val = true ∨ (r.v = .any ∧ r.ws = []) := fun r hr hk => by
  obtain ⟨pre, l, o, e, hB, hA, _⟩ := B.split hr
  exact hA.key_none hk

theorem Inv.leave {recs : List Rec} {next1 : Nat} (I : Inv E C gl W0 R0 own0 ρ0 s a W R ρ) {ops : List Oper} (B : Built E ops s.fr s.hp s.sz s.next recs next1) {a' : Act} {W' : World} {R' : Nat → Prop} {ρ' : Nat → Option Value}
    (J : InvR C gl W0 R0 own0 ρ s.fr s.hp s.sz next1 recs (fun _ => true) a' W' R' ρ') : Inv E C gl W0 R0 own0 ρ0 { fr := leaveF s.fr recs, hp := leaveH s.hp recs, next := next1, sz := s.sz } a' W' R' ρ' := by
  have hf : recs.filter (fun _ => true) = recs := List.filter_eq_self.2 fun _ _ => rfl
  have hw := leaveH_known (hp := s.hp) fun r hr hk => (B.keys r hr hk).imp id fun h => h.2
  refine ⟨fun d => ?_, ?_, J.size, ?_, J.above, J.defers, fun n hn v hv => J.ext n v (I.pins n hn v hv)⟩
  · have := J.slots d
    unfold slotIs at this
    rw [hf] at this
    simp only [leaveF_find]
    cases hl : lastOf recs d with
    | none => rw [hl] at this; exact this
    | some r =>
      rw [hl] at this
      simp only [Option.getD_some]
      cases hk : r.key with
      | some p => exact .any _
      | none =>
        simp only [keyed]
        rcases B.keys r (lastOf_mem hl).1 hk with hg | ⟨hv, _⟩
        · exact this.1 hg
        · rw [hv]; exact .any _
  · have := J.mem; rw [hf] at this; exact this.weaken hw
  · have := J.bt; rw [hf] at this; exact this.weaken (ownOf.weaken hw)

theorem reqs_sat {Q : Exi → SState → Prop} : ∀ {l : List Prop} {t : Tr}, (reqs l t).sat Q → (∀ p ∈ l, p) ∧ t.sat Q := by
  intro l
  induction l with
  | nil => intro t h; exact ⟨(fun p hp => by cases hp), h⟩
  | cons p l ih =>
    intro t h
    obtain ⟨h1, h2⟩ := ih (t := .req p t) h
    exact ⟨fun q hq => (List.mem_cons.1 hq).elim (fun e => by subst e; exact h2.1) fun hq => h1 q hq, h2.2 h2.1⟩

theorem all_of {l : List Prop} (h : ∀ p ∈ l, p) : all l := by
  induction l with
  | nil => trivial
  | cons p l ih =>
    have ih := ih fun q hq => h q (List.mem_cons_of_mem _ hq)
    have hp := h p (List.mem_cons_self ..)
    cases l with
    | nil => exact hp
    | cons q l => exact ⟨hp, ih⟩

def exitOf : Exi → Exit
  | .normal => .normal
  | .ret => .ret
  | .exit id => .exit id

theorem region_ok (EO : EnvOk P C gl E) (I : Inv E C gl W0 R0 own0 ρ0 s a W R ρ) {ops : Array Oper} {rs : RS} (hr : runR E s.fr s.hp s.sz ops.toList 0 { next := s.next, recs := [], vc := [] } = .ok rs) (hv : ∀ p ∈ rs.vc, p)
    {draw : Bool} (hd : draw = true → drawOk ops.toList rs.recs = true ∧ ∀ p ∈ comms E s.fr s.hp ops.toList rs.recs, p) {Q : Exit → Act → World → Prop} {id : Nat}
    (hQ : ∀ a W R ρ, Inv E C gl W0 R0 own0 ρ0 { fr := leaveF s.fr rs.recs, hp := leaveH s.hp rs.recs, next := rs.next, sz := s.sz } a W R ρ → Q .normal a W) : (Code.region id ops draw).wp P Q a W := by
  obtain ⟨_, B, hlen⟩ := runR_built (next0 := s.next) hr hv rfl rfl (Nat.zero_le _) fun _ => .nil
  have hQ' : ∀ a W R ρ', InvR C gl W0 R0 own0 ρ s.fr s.hp s.sz rs.next rs.recs (fun _ => true) a W R ρ' → Q .normal a W := fun a W R ρ' J => hQ a W R ρ' (I.leave B J)
  cases draw with
  | false =>
    refine wp_region ?_
    rw [List.range_eq_range']
    have := region_seq (P := P) (Q := Q) EO B hlen hQ' ops.size 0 (by simp) (I.start ⟨rfl, rfl, rfl, rfl⟩ B (fun q _ => by simp))
    simpa using this
  | true =>
    have rep : ∀ i, (Array.replicate ops.size false).getD i false = false := fun i => by
      simp only [Array.getD_eq_getD_getElem?, Array.getElem?_replicate]; split <;> rfl
    refine wp_region_any EO.mixed ?_
    have := region_any (P := P) (Q := Q) EO B hlen (hd rfl).1 (hd rfl).2 hQ' ops.size (Array.replicate ops.size false) (by simp) (fun i hi => by have hi : (Array.replicate ops.size false).getD i false = true := hi; rw [rep] at hi; cases hi) ?_
      (I.start (W' := { W with drawn := W.drawn + 1 }) ⟨rfl, rfl, rfl, rfl⟩ B fun q hq => rep _)
    · simpa using this
    · refine Nat.le_trans (List.length_filter_le ..) ?_
      rw [hlen]; simp

/-- The loops of some code, from outside. -/
def loopsOf : Code → List Code
  | .seq a b => loopsOf a ++ loopsOf b
  | .cond _ a b => loopsOf a ++ loopsOf b
  | .block _ b => loopsOf b
  | .loop b => [b]
  | _ => []

/-- A loop's summary is true. -/
def LOk (P : Program) (E : Env) (C : Ctx) (gl : List (Nat × SVal)) (W0 : World) (R0 own0 : Nat → Prop) (ρ0 : Nat → Option Value) (b : Code) (L : LSum) : Prop :=
  ∀ {Q : Exi → SState → Prop} {k : Exi → SState → Tr} {post : Exit → Act → World → Prop} {a : Act} {W : World} {R : Nat → Prop} {ρ : Nat → Option Value},
    L.pre → Inv E C gl W0 R0 own0 ρ0 L.head a W R ρ → (L.out k).sat Q → (∀ e s a W R ρ, Inv E C gl W0 R0 own0 ρ0 s a W R ρ → (k e s).sat Q → post (exitOf e) a W) → (Code.loop b).wp P post a W

theorem eval0 (EO : EnvOk P C gl E) (I : Inv E C gl W0 R0 own0 ρ0 s a W R ρ) (x : Operand) : Den C W R ρ (evR E s.fr [] none none x) (a.eval x) := by
  cases x with
  | tmp d => exact I.slots d
  | const v => exact ofVal_den v
  | global g =>
    simp only [evR]
    cases hf : find g E.glob with
    | none => exact .any _
    | some s =>
      rw [EO.glob] at hf
      exact (I.mem.base.glob g s hf).mono (fun _ h => h) (fun _ _ => rfl) fun r v h => by cases h
  | func f => exact .func f [] [] .nil

theorem Inv.known (I : Inv E C gl W0 R0 own0 ρ0 s a W R ρ) {c : Operand} {b : Bool} (h : a.eval c = .bool b) : Inv E C gl W0 R0 own0 ρ0 (s.known c b) a W R ρ := by
  cases c with
  | tmp t =>
    obtain ⟨h1, h2, h3, h4, h5, h6, h7⟩ := I
    refine ⟨fun d => ?_, h2, h3, h4, h5, h6, h7⟩
    simp only [SState.known, find]
    cases hb : t.beq d with
    | false => exact h1 d
    | true =>
      have := Nat.eq_of_beq_eq_true hb
      subst this
      have : a.tmps.getD t undef = .bool b := h
      rw [this]
      exact .bool (.lit b)
  | _ => exact I

theorem run_sound (EO : EnvOk P C gl E) (hown : HownOk E own0 ρ0) {ls : List (Nat × LSum)} {Q : Exi → SState → Prop} :
    ∀ (c : Code) (HL : ∀ b ∈ loopsOf c, ∀ L, find (headId b) ls = some L → LOk P E C gl W0 R0 own0 ρ0 b L) (s : SState) (k : Exi → SState → Tr) (post : Exit → Act → World → Prop) (a : Act) (W : World) (R : Nat → Prop) (ρ : Nat → Option Value),
      Inv E C gl W0 R0 own0 ρ0 s a W R ρ → (run E ls c s k).sat Q → (∀ e s a W R ρ, Inv E C gl W0 R0 own0 ρ0 s a W R ρ → (k e s).sat Q → post (exitOf e) a W) → c.wp P post a W := by
  intro c
  induction c with
  | skip => intro _ s k post a W R ρ I h hk; exact wp_skip (hk _ _ _ _ _ _ I h)
  | label l => intro _ s k post a W R ρ I h hk; exact wp_label (hk .normal _ _ _ _ _ I h)
  | ret => intro _ s k post a W R ρ I h hk; exact wp_ret (hk .ret _ _ _ _ _ I h)
  | exit id => intro _ s k post a W R ρ I h hk; exact wp_exit (hk (.exit id) _ _ _ _ _ I h)
  | region id ops draw =>
    intro _ s k post a W R ρ I h hk
    have hcut : ∀ s', (cut E ls id s' k).sat Q → ∀ a W R ρ, Inv E C gl W0 R0 own0 ρ0 s' a W R ρ → post .normal a W := fun s' h a W R ρ J => by
      unfold cut at h
      split at h
      · obtain ⟨R', ρ', J'⟩ := J.sub EO hown h.1
        exact hk .normal _ _ _ _ _ J' (h.2 h.1)
      · exact hk .normal _ _ _ _ _ J h
    simp only [run] at h
    split at h
    · exact h.elim
    · rename_i rs hr
      split at h
      · obtain ⟨hv, h⟩ := reqs_sat h
        exact region_ok EO I hr hv (fun h => by cases h) fun a W R ρ J => hcut _ h a W R ρ J
      · split at h
        · rename_i hd
          obtain ⟨hv, h⟩ := reqs_sat h
          exact region_ok EO I hr (fun p hp => hv p (List.mem_append_right _ hp)) (fun _ => ⟨hd, fun p hp => hv p (List.mem_append_left _ hp)⟩) fun a W R ρ J => hcut _ h a W R ρ J
        · exact h.elim
  | seq x y ihx ihy =>
    intro HL s k post a W R ρ I h hk
    have hLx := fun b hb => HL b (List.mem_append_left _ hb)
    have hLy := fun b hb => HL b (List.mem_append_right _ hb)
    simp only [run] at h
    split at h
    · refine wp_seq (ihx hLx s _ _ a W R ρ I h fun e s' a' W' R' ρ' J hs => ?_)
      cases e with
      | normal => exact ihy hLy s' k post a' W' R' ρ' J hs hk
      | ret => exact hk .ret _ _ _ _ _ J hs
      | exit id => exact hk (.exit id) _ _ _ _ _ J hs
    · obtain ⟨h1, h2⟩ := h
      refine wp_seq (ihx hLx s _ _ a W R ρ I h1 fun e s' a' W' R' ρ' J hs => ?_)
      cases e with
      | normal =>
        obtain ⟨R2, ρ2, J2⟩ := J.sub EO hown hs
        exact ihy hLy _ k post a' W' R2 ρ2 J2 h2 hk
      | ret => exact hk .ret _ _ _ _ _ J hs
      | exit id => exact hk (.exit id) _ _ _ _ _ J hs
  | cond c x y ihx ihy =>
    intro HL s k post a W R ρ I h hk
    have hL := fun b hb => HL b (List.mem_append_left _ hb)
    have hR := fun b hb => HL b (List.mem_append_right _ hb)
    have hc := eval0 EO I c
    simp only [run] at h
    split at h
    · rename_i e; rw [e] at hc
      exact wp_cond_true hc.bool_inv (ihx hL s k post a W R ρ I h hk)
    · rename_i e; rw [e] at hc
      exact wp_cond_false hc.bool_inv (ihy hR s k post a W R ρ I h hk)
    · rename_i β e; rw [e] at hc
      have hv := hc.bool_inv
      cases hb : β with
      | true =>
        rw [hb] at hv
        exact wp_cond_true hv (ihx hL _ k post a W R ρ (I.known hv) (h.1 hb) hk)
      | false =>
        rw [hb] at hv
        exact wp_cond_false hv (ihy hR _ k post a W R ρ (I.known hv) (h.2 hb) hk)
    · exact h.elim
  | block id b ih =>
    intro HL s k post a W R ρ I h hk
    simp only [run] at h
    refine wp_block (ih HL s _ _ a W R ρ I h fun e s' a' W' R' ρ' J hs => ?_)
    cases e with
    | normal => exact hk .normal _ _ _ _ _ J hs
    | ret => exact hk .ret _ _ _ _ _ J hs
    | exit id' =>
      simp only at hs
      show (if id' = id then post .normal a' W' else post (.exit id') a' W')
      split at hs
      · rename_i hb
        rw [if_pos (Nat.eq_of_beq_eq_true hb)]
        exact hk .normal _ _ _ _ _ J hs
      · rename_i hb
        rw [if_neg (Nat.ne_of_beq_eq_false hb)]
        exact hk (.exit id') _ _ _ _ _ J hs
  | loop b ih =>
    intro HL s k post a W R ρ I h hk
    simp only [run] at h
    split at h
    · rename_i L hL
      have hm := all_mem h.1
      obtain ⟨R', ρ', J⟩ := I.sub EO hown (all_of fun p hp => hm p (List.mem_cons_of_mem _ hp))
      exact HL b (List.mem_cons_self ..) L hL (hm _ (List.mem_cons_self ..)) J (h.2 h.1) hk
    · exact h.elim
  | rangeFunc f ps x y => intro _ s k post a W R ρ I h hk; exact h.elim
  | scope b => intro _ s k post a W R ρ I h hk; exact h.elim
  | goto l => intro _ s k post a W R ρ I h hk; exact h.elim
  | refuse w => intro _ s k post a W R ρ I h hk; exact h.elim

theorem least_ex {S : Nat → Prop} (h : ∃ m, S m) : ∃ m, S m ∧ ∀ k, S k → m ≤ k := by
  obtain ⟨m, hm⟩ := h
  induction m using Nat.strongRecOn with
  | _ m ih =>
    by_cases h : ∃ k, k < m ∧ S k
    · obtain ⟨k, hk, hs⟩ := h; exact ih k hk hs
    · exact ⟨m, hm, fun k hk => Nat.le_of_not_lt fun hl => h ⟨k, hl, hk⟩⟩
open Classical in
noncomputable def leastN (S : Nat → Prop) : Nat := if h : ∃ m, S m then Classical.choose (least_ex h) else 0
theorem leastN_ok {S : Nat → Prop} (h : ∃ m, S m) : S (leastN S) ∧ ∀ k, S k → leastN S ≤ k := by
  unfold leastN
  rw [dif_pos h]
  exact Classical.choose_spec (least_ex h)

/-- A loop's summary, by a family of states at its head that comes down. -/
theorem loop_ok (EO : EnvOk P C gl E) (hown : HownOk E own0 ρ0) {b : Code} {ι : Type} {ls : ι → List (Nat × LSum)} (HL : ∀ i, ∀ c ∈ loopsOf b, ∀ L, find (headId c) (ls i) = some L → LOk P E C gl W0 R0 own0 ρ0 c L)
    (H : ι → SState) (μ : ι → Nat) (Post : ι → Exi → SState → Prop)
    {L : LSum} (body : L.pre → ∀ i, (run E (ls i) b (H i) .leaf).sat fun e s => match e with
      | .normal => ∃ j σ, μ j < μ i ∧ all (subSt E σ s (H j)) ∧ ∀ e t, Post j e t → Post i e t
      | e => ∃ t σ, Post i e t ∧ all (subSt E σ s t))
    (i : L.pre → ι) (hh : ∀ h, L.head = H (i h)) (ho : ∀ h, ∀ {Q : Exi → SState → Prop} {k}, (L.out k).sat Q → ∀ e t, Post (i h) e t → (k e t).sat Q) : LOk P E C gl W0 R0 own0 ρ0 b L := by
  intro Q k post a W R ρ hpre I h hk
  rw [hh hpre] at I
  have hp := ho hpre h
  clear hh ho h
  let S : Act → World → Nat → Prop := fun a W m => ∃ j R ρ, Inv E C gl W0 R0 own0 ρ0 (H j) a W R ρ ∧ (∀ e t, Post j e t → (k e t).sat Q) ∧ μ j = m
  have least : ∀ a W (h : ∃ m, S a W m), S a W (leastN (S a W)) ∧ ∀ m, S a W m → leastN (S a W) ≤ m := fun a W h => leastN_ok h
  refine wp_loop (fun a W => ∃ m, S a W m) (fun a W => leastN (S a W)) ⟨_, i hpre, R, ρ, I, hp, rfl⟩ fun a W hI => ?_
  obtain ⟨⟨j, R, ρ, I, hp, hj⟩, _⟩ := least a W hI
  refine run_sound EO hown b (HL j) (H j) .leaf _ a W R ρ I (body hpre j) fun e s a' W' R' ρ' J hs => ?_
  cases e with
  | normal =>
    obtain ⟨j', σ, h1, h2, h3⟩ := hs
    obtain ⟨R'', ρ'', J'⟩ := J.sub EO hown h2
    have hS : S a' W' (μ j') := ⟨j', R'', ρ'', J', fun e t h => hp e t (h3 e t h), rfl⟩
    exact ⟨⟨_, hS⟩, Nat.lt_of_le_of_lt ((least a' W' ⟨_, hS⟩).2 _ hS) (by rw [← hj]; exact h1)⟩
  | ret =>
    obtain ⟨t, σ, h1, h2⟩ := hs
    obtain ⟨R'', ρ'', J'⟩ := J.sub EO hown h2
    exact hk .ret _ _ _ _ _ J' (hp _ _ h1)
  | exit id =>
    obtain ⟨t, σ, h1, h2⟩ := hs
    obtain ⟨R'', ρ'', J'⟩ := J.sub EO hown h2
    exact hk (.exit id) _ _ _ _ _ J' (hp _ _ h1)
end
end Go.Sy
