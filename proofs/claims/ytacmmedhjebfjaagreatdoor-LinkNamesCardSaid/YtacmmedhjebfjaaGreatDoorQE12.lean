/- Words that the proofs use, part 12. -/
import Derived.Test.YtacmmedhjebfjaaGreatDoorQE11
import Derived.LoopN
set_option linter.unusedVariables false
set_option linter.unusedSimpArgs false
namespace Go.Sy
open Go.RowKit
section
variable {P : Program} {C : Ctx} {gl : List (Nat × SVal)} {E : Env} {W0 : World} {R0 own0 : Nat → Prop} {ρ0 : Nat → Option Value}
variable {s t : SState} {a : Act} {W W' : World} {R R' : Nat → Prop} {ρ ρ' : Nat → Option Value} {σ : List (Nat × Nat)}
theorem leaveF_find (fr : List (Nat × SVal)) (l : List Rec) (d : Nat) : find d (leaveF fr l) = match lastOf l d with
  | some r => some (keyed .any r.v r.key)
  | none => find d fr := by
 induction l with
 | nil => rfl
 | cons r l ih =>
  simp only [leaveF, lastOf]
  cases hd : r.dst with
  | none => simp only [isDst]; exact ih
  | some d' =>
   simp only [find, isDst]
   cases d'.beq d with
   | true => rfl
   | false => exact ih
theorem find_append {α : Type} {n : Nat} {l l' : List (Nat × α)} : find n (l ++ l') = match find n l with
  | some a => some a
  | none => find n l' := by
 induction l with
 | nil => rfl
 | cons p l ih =>
  obtain ⟨m, x⟩ := p
  simp only [List.cons_append, find]
  cases m.beq n with
  | true => rfl
  | false => exact ih
theorem find_map {α β : Type} {f : α → β} {n : Nat} {l : List (Nat × α)} : find n (l.map fun x => (x.1, f x.2)) = (find n l).map f := by
 induction l with
 | nil => rfl
 | cons p l ih =>
  obtain ⟨m, x⟩ := p
  simp only [List.map_cons, find]
  cases m.beq n with
  | true => rfl
  | false => exact ih
theorem leaveH_known {hp : List (Nat × Option Cont)} : ∀ {l : List Rec}, (∀ r ∈ l, r.key = none → r.g.val = true ∨ r.ws = []) → ∀ n c, lookS (leaveH hp l) n = some c → contT hp l n = some c := by
 intro l
 induction l with
 | nil => intro _ n c h; exact h
 | cons r l ih =>
  intro hk n c h
  have ih := ih (fun q hq => hk q (List.mem_cons_of_mem _ hq)) n c
  unfold lookS at h ih
  simp only [leaveH] at h
  rw [find_append] at h
  have hm := find_map (f := fun c => keyed none c r.key) (n := n) (l := r.ws)
  rw [hm] at h
  simp only [contT]
  cases hf : find n r.ws with
  | none =>
   rw [hf] at h
   have := ih h
   cases r.g.val <;> exact this
  | some c0 =>
   rw [hf] at h
   simp only [Option.map_some, Option.getD_some] at h
   cases hkey : r.key with
   | some p => rw [hkey] at h; cases h
   | none =>
    rw [hkey] at h
    rcases hk r (List.mem_cons_self ..) hkey with hg | hw
    ·rw [hg]; exact h
    ·rw [hw] at hf; cases hf
theorem Mem.world {h : Nat → Option Cont} (M : Mem C gl W R ρ h) (e : W'.heap = W.heap) : Mem C gl W' R ρ h where
 base := M.base.mono (fun _ h => h) (fun b hb => by rw [e]; exact M.base.inR b hb) fun _ _ => by rw [e]
 at_ r c hc := let ⟨v, hv, hh⟩ := M.at_ r c hc; ⟨v, hv, hh.mono (fun _ h => h) (fun _ _ => by rw [e]) (fun _ _ h => h) fun _ _ => by rw [e]⟩
 apart := M.apart
 off := M.off
theorem Inv.start {recs : List Rec} {next1 : Nat} (I : Inv E C gl W0 R0 own0 ρ0 s a W R ρ) (e : W'.os = W.os ∧ W'.tape = W.tape ∧ W'.output = W.output ∧ W'.heap = W.heap) {ops : List Oper} (B : Built E ops s.fr s.hp s.sz s.next recs next1) {L : Rec → Bool} (hL : ∀ q ∈ recs, L q = false) :
  InvR E C gl W0 R0 own0 ρ s.fr s.hp s.sz next1 recs L a W' R ρ := by
 have hf : recs.filter L = [] := List.filter_eq_nil_iff.2 fun q hq => by rw [hL q hq]; simp
 refine ⟨fun d => ?_, ?_, I.size, ?_, fun r hr _ j hj => ?_, fun n hn => ?_, I.defers, fun _ _ h => h⟩
 ·rw [hf]
  exact (I.slots d).mono (fun _ h => h) (fun _ _ => by rw [e.2.2.2]) fun _ _ h => h
 ·rw [hf]; exact I.mem.world e.2.2.2
 ·rw [hf]; exact I.bt.world e
 ·exact I.above _ (Nat.le_trans (B.mem r hr).2.2 (Nat.le_add_right _ _))
 ·exact I.above _ (Nat.le_trans B.le hn)
theorem Built.keys {ops : List Oper} {fr : List (Nat × SVal)} {hp : List (Nat × Option Cont)} {sz next0 next1 : Nat} {recs : List Rec} (B : Built E ops fr hp sz next0 recs next1) : ∀ r ∈ recs, r.key = none → r.g.val = true ∨ (r.v = .any ∧ r.ws = []) := fun r hr hk => by
 obtain ⟨pre, l, o, e, hB, hA, _⟩ := B.split hr
 exact hA.key_none hk
theorem Inv.leave {recs : List Rec} {next1 : Nat} (I : Inv E C gl W0 R0 own0 ρ0 s a W R ρ) {ops : List Oper} (B : Built E ops s.fr s.hp s.sz s.next recs next1) {a' : Act} {W' : World} {R' : Nat → Prop} {ρ' : Nat → Option Value}
  (J : InvR E C gl W0 R0 own0 ρ s.fr s.hp s.sz next1 recs (fun _ => true) a' W' R' ρ') : Inv E C gl W0 R0 own0 ρ0 { fr := leaveF s.fr recs, hp := leaveH s.hp recs, next := next1, sz := s.sz } a' W' R' ρ' := by
 have hf : recs.filter (fun _ => true) = recs := List.filter_eq_self.2 fun _ _ => rfl
 have hw := leaveH_known (hp := s.hp) fun r hr hk => (B.keys r hr hk).imp id fun h => h.2
 refine ⟨fun d => ?_, ?_, J.size, ?_, J.above, J.defers, fun n hn v hv => J.ext n v (I.pins n hn v hv)⟩
 ·have := J.slots d
  unfold slotIs at this
  rw [hf] at this
  simp only [leaveF_find]
  cases hl : lastOf recs d with
  | none => rw [hl] at this; exact this
  | some r =>
   rw [hl] at this
   simp only [Option.getD_some]
   cases hk : r.key with
   | some p => exact .any _
   | none =>
    simp only [keyed]
    rcases B.keys r (lastOf_mem hl).1 hk with hg | ⟨hv, _⟩
    ·exact this.1 hg
    ·rw [hv]; exact .any _
 ·have := J.mem; rw [hf] at this; exact this.weaken hw
 ·have := J.bt; rw [hf] at this; exact this.weaken (ownOf.weaken hw)
theorem reqs_sat {Q : Exi → SState → Prop} : ∀ {l : List Prop} {t : Tr}, (reqs l t).sat Q → (∀ p ∈ l, p) ∧ t.sat Q := by
 intro l
 induction l with
 | nil => intro t h; exact ⟨(fun p hp => by cases hp), h⟩
 | cons p l ih =>
  intro t h
  obtain ⟨h1, h2⟩ := ih (t := .req p t) h
  exact ⟨fun q hq => (List.mem_cons.1 hq).elim (fun e => by subst e; exact h2.1) fun hq => h1 q hq, h2.2 h2.1⟩
theorem all_of {l : List Prop} (h : ∀ p ∈ l, p) : all l := by
 induction l with
 | nil => trivial
 | cons p l ih =>
  have ih := ih fun q hq => h q (List.mem_cons_of_mem _ hq)
  have hp := h p (List.mem_cons_self ..)
  cases l with
  | nil => exact hp
  | cons q l => exact ⟨hp, ih⟩
def exitOf : Exi → Exit
 | .normal => .normal
 | .ret => .ret
 | .exit id => .exit id
theorem region_ok (EO : EnvOk P C gl E) (I : Inv E C gl W0 R0 own0 ρ0 s a W R ρ) {ops : Array Oper} {rs : RS} (hr : runR E s.fr s.hp s.sz ops.toList 0 { next := s.next, recs := [], vc := [] } = .ok rs) (hv : ∀ p ∈ rs.vc, p)
  {draw : Bool} (hd : draw = true → drawOk ops.toList rs.recs = true ∧ ∀ p ∈ comms E s.fr s.hp ops.toList rs.recs, p) {Q : Exit → Act → World → Prop} {id : Nat}
  (hQ : ∀ a W R ρ, Inv E C gl W0 R0 own0 ρ0 { fr := leaveF s.fr rs.recs, hp := leaveH s.hp rs.recs, next := rs.next, sz := s.sz } a W R ρ → Q .normal a W) : (Code.region id ops draw).wp P Q a W := by
 obtain ⟨_, B, hlen⟩ := runR_built (next0 := s.next) hr hv rfl rfl (Nat.zero_le _) fun _ => .nil
 have hQ' : ∀ a W R ρ', InvR E C gl W0 R0 own0 ρ s.fr s.hp s.sz rs.next rs.recs (fun _ => true) a W R ρ' → Q .normal a W := fun a W R ρ' J => hQ a W R ρ' (I.leave B J)
 cases draw with
 | false =>
  refine wp_region ?_
  rw [List.range_eq_range']
  have := region_seq (P := P) (Q := Q) EO B hlen hQ' ops.size 0 (by simp) (I.start ⟨rfl, rfl, rfl, rfl⟩ B (fun q _ => by simp))
  simpa using this
 | true =>
  have rep : ∀ i, (Array.replicate ops.size false).getD i false = false := fun i => by
   simp only [Array.getD_eq_getD_getElem?, Array.getElem?_replicate]; split <;> rfl
  refine wp_region_any EO.mixed ?_
  have := region_any (P := P) (Q := Q) EO B hlen (hd rfl).1 (hd rfl).2 hQ' ops.size (Array.replicate ops.size false) (by simp) (fun i hi => by have hi : (Array.replicate ops.size false).getD i false = true := hi; rw [rep] at hi; cases hi) ?_
   (I.start (W' := { W with drawn := W.drawn + 1 }) ⟨rfl, rfl, rfl, rfl⟩ B fun q hq => rep _)
  ·simpa using this
  ·refine Nat.le_trans (List.length_filter_le ..) ?_
   rw [hlen]; simp
def loopsOf : Code → List Code
 | .seq a b => loopsOf a ++ loopsOf b
 | .cond _ a b => loopsOf a ++ loopsOf b
 | .block _ b => loopsOf b
 | .loop b => [b]
 | _ => []
def LOk (P : Program) (E : Env) (C : Ctx) (gl : List (Nat × SVal)) (W0 : World) (R0 own0 : Nat → Prop) (ρ0 : Nat → Option Value) (b : Code) (L : LSum) : Prop :=
 ∀ {Q : Exi → SState → Prop} {k : Exi → SState → Tr} {post : Exit → Act → World → Prop} {a : Act} {W : World} {R : Nat → Prop} {ρ : Nat → Option Value},
  L.pre → Inv E C gl W0 R0 own0 ρ0 L.head a W R ρ → (L.out k).sat Q → (∀ e s a W R ρ, Inv E C gl W0 R0 own0 ρ0 s a W R ρ → (k e s).sat Q → post (exitOf e) a W) → (Code.loop b).wp P post a W
theorem eval0 (EO : EnvOk P C gl E) (I : Inv E C gl W0 R0 own0 ρ0 s a W R ρ) (x : Operand) : Den C W R ρ (evR E s.fr [] none none x) (a.eval x) := by
 cases x with
 | tmp d => exact I.slots d
 | const v => exact ofVal_den v
 | global g =>
  simp only [evR]
  cases hf : find g E.glob with
  | none => exact .any _
  | some s =>
   rw [EO.glob] at hf
   exact (I.mem.base.glob g s hf).mono (fun _ h => h) (fun _ _ => rfl) fun r v h => by cases h
 | func f => exact .func f [] [] .nil
theorem Inv.known (I : Inv E C gl W0 R0 own0 ρ0 s a W R ρ) {c : Operand} {b : Bool} (h : a.eval c = .bool b) : Inv E C gl W0 R0 own0 ρ0 (s.known c b) a W R ρ := by
 cases c with
 | tmp t =>
  obtain ⟨h1, h2, h3, h4, h5, h6, h7⟩ := I
  refine ⟨fun d => ?_, h2, h3, h4, h5, h6, h7⟩
  simp only [SState.known, find]
  cases hb : t.beq d with
  | false => exact h1 d
  | true =>
   have := Nat.eq_of_beq_eq_true hb
   subst this
   have : a.tmps.getD t undef = .bool b := h
   rw [this]
   exact .bool (.lit b)
 | _ => exact I
theorem Inv.put (I : Inv E C gl W0 R0 own0 ρ0 s a W R ρ) {t : Nat} {x : SVal} (h : ∀ v, Den C W R ρ ((find t s.fr).getD .any) v → Den C W R ρ x v) : Inv E C gl W0 R0 own0 ρ0 { s with fr := (t, x) :: s.fr } a W R ρ := by
 obtain ⟨h1, h2, h3, h4, h5, h6, h7⟩ := I
 refine ⟨fun d => ?_, h2, h3, h4, h5, h6, h7⟩
 simp only [find]
 cases hb : t.beq d with
 | false => exact h1 d
 | true =>
  have := Nat.eq_of_beq_eq_true hb
  subst this
  exact h _ (h1 t)
theorem splitN_sat (EO : EnvOk P C gl E) {Q : Exi → SState → Prop} {t : Nat} {kk : IntKind} {n lo hi : Int} {f : SState → Tr} {post : Act → World → Prop} (hf : ∀ s a W R ρ, Inv E C gl W0 R0 own0 ρ0 s a W R ρ → (f s).sat Q → post a W) (I : Inv E C gl W0 R0 own0 ρ0 s a W R ρ) (hs : find t s.fr = some (.int kk (.sym n lo hi))) :
  ∀ m c, (splitN s t kk n f m c).sat Q → post a W := by
 have one : ∀ c, n = c → (f { s with fr := (t, .int kk (.lit c)) :: s.fr }).sat Q → post a W := fun c hc h => by
  refine hf _ a W R ρ (I.put fun v hv => ?_) h
  rw [hs] at hv
  cases hv with
  | int _ _ hi =>
   subst hc
   exact .int kk (.lit n) ⟨hi.lo, hi.hi, Int.le_refl _, Int.le_refl _⟩
 intro m
 induction m with
 | zero => intro c h; exact one c h.1 (h.2 h.1)
 | succ m ih =>
  intro c h
  by_cases hc : n = c
  ·exact one c hc (h.1 (decide_eq_true hc))
  ·exact ih _ (h.2 (decide_eq_false hc))
theorem forkI_sat {Q : Exi → SState → Prop} {t : Nat} {c : Int} {f : SState → Tr} {post : Act → World → Prop} (hf : ∀ s a W R ρ, Inv E C gl W0 R0 own0 ρ0 s a W R ρ → (f s).sat Q → post a W) (I : Inv E C gl W0 R0 own0 ρ0 s a W R ρ) (h : (forkI s t c f).sat Q) : post a W := by
 unfold forkI at h
 split at h
 ·rename_i kk x hs
  by_cases hc : x.val < c
  ·refine hf _ a W R ρ (I.put fun v hv => ?_) (h.1 (decide_eq_true hc))
   rw [hs] at hv
   cases hv with
   | int _ _ hi => exact .int kk (.sym x.val (x.lo kk) (c - 1)) ⟨hi.lo, hi.hi, hi.lo', by show x.val ≤ c - 1; omega⟩
  ·refine hf _ a W R ρ (I.put fun v hv => ?_) (h.2 (decide_eq_false hc))
   rw [hs] at hv
   cases hv with
   | int _ _ hi => exact .int kk (.sym x.val c (x.hi kk)) ⟨hi.lo, hi.hi, by show c ≤ x.val; omega, hi.hi'⟩
 ·exact h.elim
theorem split_sat (EO : EnvOk P C gl E) {Q : Exi → SState → Prop} {ls : List (Nat × LSum)} {id : Nat} {k : Exi → SState → Tr} {e : Exi} {post : Act → World → Prop} (hf : ∀ s a W R ρ, Inv E C gl W0 R0 own0 ρ0 s a W R ρ → (k e s).sat Q → post a W) (I : Inv E C gl W0 R0 own0 ρ0 s a W R ρ) (h : (split ls id k e s).sat Q) : post a W := by
 unfold split at h
 split at h
 ·exact hf _ _ _ _ _ I h
 ·split at h
  ·exact forkI_sat hf I h
  ·split at h
   ·rename_i hs
    exact splitN_sat EO hf I hs _ _ h
   ·rename_i b hs
    cases b with
    | true =>
     refine hf _ a W R ρ (I.put fun v hv => ?_) (h.1 rfl)
     rw [hs] at hv
     cases hv with
     | bool _ => exact .bool (.lit true)
    | false =>
     refine hf _ a W R ρ (I.put fun v hv => ?_) (h.2 rfl)
     rw [hs] at hv
     cases hv with
     | bool _ => exact .bool (.lit false)
   ·exact h.elim
  ·exact h.elim
theorem regionT_sat (EO : EnvOk P C gl E) (hown : HownOk E own0 ρ0) {Q : Exi → SState → Prop} {ls : List (Nat × LSum)} {id : Nat} {ops : Array Oper} {draw : Bool} {k : Exi → SState → Tr} (I : Inv E C gl W0 R0 own0 ρ0 s a W R ρ) (h : (regionT E ls id ops draw s k).sat Q) {post : Exit → Act → World → Prop}
  (hk : ∀ a W R ρ s, Inv E C gl W0 R0 own0 ρ0 s a W R ρ → (k .normal s).sat Q → post .normal a W) : (Code.region id ops draw).wp P post a W := by
 have hcut : ∀ s', (cut E ls id s' (split ls id k)).sat Q → ∀ a W R ρ, Inv E C gl W0 R0 own0 ρ0 s' a W R ρ → post .normal a W := fun s' h a W R ρ J => by
  unfold cut at h
  split at h
  ·obtain ⟨R', ρ', J'⟩ := J.sub EO hown h.1
   exact split_sat EO (post := post .normal) (fun s a W R ρ J h => hk _ _ _ _ _ J h) J' (h.2 h.1)
  ·exact split_sat EO (post := post .normal) (fun s a W R ρ J h => hk _ _ _ _ _ J h) J h
 unfold regionT at h
 split at h
 ·exact h.elim
 ·rename_i rs hr
  split at h
  ·obtain ⟨hv, h⟩ := reqs_sat h
   exact region_ok EO I hr hv (fun h => by cases h) fun a W R ρ J => hcut _ h a W R ρ J
  ·split at h
   ·rename_i hd
    obtain ⟨hv, h⟩ := reqs_sat h
    exact region_ok EO I hr (fun p hp => hv p (List.mem_append_right _ hp)) (fun _ => ⟨hd, fun p hp => hv p (List.mem_append_left _ hp)⟩) fun a W R ρ J => hcut _ h a W R ρ J
   ·exact h.elim
theorem EnvOk.fz (EO : EnvOk P C gl E) (z : List (Nat × Bool)) : EnvOk P C gl { E with fz := z } := ⟨EO.tab, EO.err, EO.glob, EO.tAt, EO.mixed, EO.con, EO.cmp⟩
theorem Inv.fz (I : Inv E C gl W0 R0 own0 ρ0 s a W R ρ) (z : List (Nat × Bool)) : Inv { E with fz := z } C gl W0 R0 own0 ρ0 s a W R ρ := ⟨I.slots, I.mem, I.size, I.bt, I.above, I.defers, I.pins⟩
theorem Inv.unfz {z : List (Nat × Bool)} (I : Inv { E with fz := z } C gl W0 R0 own0 ρ0 s a W R ρ) : Inv E C gl W0 R0 own0 ρ0 s a W R ρ := ⟨I.slots, I.mem, I.size, I.bt, I.above, I.defers, I.pins⟩
theorem regionS_sat (EO : EnvOk P C gl E) (hown : HownOk E own0 ρ0) {Q : Exi → SState → Prop} {ls : List (Nat × LSum)} {id : Nat} {ops : Array Oper} {draw : Bool} {k : Exi → SState → Tr} (I : Inv E C gl W0 R0 own0 ρ0 s a W R ρ) {post : Exit → Act → World → Prop}
  (hk : ∀ a W R ρ s, Inv E C gl W0 R0 own0 ρ0 s a W R ρ → (k .normal s).sat Q → post .normal a W) : ∀ (js : List (Nat × SVal)) (fz : List (Nat × Bool)), (regionS E ls id ops draw s k js fz).sat Q → (Code.region id ops draw).wp P post a W := by
 intro js
 induction js with
 | nil =>
  intro fz h
  exact regionT_sat (EO.fz fz) hown (I.fz fz) h fun a W R ρ s J h => hk _ _ _ _ _ J.unfz h
 | cons j js ih =>
  obtain ⟨j, x⟩ := j
  intro fz h
  simp only [regionS] at h
  split at h
  ·exact h.elim
  ·split at h
   ·rename_i g hg
    cases g with
    | true => exact ih _ (h.1 rfl)
    | false => exact ih _ (h.2 rfl)
   ·exact ih _ h
theorem run_sound (EO : EnvOk P C gl E) (hown : HownOk E own0 ρ0) {Q : Exi → SState → Prop} :
  ∀ (c : Code) {ls : List (Nat × LSum)} (HL : ∀ b ∈ loopsOf c, ∀ L, find (headId b) ls = some L → LOk P E C gl W0 R0 own0 ρ0 b L) (s : SState) (k : Exi → SState → Tr) (post : Exit → Act → World → Prop) (a : Act) (W : World) (R : Nat → Prop) (ρ : Nat → Option Value),
   Inv E C gl W0 R0 own0 ρ0 s a W R ρ → (run E ls c s k).sat Q → (∀ e s a W R ρ, Inv E C gl W0 R0 own0 ρ0 s a W R ρ → (k e s).sat Q → post (exitOf e) a W) → c.wp P post a W := by
 intro c
 induction c with
 | skip => intro _ _ s k post a W R ρ I h hk; exact wp_skip (hk _ _ _ _ _ _ I h)
 | label l => intro _ _ s k post a W R ρ I h hk; exact wp_label (hk .normal _ _ _ _ _ I h)
 | ret => intro _ _ s k post a W R ρ I h hk; exact wp_ret (hk .ret _ _ _ _ _ I h)
 | exit id => intro _ _ s k post a W R ρ I h hk; exact wp_exit (hk (.exit id) _ _ _ _ _ I h)
 | region id ops draw =>
  intro ls _ s k post a W R ρ I h hk
  simp only [run] at h
  split at h
  ·exact regionT_sat EO hown I h fun a W R ρ s J h => hk .normal _ _ _ _ _ J h
  ·exact regionS_sat EO hown I (fun a W R ρ s J h => hk .normal _ _ _ _ _ J h) _ _ h
 | seq x y ihx ihy =>
  intro ls HL s k post a W R ρ I h hk
  have hLx := fun b hb => HL b (List.mem_append_left _ hb)
  have hLy := fun b hb => HL b (List.mem_append_right _ hb)
  simp only [run] at h
  split at h
  ·refine wp_seq (ihx hLx s _ _ a W R ρ I h fun e s' a' W' R' ρ' J hs => ?_)
   cases e with
   | normal => exact ihy hLy s' k post a' W' R' ρ' J hs hk
   | ret => exact hk .ret _ _ _ _ _ J hs
   | exit id => exact hk (.exit id) _ _ _ _ _ J hs
  ·obtain ⟨h1, h2⟩ := h
   refine wp_seq (ihx hLx s _ _ a W R ρ I h1 fun e s' a' W' R' ρ' J hs => ?_)
   cases e with
   | normal =>
    obtain ⟨R2, ρ2, J2⟩ := J.sub EO hown hs
    exact ihy hLy _ k post a' W' R2 ρ2 J2 h2 hk
   | ret => exact hk .ret _ _ _ _ _ J hs
   | exit id => exact hk (.exit id) _ _ _ _ _ J hs
 | cond c x y ihx ihy =>
  intro ls HL s k post a W R ρ I h hk
  have hL := fun b hb => HL b (List.mem_append_left _ hb)
  have hR := fun b hb => HL b (List.mem_append_right _ hb)
  have hc := eval0 EO I c
  simp only [run] at h
  split at h
  ·rename_i e; rw [e] at hc
   exact wp_cond_true hc.bool_inv (ihx hL s k post a W R ρ I h hk)
  ·rename_i e; rw [e] at hc
   exact wp_cond_false hc.bool_inv (ihy hR s k post a W R ρ I h hk)
  ·rename_i β e; rw [e] at hc
   have hv := hc.bool_inv
   cases hb : β with
   | true =>
    rw [hb] at hv
    exact wp_cond_true hv (ihx hL _ k post a W R ρ (I.known hv) (h.1 hb) hk)
   | false =>
    rw [hb] at hv
    exact wp_cond_false hv (ihy hR _ k post a W R ρ (I.known hv) (h.2 hb) hk)
  ·exact h.elim
 | block id b ih =>
  intro ls HL s k post a W R ρ I h hk
  simp only [run] at h
  refine wp_block (ih HL s _ _ a W R ρ I h fun e s' a' W' R' ρ' J hs => ?_)
  cases e with
  | normal => exact hk .normal _ _ _ _ _ J hs
  | ret => exact hk .ret _ _ _ _ _ J hs
  | exit id' =>
   simp only at hs
   show (if id' = id then post .normal a' W' else post (.exit id') a' W')
   split at hs
   ·rename_i hb
    rw [if_pos (Nat.eq_of_beq_eq_true hb)]
    exact hk .normal _ _ _ _ _ J hs
   ·rename_i hb
    rw [if_neg (Nat.ne_of_beq_eq_false hb)]
    exact hk (.exit id') _ _ _ _ _ J hs
 | loop b ih =>
  intro ls HL s k post a W R ρ I h hk
  simp only [run] at h
  split at h
  ·rename_i L hL
   have hm := all_mem h.1
   obtain ⟨R', ρ', J⟩ := I.sub EO hown (all_of fun p hp => hm p (List.mem_cons_of_mem _ hp))
   exact HL b (List.mem_cons_self ..) L hL (hm _ (List.mem_cons_self ..)) J (h.2 h.1) hk
  ·have key : ∀ n s a W R ρ, Inv E C gl W0 R0 own0 ρ0 s a W R ρ → (unroll (run E [] b) n s k).sat Q → Code.rounds P b post n a W := by
    intro n
    induction n with
    | zero => intro s a W R ρ _ h; exact h.elim
    | succ n ihn =>
     intro s a W R ρ I h
     rw [rounds_succ]
     refine ih (ls := []) (fun b _ L hL => by cases hL) s _ _ a W R ρ I h fun e s' a' W' R' ρ' J hs => ?_
     cases e with
     | normal => exact ihn _ _ _ _ _ J hs
     | ret => exact hk .ret _ _ _ _ _ J hs
     | exit id => exact hk (.exit id) _ _ _ _ _ J hs
   exact wp_loop_rounds _ (key _ s a W R ρ I h)
 | rangeFunc f ps x y => intro _ _ s k post a W R ρ I h hk; exact h.elim
 | scope b => intro _ _ s k post a W R ρ I h hk; exact h.elim
 | goto l => intro _ _ s k post a W R ρ I h hk; exact h.elim
 | refuse w => intro _ _ s k post a W R ρ I h hk; exact h.elim
theorem least_ex {S : Nat → Prop} (h : ∃ m, S m) : ∃ m, S m ∧ ∀ k, S k → m ≤ k := by
 obtain ⟨m, hm⟩ := h
 induction m using Nat.strongRecOn with
 | _ m ih =>
  by_cases h : ∃ k, k < m ∧ S k
  ·obtain ⟨k, hk, hs⟩ := h; exact ih k hk hs
  ·exact ⟨m, hm, fun k hk => Nat.le_of_not_lt fun hl => h ⟨k, hl, hk⟩⟩
open Classical in
noncomputable def leastN (S : Nat → Prop) : Nat := if h : ∃ m, S m then Classical.choose (least_ex h) else 0
theorem leastN_ok {S : Nat → Prop} (h : ∃ m, S m) : S (leastN S) ∧ ∀ k, S k → leastN S ≤ k := by
 unfold leastN
 rw [dif_pos h]
 exact Classical.choose_spec (least_ex h)
theorem loop_ok (EO : EnvOk P C gl E) (hown : HownOk E own0 ρ0) {b : Code} {ι : Type} {ls : ι → List (Nat × LSum)} (HL : ∀ i, ∀ c ∈ loopsOf b, ∀ L, find (headId c) (ls i) = some L → LOk P E C gl W0 R0 own0 ρ0 c L)
  (H : ι → SState) (μ : ι → Nat) (Post : ι → Exi → SState → Prop)
  {L : LSum} (body : L.pre → ∀ i, (run E (ls i) b (H i) .leaf).sat fun e s => match e with
   | .normal => ∃ j σ, μ j < μ i ∧ all (subSt E σ s (H j)) ∧ ∀ e t, Post j e t → Post i e t
   | e => ∃ t σ, Post i e t ∧ all (subSt E σ s t))
  (i : L.pre → ι) (hh : ∀ h, L.head = H (i h)) (ho : ∀ h, ∀ {Q : Exi → SState → Prop} {k}, (L.out k).sat Q → ∀ e t, Post (i h) e t → (k e t).sat Q) : LOk P E C gl W0 R0 own0 ρ0 b L := by
 intro Q k post a W R ρ hpre I h hk
 rw [hh hpre] at I
 have hp := ho hpre h
 clear hh ho h
 let S : Act → World → Nat → Prop := fun a W m => ∃ j R ρ, Inv E C gl W0 R0 own0 ρ0 (H j) a W R ρ ∧ (∀ e t, Post j e t → (k e t).sat Q) ∧ μ j = m
 have least : ∀ a W (h : ∃ m, S a W m), S a W (leastN (S a W)) ∧ ∀ m, S a W m → leastN (S a W) ≤ m := fun a W h => leastN_ok h
 refine wp_loop (fun a W => ∃ m, S a W m) (fun a W => leastN (S a W)) ⟨_, i hpre, R, ρ, I, hp, rfl⟩ fun a W hI => ?_
 obtain ⟨⟨j, R, ρ, I, hp, hj⟩, _⟩ := least a W hI
 refine run_sound EO hown b (HL j) (H j) .leaf _ a W R ρ I (body hpre j) fun e s a' W' R' ρ' J hs => ?_
 cases e with
 | normal =>
  obtain ⟨j', σ, h1, h2, h3⟩ := hs
  obtain ⟨R'', ρ'', J'⟩ := J.sub EO hown h2
  have hS : S a' W' (μ j') := ⟨j', R'', ρ'', J', fun e t h => hp e t (h3 e t h), rfl⟩
  exact ⟨⟨_, hS⟩, Nat.lt_of_le_of_lt ((least a' W' ⟨_, hS⟩).2 _ hS) (by rw [← hj]; exact h1)⟩
 | ret =>
  obtain ⟨t, σ, h1, h2⟩ := hs
  obtain ⟨R'', ρ'', J'⟩ := J.sub EO hown h2
  exact hk .ret _ _ _ _ _ J' (hp _ _ h1)
 | exit id =>
  obtain ⟨t, σ, h1, h2⟩ := hs
  obtain ⟨R'', ρ'', J'⟩ := J.sub EO hown h2
  exact hk (.exit id) _ _ _ _ _ J' (hp _ _ h1)
end
end Go.Sy

set_option linter.unusedVariables false
set_option linter.unusedSimpArgs false
namespace Go.Sy
open Go.RowKit
section
variable {P : Program} {C : Ctx} {gl : List (Nat × SVal)} {E : Env} {W0 : World} {R0 own0 : Nat → Prop} {ρ0 : Nat → Option Value}
variable {s t : SState} {a : Act} {W W' : World} {R R' : Nat → Prop} {ρ ρ' : Nat → Option Value} {σ : List (Nat × Nat)} {h : Nat → Option Cont}
theorem resVs_ok (EO : EnvOk P C gl E) (I : Inv E C gl W0 R0 own0 ρ0 s a W R ρ) : ∀ {rv : List ResultVar} {vs : List SVal}, resVs E s rv = some vs → ∃ us : List Value, (rv.mapM (m := Sem) fun
  | .tmp t => pure (a.tmps.getD t undef)
  | .cell x t => do loadVar t (← asAddr (a.tmps.getD x undef))).run P W = .ok us W ∧ DenA C W R ρ vs us := by
 intro rv
 induction rv with
 | nil => intro vs h; simp only [resVs, Option.some.injEq] at h; subst h; exact ⟨[], rfl, .nil⟩
 | cons r rv ih =>
  intro vs h
  simp only [resVs] at h
  split at h
  ·rename_i v vs' h1 h2
   cases h
   obtain ⟨us, h3, h4⟩ := ih h2
   cases r with
   | cell x t =>
    simp only [resV] at h1
    split at h1
    ·rename_i r ti hx ht
     split at h1
     ·rename_i l hl
      split at h1
      ·rename_i w l' hw
       cases h1
       have hd := I.slots x
       rw [hx] at hd
       simp only [Option.getD_some] at hd
       generalize hu : a.tmps.getD x undef = u at hd
       cases hd with
       | ptr _ _ b hv =>
        obtain ⟨v', hv', b', cs, T, e, hb, hc⟩ := I.mem.at_ r _ hl
        rw [hv] at hv'; cases hv'; cases e
        obtain ⟨y, y1, y2⟩ := load_ok (EO.tab _ _ ht) hc (cells_at hb) hw
        refine ⟨y :: us, ?_, .cons _ _ _ _ y2 h4⟩
        have ha : (asAddr (.pointer (some ⟨b, 0, none⟩))).run P W = .ok ⟨b, 0, none⟩ W := rfl
        simp only [List.mapM_cons, Sem.run_bind, Sem.run_pure, Result.andThen_ok, h3, hu, ha, y1]
      ·cases h1
     ·cases h1
    ·cases h1
   | tmp t =>
    simp only [resV, Option.some.injEq] at h1
    subst h1
    refine ⟨_ :: us, ?_, .cons _ _ _ _ (I.slots t) h4⟩
    simp only [List.mapM_cons, Sem.run_bind, Sem.run_pure, Result.andThen_ok, h3]
  ·cases h
theorem results_ok (EO : EnvOk P C gl E) (I : Inv E C gl W0 R0 own0 ρ0 s a W R ρ) {fn : Func} {vs : List SVal} (hr : resVs E s fn.results.toList = some vs) : ∃ v, (results fn a.tmps).run P W = .ok v W ∧ Den C W R ρ (oneOf vs) v := by
 obtain ⟨us, h1, h2⟩ := resVs_ok EO I hr
 have e : (results fn a.tmps).run P W = .ok (if h : us.toArray.size = 1 then us.toArray[0] else .tuple us.toArray) W := by
  unfold results
  rw [Array.mapM_eq_mapM_toList]
  have hm : ∀ {α β : Type} (f : α → β) (x : Sem α) (y : α), x.run P W = .ok y W → (f <$> x).run P W = .ok (f y) W := fun f x y hx => by
   rw [← bind_pure_comp]; simp only [Sem.run_bind, hx, Result.andThen_ok, Sem.run_pure]
  rw [Sem.run_bind]
  refine (congrArg (fun r => Result.andThen r _) (hm List.toArray _ us ?_)).trans rfl
  refine Eq.trans ?_ h1
  congr 1
 refine ⟨_, e, ?_⟩
 unfold oneOf
 cases h2 with
 | nil => exact .tuple _ _ .nil
 | cons s v l us d1 d2 =>
  cases d2 with
  | nil => simpa using d1
  | cons s' v' l us d3 d4 =>
   have : ¬ (v :: v' :: us).toArray.size = 1 := by simp
   rw [dif_neg this]
   exact .tuple _ _ (.cons _ _ _ _ d1 (.cons _ _ _ _ d3 d4))
theorem find_pick {f : Nat → Option Cont} {l : List Nat} {n : Nat} {c : Cont} (h : lookS (l.map fun r => (r, f r)) n = some c) : f n = some c := by
 unfold lookS at h
 induction l with
 | nil => cases h
 | cons m l ih =>
  simp only [List.map_cons, find] at h
  cases hb : m.beq n with
  | true => rw [hb] at h; have := Nat.eq_of_beq_eq_true hb; subst this; exact h
  | false => rw [hb] at h; exact ih h
theorem ends_ok (EO : EnvOk P C gl E) (I : Inv E C gl W0 R0 own0 ρ0 s a W R ρ) {fn : Func} {e : Exi} {Q : Exi → SState → Prop} (h : (ends E fn.results.toList e s).sat Q) :
  (e = .normal ∨ e = .ret) ∧ ∃ v s', (results fn a.tmps).run P W = .ok v W ∧ Q .ret s' ∧ Inv E C gl W0 R0 own0 ρ0 s' ⟨#[v], E.df⟩ W R ρ := by
 have key : (match resVs E s fn.results.toList with
   | some vs => Tr.leaf .ret { fr := [(0, oneOf vs)], hp := (reach s.hp deep (E.old ++ names deep (oneOf vs)) []).map fun r => (r, lookS s.hp r), next := s.next, sz := 1 }
   | none => .fail "results").sat Q → ∃ v s', (results fn a.tmps).run P W = .ok v W ∧ Q .ret s' ∧ Inv E C gl W0 R0 own0 ρ0 s' ⟨#[v], E.df⟩ W R ρ := fun h => by
  split at h
  ·rename_i vs hvs
   obtain ⟨v, h1, h2⟩ := results_ok EO I hvs
   have hw : ∀ n c, lookS ((reach s.hp deep (E.old ++ names deep (oneOf vs)) []).map fun r => (r, lookS s.hp r)) n = some c → lookS s.hp n = some c := fun n c hc => find_pick hc
   refine ⟨v, _, h1, h, ⟨fun d => ?_, I.mem.weaken hw, rfl, I.bt.weaken (ownOf.weaken hw), I.above, rfl, I.pins⟩⟩
   cases d with
   | zero => exact h2
   | succ d => exact .any _
  ·exact h.elim
 cases e with
 | normal => exact ⟨.inl rfl, key h⟩
 | ret => exact ⟨.inr rfl, key h⟩
 | exit id => exact h.elim
theorem call_run (EO : EnvOk P C gl E) (hdf : E.df = []) (hown : HownOk E own0 ρ0) {f : Nat} {fn : Func} {c : Code} (hf : P.funcs[f]? = some fn) (hb : fn.body = some c)
  {ls : List (Nat × LSum)} (HL : ∀ b ∈ loopsOf c, ∀ L, find (headId b) ls = some L → LOk P E C gl W0 R0 own0 ρ0 b L) {vs : List Value}
  (I : Inv E C gl W0 R0 own0 ρ0 s ⟨vs.toArray ++ Array.replicate (fn.ntmps - vs.toArray.size) undef, []⟩ W R ρ) {Q : Exi → SState → Prop} (h : (run E ls c s (ends E fn.results.toList)).sat Q)
  {Z : Ending → World → Prop} (hZ : ∀ s' v W R ρ, Q .ret s' → Inv E C gl W0 R0 own0 ρ0 s' ⟨#[v], E.df⟩ W R ρ → Z (.returned v) W) : Calls P f vs.toArray W Z := by
 refine calls_of_wp hf hb (run_sound EO hown c HL s _ _ _ W R ρ I h fun e s' a' W' R' ρ' J hs => ?_)
 obtain ⟨he, v, s'', h1, h2, h3⟩ := ends_ok EO J hs
 rcases he with rfl | rfl
 ·exact ⟨J.defers.trans hdf, v, h1, hZ _ _ _ _ _ h2 h3⟩
 ·exact ⟨J.defers.trans hdf, v, h1, hZ _ _ _ _ _ h2 h3⟩
end
end Go.Sy

set_option linter.unusedVariables false
set_option linter.unusedSimpArgs false
namespace Go.Sy
open Go.RowKit
section
variable {P : Program} {C : Ctx} {gl : List (Nat × SVal)} {E : Env} {W W' : World} {R R' : Nat → Prop} {ρ ρ' : Nat → Option Value} {σ : List (Nat × Nat)} {h : Nat → Option Cont}
abbrev none' : Nat → Option Cont := fun _ => none
theorem Mem.blank (M : Mem C gl W R ρ h) : Mem C gl W R ρ none' := M.weaken fun _ _ h => by cases h
theorem RF_blank : ∀ b, RF σ none' ρ R b → R b := fun b hb => by
 rcases hb with hb | ⟨_, _, _, _, hc, _⟩
 ·exact hb
 ·cases hc
theorem Den.ren (M : Mem C gl W R ρ h) {s t : SVal} {v : Value} {n : Nat} (hd : Den C W R ρ s v) (hp : ∀ p ∈ sub C.tAt none' σ n s t, p) : Den C W R (ρσ σ ρ) t v :=
 ((sub_ok M.blank n).1 _ _ _ hd hp).mono RF_blank (fun _ _ => rfl) fun _ _ h => h
theorem DenA.ren (M : Mem C gl W R ρ h) {l l' : List SVal} {vs : List Value} {n : Nat} (hd : DenA C W R ρ l vs) (hp : ∀ p ∈ subL C.tAt none' σ n l l', p) : DenA C W R (ρσ σ ρ) l' vs :=
 ((sub_ok M.blank n).2.2 _ _ _ hd hp).mono RF_blank (fun _ _ => rfl) fun _ _ h => h
theorem HoldC.ren (M : Mem C gl W R ρ h) {c c' : Cont} {v : Value} (hc : HoldC C W R ρ v c) (hp : ∀ p ∈ subC C.tAt none' σ (some c) (some c'), p) : HoldC C W R (ρσ σ ρ) v c' := by
 have M0 := M.blank
 have hb := RF_blank (σ := σ) (ρ := ρ) (R := R)
 unfold subC at hp
 split at hp
 ·rename_i h; cases h
 ·rename_i l l' h1 h2; cases h1; cases h2
  obtain ⟨b, vs, T, rfl, hh, hl⟩ := hc
  exact ⟨b, vs, T, rfl, hh, ((sub_ok M0 deep).2.1 _ _ _ hl hp).mono hb (fun _ _ => rfl) fun _ _ h => h⟩
 ·rename_i t l t' l' h1 h2; cases h1; cases h2
  split at hp
  ·rename_i e heq
   subst e
   have e := hd1 hp
   simp only at e
   subst e
   obtain ⟨e, vs, ho, hl⟩ := hc
   exact ⟨e, vs, ho, hl.free (fun _ h => h) (flat_plain t l)⟩
  ·exact no hp
 ·rename_i w l w' l' h1 h2; cases h1; cases h2
  split at hp
  ·rename_i hbq
   have := Nat.eq_of_beq_eq_true hbq; subst this
   obtain ⟨e, vs, n, ho, hl, h0⟩ := hc
   exact ⟨e, vs, n, ho, ((sub_ok M0 deep).2.1 _ _ _ hl hp).mono hb (fun _ _ => rfl) (fun _ _ h => h), h0⟩
  ·exact no hp
 ·rename_i m m' h1 h2; cases h1; cases h2
  have := hd1 hp; subst this; exact hc
 ·rename_i m m' h1 h2; cases h1; cases h2
  have := hd1 hp; subst this; exact hc
 ·rename_i k t m k' t' m' h1 h2; cases h1; cases h2
  split at hp
  ·rename_i e1 e2 _ _
   subst e1; subst e2
   have := hd1 hp
   unfold castM at this
   simp only [Option.some.injEq] at this
   subst this
   obtain ⟨b, es, cl, rfl, hh, hk, hx⟩ := hc
   exact ⟨b, es, cl, rfl, hh, hk, hx.free (fun _ h => h) (recVs_plain t m)⟩
  ·exact no hp
 ·rename_i k t l i x k' t' l' h1 h2; cases h1; cases h2
  split at hp
  ·rename_i q e1 e2 _ _
   split at hp
   ·rename_i hh
    cases hh
   ·exact no hp
  ·exact no hp
 ·rename_i k t l i x k' t' l' i' x' h1 h2; cases h1; cases h2
  split at hp
  ·rename_i e1 e2 _ _
   subst e1; subst e2
   have h0 := hp _ (List.mem_append_left _ (List.mem_cons_self ..))
   have h1 := hp _ (List.mem_append_left _ (List.mem_cons_of_mem _ (List.mem_cons_self ..)))
   have h2 := fun p hm => hp p (List.mem_append_right _ hm)
   unfold castL at h0
   simp only at h0
   subst h0; subst h1
   split at h2
   ·obtain ⟨e, vs, ho, hd, hi, _⟩ := hc
    exact ⟨e, vs, ho, DenL.set_free (fun _ h => h) rfl rfl (fun u hu => Den.ren M hu h2) (rom_plain _ _ l) hd, hi, rfl⟩
   ·exact no h2
  ·exact no hp
 ·exact no hp
def numb : Nat → List SVal → List (Nat × SVal)
 | _, [] => []
 | n, v :: l => (n, v) :: numb (n + 1) l
theorem numb_find : ∀ {l : List SVal} {n d : Nat} {v : SVal}, find d (numb n l) = some v → n ≤ d ∧ l[d - n]? = some v := by
 intro l
 induction l with
 | nil => intro n d v h; cases h
 | cons x l ih =>
  intro n d v h
  simp only [numb, find] at h
  split at h
  ·rename_i hb
   have := Nat.eq_of_beq_eq_true hb; subst this
   cases h; simp
  ·have := ih h
   refine ⟨by omega, ?_⟩
   rw [show d - n = (d - (n + 1)) + 1 by omega]
   exact this.2
structure FitsS (C : Ctx) (gl : List (Nat × SVal)) (old : List Nat) (ρ ρ0 : Nat → Option Value) (τ : List (Nat × Nat)) (t : SState) (r : ORes) (next : Nat) : Prop where
 v : ∀ W R ρ2 ρ3 u, Mem C gl W R ρ2 (lookS t.hp) → (∀ n, t.next ≤ n → ρ2 n = none) → (∀ n q, find n τ = some q → ρ3 n = ρ2 q) → (∀ q ∈ old, ∀ v, ρ0 q = some v → ρ2 q = some v) → (∀ n v, ρ n = some v → ρ3 n = some v) → Den C W R ρ2 ((find 0 t.fr).getD .any) u → Den C W R ρ3 r.v u
 ws : ∀ n c, find n r.ws = some c → c = none ∨ ∃ q c0 c', find n τ = some q ∧ c = some c' ∧ lookS t.hp q = some c0 ∧
  ∀ W R ρ2 ρ3 u, Mem C gl W R ρ2 (lookS t.hp) → (∀ n, t.next ≤ n → ρ2 n = none) → (∀ n q, find n τ = some q → ρ3 n = ρ2 q) → (∀ q ∈ old, ∀ v, ρ0 q = some v → ρ2 q = some v) → (∀ n v, ρ n = some v → ρ3 n = some v) → HoldC C W R ρ2 u c0 → HoldC C W R ρ3 u c'
 keys : ∀ n q, find n τ = some q → (q ∈ old ∧ ρ0 q = ρ n ∧ ρ n ≠ none) ∨ (n ∈ keys r.ws ∧ next ≤ n ∧ n < next + r.k)
 inj : nodupB (sndN τ) = true
theorem mem_find {α : Type} {n : Nat} {l : List (Nat × α)} (hm : n ∈ keys l) : ∃ c, find n l = some c := by
 induction l with
 | nil => cases hm
 | cons p l ih =>
  obtain ⟨m, x⟩ := p
  simp only [find]
  cases hb : m.beq n with
  | true => exact ⟨x, rfl⟩
  | false =>
   rcases List.mem_cons.1 hm with rfl | hm
   ·rw [Nat.beq_refl] at hb; cases hb
   ·exact ih hm
theorem DenA.lenA {args : List SVal} {vs : List Value} (h : DenA C W R ρ args vs) : vs.length = args.length := by
 induction args generalizing vs with
 | nil => cases h; rfl
 | cons s l ih => cases h with | cons _ v _ us h1 h2 => simp [ih h2]
structure Enters (C : Ctx) (gl : List (Nat × SVal)) (W : World) (R : Nat → Prop) (ρ : Nat → Option Value) (h : Nat → Option Cont) (r : ORes) (R1 own0 : Nat → Prop) (ρ0 : Nat → Option Value) (hp0 : List (Nat × Option Cont)) (n0 : Nat) (args' : List SVal) (vs : List Value) : Prop where
 args : DenA C W R1 ρ0 args' vs
 mem : Mem C gl W R1 ρ0 (lookS hp0)
 above : ∀ n, n0 ≤ n → ρ0 n = none
 Rm : ∀ b, R b → R1 b
 Rn : ∀ b, R1 b → R b ∨ own0 b
 owned : ∀ b, ownOf ρ0 (lookS hp0) b → own0 b
 own : ∀ b, own0 b → ∃ n c v, n ∈ keys r.ws ∧ h n = some c ∧ ρ n = some v ∧ blk v = some b
theorem con_core0 (EO : EnvOk P C gl E) (hdf : E.df = []) {f n : Nat}
  (M : Mem C gl W R ρ h) {args' : List SVal} {vs : List Value} {next : Nat} {r : ORes} (hn : ∀ j, j < r.k → ρ (next + j) = none)
  {R1 own0 : Nat → Prop} {ρ0 : Nat → Option Value} {hp0 : List (Nat × Option Cont)} {n0 : Nat} (S : Enters C gl W R ρ h r R1 own0 ρ0 hp0 n0 args' vs) (hlen : Nat.ble args'.length n = true)
  (hcall : Inv E C gl W R own0 ρ0 { fr := numb 0 args', hp := hp0, next := n0, sz := n } ⟨vs.toArray ++ Array.replicate (n - vs.toArray.size) undef, []⟩ W R1 ρ0 → ∀ (Z : Ending → World → Prop),
   (∀ s v W' R1 ρ1, (∃ t σ τ, all (subSt E σ s t) ∧ FitsS C gl E.old ρ ρ0 τ t r next) → Inv E C gl W R own0 ρ0 s ⟨#[v], E.df⟩ W' R1 ρ1 → Z (.returned v) W') → Calls P f vs.toArray W Z) :
  Calls P f vs.toArray W fun e W' => ∃ v R' ρ', e = .returned v ∧ Trans C gl W R ρ h r.ws W' R' ρ' ∧ Den C W' R' ρ' r.v v := by
 have hlen := Nat.le_of_ble_eq_true hlen
 have hsz : vs.toArray.size = args'.length := by simpa using S.args.lenA
 have I : Inv E C gl W R own0 ρ0 { fr := numb 0 args', hp := hp0, next := n0, sz := n } ⟨vs.toArray ++ Array.replicate (n - vs.toArray.size) undef, []⟩ W R1 ρ0 := by
  refine ⟨fun d => ?_, S.mem, ?_, ⟨rfl, rfl, rfl, Nat.le_refl _, S.Rm, fun b hb => (S.Rn b hb).imp id .inr, fun _ _ _ => rfl, fun b hb => .inl (S.owned b hb)⟩, S.above, hdf.symm, fun _ _ _ h => h⟩
  ·cases hf : find d (numb 0 args') with
   | none => exact .any _
   | some s =>
    obtain ⟨_, hs⟩ := numb_find hf
    obtain ⟨v, hv, hd⟩ := S.args.get (by simpa using hs)
    have : (vs.toArray ++ Array.replicate (n - vs.toArray.size) undef).getD d undef = v := by
     have hlt : d < vs.length := (List.getElem?_eq_some_iff.1 hv).1
     rw [Array.getD_eq_getD_getElem?, Array.getElem?_append_left (by simpa using hlt)]
     simp [hv]
    rw [this]; exact hd
  ·show (vs.toArray ++ Array.replicate (n - vs.toArray.size) undef).size = n
   rw [Array.size_append, Array.size_replicate, hsz]; omega
 refine hcall I _ fun s' v W' R1 ρ1 hQ J => ?_
 obtain ⟨t, σ, τ, hsub, F⟩ := hQ
 obtain ⟨R2, ρ2, J⟩ := J.sub EO trivial hsub
 have M2 := J.mem
 -- a block of the caller's that the callee could touch is one that is handed over
 have hframe : ∀ {n c u b}, h n = some c → ρ n = some u → blk u = some b → own0 b → n ∈ keys r.ws := fun {n c u b} k1 k2 k3 ho => by
  obtain ⟨n', c', u', h1, h3, h4, h5⟩ := S.own b ho
  have := M.apart n n' c c' u u' b k1 h3 k2 h4 k3 h5
  subst this
  exact h1
 have hkeepR : ∀ b, R b → W'.heap[b]? = W.heap[b]? := fun b hb => J.bt.keep b (M.base.inR b hb) fun ho => by
  obtain ⟨n', c', u', h1, h3, h4, h5⟩ := S.own b ho
  exact M.off n' c' u' b h3 h4 h5 hb
 let ρ3 : Nat → Option Value := fun n => match find n τ with
  | some q => ρ2 q
  | none => ρ n
 have e3 : ∀ {n q}, find n τ = some q → ρ3 n = ρ2 q := fun {n q} hq => by show (match find n τ with | some q => ρ2 q | none => ρ n) = _; rw [hq]
 have e3' : ∀ {n}, find n τ = none → ρ3 n = ρ n := fun {n} hq => by show (match find n τ with | some q => ρ2 q | none => ρ n) = _; rw [hq]
 have hm : ∀ n v, ρ n = some v → ρ3 n = some v := fun n v hv => by
  cases hq : find n τ with
  | none => rw [e3' hq]; exact hv
  | some q =>
   rcases F.keys n q hq with ⟨ho, hs, _⟩ | ⟨_, h1, h2⟩
   ·rw [e3 hq]; exact J.pins q ho v (by rw [hs]; exact hv)
   ·have := hn (n - next) (by omega)
    rw [show next + (n - next) = n by omega, hv] at this; cases this
 have hDen : Den C W' R2 ρ3 r.v v := F.v _ _ _ ρ3 _ M2 J.above (fun n q hq => e3 hq) J.pins hm (J.slots 0)
 have stay : ∀ {n c u}, h n = some c → ρ3 n = some u → ρ n = some u := fun {n c u} hc hu => by
  obtain ⟨v, hv, _⟩ := M.at_ n c hc
  rw [hm n v hv] at hu; cases hu; exact hv
 have split : ∀ {n c}, upd h r.ws n = some c → (∃ q c0 v, find n τ = some q ∧ lookS t.hp q = some c0 ∧ ρ2 q = some v ∧ ρ3 n = some v ∧ HoldC C W' R2 ρ3 v c) ∨ (find n r.ws = none ∧ h n = some c) := fun {n c} hu => by
  unfold upd at hu
  cases hf : find n r.ws with
  | some c0 =>
   rw [hf] at hu; simp only at hu; subst hu
   rcases F.ws n _ hf with hc | ⟨q, c0, c', h1, h2, h3, h4⟩
   ·cases hc
   ·cases h2
    obtain ⟨v, hv, hh⟩ := M2.at_ q c0 h3
    exact .inl ⟨q, c0, v, h1, h3, hv, by rw [e3 h1]; exact hv, h4 _ _ _ ρ3 _ M2 J.above (fun n q hq => e3 hq) J.pins hm hh⟩
  | none =>
   rw [hf] at hu
   exact .inr ⟨rfl, hu⟩
 refine ⟨v, R2, ρ3, rfl, ⟨⟨M2.base, fun n c hu => ?_, fun n n' c c' u u' b k1 k2 k3 k4 k5 k6 => ?_, fun n c u b k1 k2 k3 k4 => ?_⟩, J.bt.os, J.bt.tape, J.bt.output, J.bt.size, J.bt.Rm, fun b hb => ?_, hm, fun n u hu => ?_, fun k hk hx => ?_, fun n c u b k1 k2 k3 => ?_⟩, hDen⟩
 ·rcases split hu with ⟨q, c0, v, h1, h2, h3, h4, h5⟩ | ⟨h1, h3⟩
  ·exact ⟨v, h4, h5⟩
  ·obtain ⟨v, hv, hh⟩ := M.at_ n c h3
   refine ⟨v, hm _ _ hv, hh.mono J.bt.Rm hkeepR hm fun b hb => J.bt.keep b (hh.lt hb) fun ho => ?_⟩
   exact find_none h1 (hframe h3 hv hb ho)
 ·have one : ∀ {n n' c' u u' b q c0}, find n τ = some q → lookS t.hp q = some c0 → ρ2 q = some u → ρ3 n = some u → blk u = some b → find n' r.ws = none → h n' = some c' → ρ3 n' = some u' → blk u' = some b → False := fun {n n' c' u u' b q c0} g1 g2 g3 g4 g5 g6 g7 g8 g9 => by
   replace g8 := stay g7 g8
   rcases J.bt.owned b ⟨q, c0, u, g2, g3, g5⟩ with ho | ho
   ·exact find_none g6 (hframe g7 g8 g9 ho)
   ·obtain ⟨v', hv', hh⟩ := M.at_ n' c' g7
    rw [g8] at hv'; cases hv'
    have := hh.lt g9; omega
  rcases split k1 with ⟨q, c0, v, h1, h2, h3, h4, h5⟩ | ⟨h1, h3⟩ <;> rcases split k2 with ⟨q', c0', v', h1', h2', h3', h4', h5'⟩ | ⟨h1', h3'⟩
  ·rw [h4] at k3; cases k3
   rw [h4'] at k4; cases k4
   have := M2.apart q q' c0 c0' u u' b h2 h2' h3 h3' k5 k6
   subst this
   exact nodup_inj F.inj (find_mem h1) (find_mem h1')
  ·rw [h4] at k3; cases k3
   exact (one h1 h2 h3 h4 k5 h1' h3' k4 k6).elim
  ·rw [h4'] at k4; cases k4
   exact (one h1' h2' h3' h4' k6 h1 h3 k3 k5).elim
  ·exact M.apart n n' c c' u u' b h3 h3' (stay h3 k3) (stay h3' k4) k5 k6
 ·rcases split k1 with ⟨q, c0, v, h1, h2, h3, h4, h5⟩ | ⟨h1, h3⟩
  ·rw [h4] at k2; cases k2
   exact M2.off q c0 u b h2 h3 k3 k4
  ·replace k2 := stay h3 k2
   rcases J.bt.Rn b k4 with hb | hb | hb
   ·exact M.off n c u b h3 k2 k3 hb
   ·obtain ⟨v', hv', hh⟩ := M.at_ n c h3
    rw [k2] at hv'; cases hv'
    have := hh.lt k3; omega
   ·exact find_none h1 (hframe h3 k2 k3 hb)
 ·exact (J.bt.Rn b hb).imp id fun g => g.imp id fun g => S.own b g
 ·cases hq : find n τ with
  | none => rw [e3' hq] at hu; exact .inl hu
  | some q =>
   rw [e3 hq] at hu
   rcases F.keys n q hq with ⟨ho, hs, hne⟩ | ⟨g1, h1, h2⟩
   ·cases hρ : ρ n with
    | none => exact (hne hρ).elim
    | some w =>
     have := J.pins q ho w (by rw [hs]; exact hρ)
     rw [hu] at this; cases this
     exact .inl rfl
   ·have := hn (n - next) (by omega)
    rw [show next + (n - next) = n by omega] at this
    exact .inr ⟨this, g1⟩
 ·refine J.bt.keep k hk fun ho => ?_
  obtain ⟨n', c', u', h1, h3, h4, h5⟩ := S.own k ho
  exact hx n' c' u' h1 h3 h4 h5
 ·rcases split k1 with ⟨q, c0, v, h1, h2, h3, h4, h5⟩ | ⟨h1, h3⟩
  ·rw [h4] at k2; cases k2
   rcases J.bt.owned b ⟨q, c0, u, h2, h3, k3⟩ with ho | ho
   ·obtain ⟨n', c', u', g1, g3, g4, g5⟩ := S.own b ho
    exact .inl ⟨n', c', u', .inr g1, g3, g4, g5⟩
   ·exact .inr ho
  ·exact .inl ⟨n, c, u, .inl rfl, h3, stay h3 k2, k3⟩
theorem con_core (EO : EnvOk P C gl E) (hdf : E.df = []) {f : Nat} {fn : Func} {c : Code} (hf : P.funcs[f]? = some fn) (hb : fn.body = some c) {ls : List (Nat × LSum)}
  (M : Mem C gl W R ρ h) {args' : List SVal} {vs : List Value} {next : Nat} {r : ORes} (hn : ∀ j, j < r.k → ρ (next + j) = none)
  {R1 own0 : Nat → Prop} {ρ0 : Nat → Option Value} {hp0 : List (Nat × Option Cont)} {n0 : Nat} (S : Enters C gl W R ρ h r R1 own0 ρ0 hp0 n0 args' vs) (hlen : Nat.ble args'.length fn.ntmps = true)
  (HL : ∀ W R ρ0 own0, HownOk E own0 ρ0 → ∀ b ∈ loopsOf c, ∀ L, find (headId b) ls = some L → LOk P E C gl W R own0 ρ0 b L)
  (hrun0 : ∀ {a : Act}, Inv E C gl W R own0 ρ0 { fr := numb 0 args', hp := hp0, next := n0, sz := fn.ntmps } a W R1 ρ0 → ∃ s1 R2 ρ2, Inv E C gl W R own0 ρ0 s1 a W R2 ρ2 ∧ (run E ls c s1 (ends E fn.results.toList)).sat fun _ s => ∃ t σ τ, all (subSt E σ s t) ∧ FitsS C gl E.old ρ ρ0 τ t r next) :
  Calls P f vs.toArray W fun e W' => ∃ v R' ρ', e = .returned v ∧ Trans C gl W R ρ h r.ws W' R' ρ' ∧ Den C W' R' ρ' r.v v :=
 con_core0 EO hdf M hn S hlen fun I Z hZ => by
  obtain ⟨s1, R2, ρ2, I2, hrun⟩ := hrun0 I
  exact call_run EO hdf trivial hf hb (HL _ _ _ _ trivial) I2 hrun hZ
theorem con_run (EO : EnvOk P C gl E) (hdf : E.df = []) {f : Nat} {fn : Func} {c : Code} (hf : P.funcs[f]? = some fn) (hb : fn.body = some c) {ls : List (Nat × LSum)}
  (M : Mem C gl W R ρ h) {args' : List SVal} {vs : List Value} {next : Nat} {r : ORes} (hn : ∀ j, j < r.k → ρ (next + j) = none)
  {R1 own0 : Nat → Prop} {ρ0 : Nat → Option Value} {hp0 : List (Nat × Option Cont)} {n0 : Nat} (S : Enters C gl W R ρ h r R1 own0 ρ0 hp0 n0 args' vs) (hlen : Nat.ble args'.length fn.ntmps = true)
  (HL : ∀ W R ρ0 own0, HownOk E own0 ρ0 → ∀ b ∈ loopsOf c, ∀ L, find (headId b) ls = some L → LOk P E C gl W R own0 ρ0 b L)
  (hrun : (run E ls c { fr := numb 0 args', hp := hp0, next := n0, sz := fn.ntmps } (ends E fn.results.toList)).sat fun _ s => ∃ t σ τ, all (subSt E σ s t) ∧ FitsS C gl E.old ρ ρ0 τ t r next) :
  Calls P f vs.toArray W fun e W' => ∃ v R' ρ', e = .returned v ∧ Trans C gl W R ρ h r.ws W' R' ρ' ∧ Den C W' R' ρ' r.v v :=
 con_core EO hdf hf hb M hn S hlen HL fun I => ⟨_, _, _, I, hrun⟩
theorem Enters.bare (M : Mem C gl W R ρ h) {r : ORes} {args args' : List SVal} {vs : List Value} (hA : DenA C W R ρ args vs) (hargs : ∀ p ∈ subL C.tAt none' [] deep args args', p) :
  Enters C gl W R ρ h r R (fun _ => False) (fun _ => none) [] 0 args' vs where
 args := (hA.ren M hargs).mono (fun _ h => h) (fun _ _ => rfl) fun r v hv => by cases hv
 mem := ⟨M.base, (fun r c hc => by cases hc), (fun r r' c c' v v' b h1 => by cases h1), (fun r c v b h1 => by cases h1)⟩
 above _ _ := rfl
 Rm _ h := h
 Rn _ h := .inl h
 owned b hb := by obtain ⟨r, c, v, h1, _⟩ := hb; cases h1
 own b hb := hb.elim
theorem Enters.last (M : Mem C gl W R ρ h) {r : ORes} {t : RT} {x : List t.ty} {l l' : List SVal} {vs : List Value} (hA : DenA C W R ρ (l ++ [.ro t x]) vs) (hp : ∀ p ∈ subL C.tAt none' [] deep l l', p) :
  Enters C gl W R ρ h r R (fun _ => False) (fun _ => none) [] 0 (l' ++ [.ro t x]) vs := by
 have main : ∀ {n : Nat} {l l' : List SVal} {vs : List Value}, DenA C W R ρ (l ++ [.ro t x]) vs → (∀ p ∈ subL C.tAt none' [] n l l', p) → DenA C W R (fun _ => none) (l' ++ [.ro t x]) vs := by
  intro n l
  induction l generalizing n with
  | nil =>
   intro l' vs hA hp
   cases l' with
   | nil =>
    cases hA with
    | cons _ v _ us h1 h2 =>
     cases h2
     refine .cons _ _ _ _ ?_ .nil
     cases h1 with
     | ro _ _ A cap vs h1 h2 h3 h4 h5 => exact .ro _ _ A cap vs h1 h2 (h3.free (fun _ h => h) (flat_plain t x)) h4 h5
   | cons b l' => cases n <;> (unfold subL at hp; exact no hp)
  | cons a l ih =>
   intro l' vs hA hp
   cases l' with
   | nil => cases n <;> (unfold subL at hp; exact no hp)
   | cons b l' =>
    cases n with
    | zero => unfold subL at hp; exact no hp
    | succ n =>
     unfold subL at hp
     split at hp
     ·cases hA with
      | cons _ v _ us h1 h2 =>
       refine .cons _ _ _ _ ?_ (ih h2 fun p hm => hp p (List.mem_append_right _ hm))
       exact (h1.ren M fun p hm => hp p (List.mem_append_left _ hm)).mono (fun _ h => h) (fun _ _ => rfl) fun r v hv => by cases hv
     ·exact no hp
 exact ⟨main hA hp, ⟨M.base, (fun r c hc => by cases hc), (fun r r' c c' v v' b h1 => by cases h1), (fun r c v b h1 => by cases h1)⟩, fun _ _ => rfl, fun _ h => h, fun _ h => .inl h, (fun b hb => by obtain ⟨r, c, v, h1, _⟩ := hb; cases h1), fun b hb => hb.elim⟩
theorem Enters.frozen (M : Mem C gl W R ρ h) {r : ORes} {q : Nat} {t : RT} {x : List t.ty} (hq : h q = some (.recs t x)) (hk : q ∈ keys r.ws) : ∀ {l l' : List SVal} {vs : List Value}, DenA C W R ρ (l ++ [.own q]) vs → (∀ p ∈ subL C.tAt none' [] deep l l', p) →
  ∃ R1 own0, Enters C gl W R ρ h r R1 own0 (fun _ => none) [] 0 (l' ++ [.ro t x]) vs := by
 intro l l' vs hA hp
 obtain ⟨v0, hv0, hh0⟩ := M.at_ q _ hq
 have main : ∀ {n : Nat} {l l' : List SVal} {vs : List Value}, DenA C W R ρ (l ++ [.own q]) vs → (∀ p ∈ subL C.tAt none' [] n l l', p) → DenA C W (fun b => R b ∨ blk v0 = some b) (fun _ => none) (l' ++ [.ro t x]) vs := by
  intro n l
  induction l generalizing n with
  | nil =>
   intro l' vs hA hp
   cases l' with
   | nil =>
    cases hA with
    | cons _ v _ us h1 h2 =>
     cases h2
     refine .cons _ _ _ _ ?_ .nil
     cases h1 with
     | own _ A m cap hv =>
      obtain ⟨rfl, g1, g2, vs, g3, g4, g5⟩ := frozen_row (σ := []) M rfl hq hv
      rw [hv0] at hv; cases hv
      refine .ro _ _ A cap vs g1 g2 (g3.free (fun _ h => .inl h) (flat_plain t x)) (fun hl => ?_) g5
      obtain ⟨b, e1, _, e3⟩ := g4 hl
      exact ⟨b, 0, e1, .inr (by rw [e1]; rfl), e3⟩
   | cons b l' => cases n <;> (unfold subL at hp; exact no hp)
  | cons a l ih =>
   intro l' vs hA hp
   cases l' with
   | nil => cases n <;> (unfold subL at hp; exact no hp)
   | cons b l' =>
    cases n with
    | zero => unfold subL at hp; exact no hp
    | succ n =>
     unfold subL at hp
     split at hp
     ·cases hA with
      | cons _ v _ us h1 h2 =>
       refine .cons _ _ _ _ ?_ (ih h2 fun p hm => hp p (List.mem_append_right _ hm))
       exact (h1.ren M fun p hm => hp p (List.mem_append_left _ hm)).mono (fun _ h => .inl h) (fun _ _ => rfl) fun r v hv => by cases hv
     ·exact no hp
 refine ⟨_, fun b => blk v0 = some b, main hA hp, ⟨M.base.mono (fun _ h => .inl h) (fun b hb => hb.elim (M.base.inR b) fun hb => hh0.lt hb) fun _ _ => rfl, fun r c hc => (by cases hc), fun r r' c c' v v' b h1 => (by cases h1), fun r c v b h1 => (by cases h1)⟩, fun _ _ => rfl, fun _ h => .inl h, fun _ h => h, fun b hb => ?_, fun b hb => ⟨q, _, v0, hk, hq, hv0, hb⟩⟩
 obtain ⟨r, c, v, h1, _⟩ := hb; cases h1
theorem sat_mono {Q Q' : Exi → SState → Prop} (hq : ∀ e s, Q e s → Q' e s) : ∀ {t : Tr}, t.sat Q → t.sat Q' := by
 intro t
 induction t with
 | leaf e s => intro hs; exact hq _ _ hs
 | ite b t f iht ihf => intro hs; exact ⟨fun hb => iht (hs.1 hb), fun hb => ihf (hs.2 hb)⟩
 | req p t ih => intro hs; exact ⟨hs.1, fun hp => ih (hs.2 hp)⟩
 | prop p => intro hs; exact hs
 | both t u iht ihu => intro hs; exact ⟨iht hs.1, ihu hs.2⟩
 | fail w => intro hs; exact hs.elim
theorem noks {ws : List (Nat × Option Cont)} (h : ∀ p ∈ ws, p.2 = none) : ∀ n c, find n ws = some c → c = none := fun n c hc => h _ (find_mem hc)
theorem con_plain (EO : EnvOk P C gl E) (hdf : E.df = []) {f : Nat} {fn : Func} {c : Code} (hf : P.funcs[f]? = some fn) (hb : fn.body = some c) {ls : List (Nat × LSum)} {n : Nat}
  (M : Mem C gl W R ρ h) {args' : List SVal} {vs : List Value} {r : ORes} {rv : SVal} {R1 own0 : Nat → Prop} (S : Enters C gl W R ρ h r R1 own0 (fun _ => none) [] 0 args' vs) (hr : r.v = rv ∧ (∀ p ∈ r.ws, p.2 = none) ∧ r.k = 0) (hold : E.old = []) (hnt : fn.ntmps = n)
  (hlen : Nat.ble args'.length n = true)
  (HL : ∀ W R ρ0 own0, HownOk E own0 ρ0 → ∀ b ∈ loopsOf c, ∀ L, find (headId b) ls = some L → LOk P E C gl W R own0 ρ0 b L)
  (hrun : (run E ls c { fr := numb 0 args', hp := [], next := 0, sz := n } (ends E fn.results.toList)).sat fun _ s => all (sub E.tAt (lookS s.hp) [] deep ((find 0 s.fr).getD .any) rv)) :
  Calls P f vs.toArray W fun e W' => ∃ v R' ρ', e = .returned v ∧ Trans C gl W R ρ h r.ws W' R' ρ' ∧ Den C W' R' ρ' r.v v := by
 subst hnt
 obtain ⟨h1, h2, h3⟩ := hr
 refine con_run EO hdf hf hb M (next := 0) (fun j hj => by rw [h3] at hj; cases hj) S hlen HL ?_
 refine sat_mono (fun e s hs => ?_) hrun
 refine ⟨{ fr := [(0, rv)], hp := [], next := 0, sz := s.sz }, [], [], all_of fun p hp => ?_, fun W R ρ2 ρ3 u M2 ha he _ _ hd => ?_, fun n c hc => .inl (noks h2 n c hc), (fun n q hq => by cases hq), rfl⟩
 ·unfold subSt at hp
  rw [hold] at hp
  simp only [List.flatMap_cons, List.flatMap_nil, List.append_nil, sndN, nodupB, fstLt, oldOk, Nat.beq_refl, Bool.and_self, Bool.and_true, List.append_nil] at hp
  exact all_mem hs p hp
 ·rw [h1]
  exact hd.mono (fun _ h => h) (fun _ _ => rfl) fun n u hu => by rw [ha n (Nat.zero_le _)] at hu; cases hu
end
theorem enters {P : Program} {f : Nat} {fn : Func} {c : Code} (hf : P.funcs[f]? = some fn) (hb : fn.body = some c) (hname : (fn.name == "runtime.NumGoroutine") = false) (args : Array Value) (w : World) :
  (callFunc f args).run P w = .ok (.enter f args) w := by
 unfold callFunc
 have hn : ¬ fn.name = "runtime.NumGoroutine" := by simpa using hname
 simp [hf, hb, hn]
end Go.Sy

set_option linter.unusedVariables false
set_option linter.unusedSimpArgs false
namespace Go.Sy
open Go.RowKit
abbrev fits (E : Env) (s t : SState) : Prop := all (subSt E (mtch E.old s t) s t)
def loopN (c : Code) (n : Nat) : Code := (loopsOf c).getD n .skip
def rnd1 (E : Env) (J : Nat → Prop) (N : Nat) (H : Nat → SState) (id : Nat) (X : SState) (i : Nat) : Exi → SState → Prop
 | .normal, s => i < N ∧ J (i + 1) ∧ fits E s (H (i + 1))
 | .exit n, s => n.beq id = true ∧ fits E s X
 | .ret, _ => False
def rnd2 (E : Env) (J : Nat → Prop) (N : Nat) (H : Nat → SState) (id : Nat) (b : Bool) (X Y : SState) (i : Nat) : Exi → SState → Prop
 | .normal, s => i < N ∧ J (i + 1) ∧ fits E s (H (i + 1))
 | .exit n, s => n.beq id = true ∧ b = true ∧ fits E s X
 | .ret, s => b = false ∧ fits E s Y
section
variable {P : Program} {C : Ctx} {gl : List (Nat × SVal)} {E : Env} {W0 : World} {R0 own0 : Nat → Prop} {ρ0 : Nat → Option Value}
theorem loop1_ok (EO : EnvOk P C gl E) (hown : HownOk E own0 ρ0) {ls : Nat → List (Nat × LSum)} {b : Code} (HL : ∀ i, ∀ c ∈ loopsOf b, ∀ L, find (headId c) (ls i) = some L → LOk P E C gl W0 R0 own0 ρ0 c L)
  {J : Nat → Prop} {N : Nat} {H : Nat → SState} {id : Nat} {X : SState} {pre : Prop} (body : pre → ∀ i, i ≤ N → J i → (run E (ls i) b (H i) .leaf).sat (rnd1 E J N H id X i)) (i0 : Nat) (h0 : pre → i0 ≤ N) (j0 : pre → J i0) :
  LOk P E C gl W0 R0 own0 ρ0 b ⟨H i0, fun k => k (.exit id) X, pre⟩ := by
 refine loop_ok EO hown (ls := fun i => ls i.1) (fun i => HL i.1) (ι := { i // i ≤ N ∧ J i }) (fun i => H i.1) (fun i => N - i.1) (fun _ e t => e = .exit id ∧ t = X) (fun hp i => sat_mono (fun e s hs => ?_) (body hp i.1 i.2.1 i.2.2)) (fun hp => ⟨i0, h0 hp, j0 hp⟩) (fun _ => rfl) (fun _ _ _ h e t ht => by rw [ht.1, ht.2]; exact h)
 cases e with
 | normal => exact ⟨⟨i.1 + 1, hs.1, hs.2.1⟩, _, by have := hs.1; show N - (i.1 + 1) < N - i.1; omega, hs.2.2, fun e t h => h⟩
 | ret => exact hs.elim
 | exit n => exact ⟨X, _, ⟨by rw [Nat.eq_of_beq_eq_true hs.1], rfl⟩, hs.2⟩
theorem loop2_ok (EO : EnvOk P C gl E) (hown : HownOk E own0 ρ0) {ls : Nat → List (Nat × LSum)} {b : Code} (HL : ∀ i, ∀ c ∈ loopsOf b, ∀ L, find (headId c) (ls i) = some L → LOk P E C gl W0 R0 own0 ρ0 c L)
  {J : Nat → Prop} {N : Nat} {H : Nat → SState} {id : Nat} {t : Bool} {X Y : SState} {pre : Prop} (body : pre → ∀ i, i ≤ N → J i → (run E (ls i) b (H i) .leaf).sat (rnd2 E J N H id t X Y i)) (i0 : Nat) (h0 : pre → i0 ≤ N) (j0 : pre → J i0) :
  LOk P E C gl W0 R0 own0 ρ0 b ⟨H i0, fun k => .ite t (k (.exit id) X) (k .ret Y), pre⟩ := by
 refine loop_ok EO hown (ls := fun i => ls i.1) (fun i => HL i.1) (ι := { i // i ≤ N ∧ J i }) (fun i => H i.1) (fun i => N - i.1) (fun _ e s => (e = .exit id ∧ t = true ∧ s = X) ∨ (e = .ret ∧ t = false ∧ s = Y)) (fun hp i => sat_mono (fun e s hs => ?_) (body hp i.1 i.2.1 i.2.2)) (fun hp => ⟨i0, h0 hp, j0 hp⟩) (fun _ => rfl)
  (fun _ _ _ h e s ht => by
   rcases ht with ⟨rfl, h1, rfl⟩ | ⟨rfl, h1, rfl⟩
   ·exact h.1 h1
   ·exact h.2 h1)
 cases e with
 | normal => exact ⟨⟨i.1 + 1, hs.1, hs.2.1⟩, _, by have := hs.1; show N - (i.1 + 1) < N - i.1; omega, hs.2.2, fun e t h => h⟩
 | ret => exact ⟨Y, _, .inr ⟨rfl, hs.1, rfl⟩, hs.2⟩
 | exit n => exact ⟨X, _, .inl ⟨by rw [Nat.eq_of_beq_eq_true hs.1], hs.2.1, rfl⟩, hs.2.2⟩
def cutL (s : SState) : LSum := ⟨s, fun k => k .normal s, True⟩
theorem hl1 {c b : Code} {ls : List (Nat × LSum)} {L0 : LSum} {Z : Code → LSum → Prop} (hc : loopsOf c = [b]) (hf : find (headId b) ls = some L0) (hz : Z b L0) : ∀ b ∈ loopsOf c, ∀ L, find (headId b) ls = some L → Z b L := by
 intro b' hb L hL
 rw [hc] at hb
 simp only [List.mem_singleton] at hb
 subst hb
 rw [hf] at hL; cases hL; exact hz
theorem hlN {c : Code} {bs : List Code} {ls : List (Nat × LSum)} {Z : Code → LSum → Prop} (hc : loopsOf c = bs) (hz : ∀ b ∈ bs, ∃ L0, find (headId b) ls = some L0 ∧ Z b L0) : ∀ b ∈ loopsOf c, ∀ L, find (headId b) ls = some L → Z b L := by
 intro b hb L hL
 rw [hc] at hb
 obtain ⟨L0, h1, h2⟩ := hz b hb
 rw [h1] at hL; cases hL; exact h2
end
end Go.Sy

set_option linter.unusedVariables false
set_option linter.unusedSimpArgs false
namespace Go.Sy
open Go.RowKit
mutual
def shV (d : Nat) : SVal → SVal
 | .ptr r off => .ptr (Nat.add d r) off
 | .eptr r w i j => .eptr (Nat.add d r) w i j
 | .aptr r off w n i j => .aptr (Nat.add d r) off w n i j
 | .rop l => .rop (shL d l)
 | .ropO c l => .ropO c (shL d l)
 | .own r => .own (Nat.add d r)
 | .view t r k n => .view t (Nat.add d r) k n
 | .map r => .map (Nat.add d r)
 | .func f l => .func f (shL d l)
 | .bound f l => .bound f (shL d l)
 | .iface t v => .iface t (shV d v)
 | .agg l => .agg (shL d l)
 | .tuple l => .tuple (shL d l)
 | v => v
def shL (d : Nat) : List SVal → List SVal
 | [] => []
 | a :: l => shV d a :: shL d l
end
def shC (d : Nat) : Cont → Cont
 | .cells l => .cells (shL d l)
 | .row w l => .row w (shL d l)
 | .opn k t l i v => .opn k t l i (shV d v)
 | c => c
def shH (d : Nat) : List (Nat × Cont) → List (Nat × Option Cont)
 | [] => []
 | (n, c) :: l => (Nat.add d n, some (shC d c)) :: shH d l
def optH : List (Nat × Cont) → List (Nat × Option Cont)
 | [] => []
 | (n, c) :: l => (n, some c) :: optH l
def newR (next : Nat) (v : SVal) (hp : List (Nat × Cont)) (m : Nat) (vc : Option Prop := none) : ORes := { v := shV next v, ws := shH next hp, k := m, vc := vc }
section
variable {C : Ctx} {gl : List (Nat × SVal)} {W : World} {R : Nat → Prop} {ρ ρ' : Nat → Option Value} {d : Nat}
theorem shV_arr (s : SVal) : (shV d s).isArr = s.isArr := by cases s <;> (unfold shV; rfl)
mutual
theorem Den.shift (hρ : ∀ r v, ρ r = some v → ρ' (d + r) = some v) : ∀ {s v}, Den C W R ρ s v → Den C W R ρ' (shV d s) v
 | _, _, .any v => by unfold shV; exact .any v
 | _, _, .int k n h => by unfold shV; exact .int k n h
 | _, _, .bool b => by unfold shV; exact .bool b
 | _, _, .str s h => by unfold shV; exact .str s h
 | _, _, .nilptr => by unfold shV; exact .nilptr
 | _, _, .ptr r off b h => by unfold shV; exact .ptr _ off b (hρ _ _ h)
 | _, _, .eptr r w i j b n cap h h1 h2 => by unfold shV; exact .eptr _ w i j b n cap (hρ _ _ h) h1 h2
 | _, _, .aptr r off w n i j b h h1 h2 => by unfold shV; exact .aptr _ off w n i j b (hρ _ _ h) h1 h2
 | _, _, .rop l vs b off h1 h2 h3 => by unfold shV; exact .rop _ vs b off h1 (DenL.shift hρ h2) h3
 | _, _, .nilslice => by unfold shV; exact .nilslice
 | _, _, .own r A n cap h => by unfold shV; exact .own _ A n cap (hρ _ _ h)
 | _, _, .view t r k n A A' m cap cap' h h1 h2 h3 h4 h5 => by unfold shV; exact .view t _ k n A A' m cap cap' (hρ _ _ h) h1 h2 h3 h4 h5
 | _, _, .ro t l A cap vs h1 h2 h3 h4 h5 => by unfold shV; exact .ro t l A cap vs h1 h2 (h3.free (fun _ h => h) (flat_plain t l)) h4 h5
 | _, _, .roN t l A cap vs h1 h2 h3 h4 => by unfold shV; exact .roN t l A cap vs h1 h2 (h3.free (fun _ h => h) (flat_plain t l)) h4
 | _, _, .nilmap => by unfold shV; exact .nilmap
 | _, _, .map r b h => by unfold shV; exact .map _ b (hρ _ _ h)
 | _, _, .ropT l vs b off h1 h2 h3 => by unfold shV; exact .ropT _ vs b off h1 (DenL.shift hρ h2) h3
 | _, _, .ropF l => by unfold shV; exact .ropF _
 | _, _, .romN k t => by unfold shV; exact .romN k t
 | _, _, .rom k t m b es cl h1 h2 h3 h4 => by unfold shV; exact .rom k t m b es cl h1 h2 h3 (h4.free (fun _ h => h) (recVs_plain t m))
 | _, _, .nilFunc => by unfold shV; exact .nilFunc
 | _, _, .func f l vs h => by unfold shV; exact .func f _ vs (DenA.shift hρ h)
 | _, _, .bound f l vs h => by unfold shV; exact .bound f _ vs (DenA.shift hρ h)
 | _, _, .nilIface => by unfold shV; exact .nilIface
 | _, _, .iface t s v h => by unfold shV; exact .iface t _ v (Den.shift hρ h)
 | _, _, .fine => by unfold shV; exact .fine
 | _, _, .bare n h => by unfold shV; exact .bare n h
 | _, _, .placed n p b off h1 h2 h3 h4 h5 => by unfold shV; exact .placed n p b off h1 h2 h3 h4 h5
 | _, _, .atp n p b off h1 h2 h3 h4 h5 => by unfold shV; exact .atp n p b off h1 h2 h3 h4 h5
 | _, _, .atnil e h => by unfold shV; exact .atnil e h
 | _, _, .agg l vs h => by unfold shV; exact .agg _ vs (DenL.shift hρ h)
 | _, _, .arr t n xs vs h1 h2 => by unfold shV; exact .arr t n xs vs h1 (h2.free (fun _ h => h) (flat_plain t xs))
 | _, _, .tuple l vs h => by unfold shV; exact .tuple _ vs (DenA.shift hρ h)
theorem DenL.shift (hρ : ∀ r v, ρ r = some v → ρ' (d + r) = some v) : ∀ {l vs}, DenL C W R ρ l vs → DenL C W R ρ' (shL d l) vs
 | _, _, .nil => by unfold shL; exact .nil
 | _, _, .one s v l vs h1 h2 h3 h4 => by unfold shL; exact .one _ v _ vs (by rw [shV_arr]; exact h1) h2 (Den.shift hρ h3) (DenL.shift hρ h4)
 | _, _, .arr t n xs us l vs h1 h2 h3 => by
  unfold shL
  have : shV d (.arr t n xs) = .arr t n xs := by unfold shV; rfl
  rw [this]; exact .arr t n xs us _ vs h1 (h2.free (fun _ h => h) (flat_plain t xs)) (DenL.shift hρ h3)
theorem DenA.shift (hρ : ∀ r v, ρ r = some v → ρ' (d + r) = some v) : ∀ {l vs}, DenA C W R ρ l vs → DenA C W R ρ' (shL d l) vs
 | _, _, .nil => by unfold shL; exact .nil
 | _, _, .cons s v l vs h1 h2 => by unfold shL; exact .cons _ v _ vs (Den.shift hρ h1) (DenA.shift hρ h2)
end
theorem HoldC.shift (hρ : ∀ r v, ρ r = some v → ρ' (d + r) = some v) {v : Value} {c : Cont} (h : HoldC C W R ρ v c) : HoldC C W R ρ' v (shC d c) := by
 cases c with
 | cells l => obtain ⟨b, vs, T, rfl, hh, hl⟩ := h; exact ⟨b, vs, T, rfl, hh, hl.shift hρ⟩
 | recs t l => obtain ⟨e, vs, ho, hl⟩ := h; exact ⟨e, vs, ho, hl.free (fun _ h => h) (flat_plain t l)⟩
 | row w l => obtain ⟨e, vs, n, ho, hl, h0⟩ := h; exact ⟨e, vs, n, ho, hl.shift hρ, h0⟩
 | strMap m => exact h
 | intMap m => exact h
 | gmap k t m => obtain ⟨b, es, cl, rfl, hh, hk, hx⟩ := h; exact ⟨b, es, cl, rfl, hh, hk, hx.free (fun _ h => h) (recVs_plain t m)⟩
 | opn k t l i x => obtain ⟨e, vs, ho, hd, hi, hx⟩ := h; exact ⟨e, vs, ho, DenL.set_free (fun _ h => h) hx (by rw [shV_arr]; exact hx) (fun u hu => hu.shift hρ) (rom_plain _ _ l) hd, hi, by rw [shV_arr]; exact hx⟩
theorem shH_find {hp : List (Nat × Cont)} {n : Nat} {c : Option Cont} (h : find n (shH d hp) = some c) : ∃ q c0, n = d + q ∧ find q (optH hp) = some (some c0) ∧ c = some (shC d c0) := by
 induction hp with
 | nil => cases h
 | cons p hp ih =>
  obtain ⟨m, c0⟩ := p
  simp only [shH, find] at h
  cases hb : Nat.beq (Nat.add d m) n with
  | true =>
   rw [hb] at h
   cases h
   have := Nat.eq_of_beq_eq_true hb
   exact ⟨m, c0, this.symm, by simp [optH, find, Nat.beq_refl], rfl⟩
  | false =>
   rw [hb] at h
   obtain ⟨q, c1, h1, h2, h3⟩ := ih h
   refine ⟨q, c1, h1, ?_, h3⟩
   simp only [optH, find]
   have : m.beq q = false := by
    cases hq : m.beq q with
    | false => rfl
    | true =>
     have e := Nat.eq_of_beq_eq_true hq
     subst e
     rw [h1] at hb
     have : Nat.beq (Nat.add d m) (d + m) = true := Nat.beq_refl _
     rw [this] at hb; cases hb
   rw [this]; exact h2
theorem shH_key {hp : List (Nat × Cont)} {q : Nat} {c : Option Cont} (h : find q (optH hp) = some c) : d + q ∈ keys (shH d hp) := by
 induction hp with
 | nil => cases h
 | cons p hp ih =>
  obtain ⟨m, c0⟩ := p
  simp only [optH, find] at h
  simp only [shH, keys, List.map_cons, List.mem_cons]
  cases hb : m.beq q with
  | true => have := Nat.eq_of_beq_eq_true hb; subst this; exact .inl rfl
  | false => rw [hb] at h; exact .inr (ih h)
def tauF (next : Nat) : List Nat → List (Nat × Nat)
 | [] => []
 | q :: l => (next + q, q) :: tauF next l
theorem tau_find {next : Nat} {l : List Nat} {n q : Nat} (h : find n (tauF next l) = some q) : n = next + q ∧ q ∈ l := by
 have := find_mem h
 clear h
 induction l with
 | nil => cases this
 | cons m l ih =>
  rcases List.mem_cons.1 this with e | hm
  ·cases e; exact ⟨rfl, List.mem_cons_self ..⟩
  ·exact ⟨(ih hm).1, List.mem_cons_of_mem _ (ih hm).2⟩
theorem tau_has {next : Nat} {l : List Nat} {q : Nat} (h : q ∈ l) : find (next + q) (tauF next l) = some q := by
 induction l with
 | nil => cases h
 | cons m l ih =>
  simp only [tauF, find]
  cases hb : Nat.beq (next + m) (next + q) with
  | true => have := Nat.eq_of_beq_eq_true hb; have : m = q := by omega
            rw [this]
  | false =>
   rcases List.mem_cons.1 h with e | h
   ·subst e; rw [Nat.beq_refl] at hb; cases hb
   ·exact ih h
theorem tau_snd (next : Nat) (l : List Nat) : sndN (tauF next l) = l := by
 induction l with
 | nil => rfl
 | cons m l ih => simp only [tauF, sndN, ih]
theorem optH_look {hp : List (Nat × Cont)} {q : Nat} {c : Cont} (h : find q (optH hp) = some (some c)) : lookS (optH hp) q = some c := by unfold lookS; rw [h]; rfl
theorem optH_some {hp : List (Nat × Cont)} {q : Nat} {c : Option Cont} (h : find q (optH hp) = some c) : ∃ c0, c = some c0 := by
 induction hp with
 | nil => cases h
 | cons p hp ih =>
  obtain ⟨m, c0⟩ := p
  simp only [optH, find] at h
  split at h
  ·cases h; exact ⟨c0, rfl⟩
  ·exact ih h
def boundIn (l : List Nat) : Nat → Bool
 | 0 => true
 | m + 1 => memN m l && boundIn l m
theorem boundIn_of {l : List Nat} {m : Nat} (h : boundIn l m = true) : ∀ q, q < m → q ∈ l := by
 induction m with
 | zero => intro q hq; omega
 | succ m ih =>
  simp only [boundIn, Bool.and_eq_true] at h
  intro q hq
  by_cases e : q = m
  ·subst e; exact memN_iff.1 h.1
  ·exact ih h.2 q (by omega)
def newQ (E : Env) (v : SVal) (hp : List (Nat × Cont)) (m : Nat) : Exi → SState → Prop := fun _ s => fits E s { fr := [(0, v)], hp := optH hp, next := m, sz := 1 }
def keysH : List (Nat × Cont) → List Nat
 | [] => []
 | (n, _) :: l => n :: keysH l
def allLt (m : Nat) : List Nat → Bool
 | [] => true
 | q :: l => Nat.ble (q + 1) m && allLt m l
theorem allLt_of {m : Nat} {l : List Nat} (h : allLt m l = true) : ∀ q ∈ l, q < m := by
 induction l with
 | nil => intro q hq; cases hq
 | cons a l ih =>
  simp only [allLt, Bool.and_eq_true] at h
  intro q hq
  rcases List.mem_cons.1 hq with rfl | hq
  ·exact Nat.le_of_ble_eq_true h.1
  ·exact ih h.2 q hq
theorem keysH_find {hp : List (Nat × Cont)} {q : Nat} (h : q ∈ keysH hp) : ∃ c, find q (optH hp) = some c := by
 refine mem_find ?_
 induction hp with
 | nil => cases h
 | cons p hp ih =>
  obtain ⟨m, c0⟩ := p
  simp only [optH, keys, List.map_cons, List.mem_cons]
  rcases List.mem_cons.1 h with rfl | h
  ·exact .inl rfl
  ·exact .inr (ih h)
theorem find_keysH {hp : List (Nat × Cont)} {q : Nat} {c : Option Cont} (h : find q (optH hp) = some c) : q ∈ keysH hp := by
 induction hp with
 | nil => cases h
 | cons p hp ih =>
  obtain ⟨m, c0⟩ := p
  simp only [optH, find] at h
  simp only [keysH, List.mem_cons]
  split at h
  ·rename_i hb; exact .inl (Nat.eq_of_beq_eq_true hb).symm
  ·exact .inr (ih h)
theorem con_new {P : Program} {E : Env} (EO : EnvOk P C gl E) (hdf : E.df = []) {f : Nat} {fn : Func} {c : Code} (hf : P.funcs[f]? = some fn) (hb : fn.body = some c) {ls : List (Nat × LSum)} {n : Nat} {h : Nat → Option Cont}
  (M : Mem C gl W R ρ h) {args' : List SVal} {vs : List Value} {next : Nat} {r : ORes} {rv : SVal} {hp : List (Nat × Cont)} {m : Nat} {fz : List (Nat × Option Cont)} {R1 own0 : Nat → Prop} (S : Enters C gl W R ρ h r R1 own0 (fun _ => none) [] 0 args' vs)
  (hr : r.v = shV next rv ∧ r.ws = fz ++ shH next hp ∧ r.k = m) (hz : ∀ p ∈ fz, p.2 = none ∧ ρ p.1 ≠ none) (hn : ∀ j, j < r.k → ρ (next + j) = none) (hold : E.old = []) (hnt : fn.ntmps = n)
  (hlen : Nat.ble args'.length n = true) (hm : (nodupB (keysH hp) && allLt m (keysH hp) && boundIn (keysH hp) m) = true)
  (HL : ∀ W R ρ0 own0, HownOk E own0 ρ0 → ∀ b ∈ loopsOf c, ∀ L, find (headId b) ls = some L → LOk P E C gl W R own0 ρ0 b L)
  (hrun : (run E ls c { fr := numb 0 args', hp := [], next := 0, sz := n } (ends E fn.results.toList)).sat (newQ E rv hp m)) :
  Calls P f vs.toArray W fun e W' => ∃ v R' ρ', e = .returned v ∧ Trans C gl W R ρ h r.ws W' R' ρ' ∧ Den C W' R' ρ' r.v v := by
 subst hnt
 obtain ⟨h1, h2, h3⟩ := hr
 simp only [Bool.and_eq_true] at hm
 obtain ⟨⟨m1, m2⟩, m3⟩ := hm
 have hm2 := allLt_of m2
 have hm3 := boundIn_of m3
 refine con_run EO hdf hf hb M hn S hlen HL ?_
 have sh : ∀ {ρ2 ρ3 : Nat → Option Value}, (∀ n, m ≤ n → ρ2 n = none) → (∀ n q, find n (tauF next (keysH hp)) = some q → ρ3 n = ρ2 q) → ∀ r v, ρ2 r = some v → ρ3 (next + r) = some v := fun ha he r v hv => by
  have : r < m := Nat.lt_of_not_le fun hle => by rw [ha r hle] at hv; cases hv
  rw [he _ r (tau_has (hm3 r this))]; exact hv
 refine sat_mono (fun e s hs => ⟨_, _, tauF next (keysH hp), hs, ?_, ?_, ?_, ?_⟩) hrun
 ·intro W R ρ2 ρ3 u M2 ha he _ _ hd
  rw [h1]
  exact Den.shift (sh ha he) hd
 ·intro k c hc
  rw [h2, find_append] at hc
  split at hc
  ·rename_i c' hf
   cases hc
   exact .inl (hz _ (find_mem hf)).1
  ·obtain ⟨q, c0, rfl, hq, rfl⟩ := shH_find hc
   exact .inr ⟨q, c0, _, tau_has (find_keysH hq), rfl, optH_look hq, fun W R ρ2 ρ3 u M2 ha he _ _ hh => hh.shift (sh ha he)⟩
 ·intro k q hq
  obtain ⟨rfl, hm⟩ := tau_find hq
  obtain ⟨c, hc⟩ := keysH_find hm
  have := hm2 q hm
  exact .inr ⟨by rw [h2]; simp only [keys, List.map_append, List.mem_append]; exact .inr (shH_key hc), by omega, by rw [h3]; omega⟩
 ·rw [tau_snd]; exact m1
def isMapC : Cont → Bool
 | .strMap _ => true
 | .intMap _ => true
 | .gmap _ _ _ => true
 | _ => false
theorem HoldC.map {W : World} {R : Nat → Prop} {ρ ρ' : Nat → Option Value} {v : Value} {c : Cont} (hm : isMapC c = true) (h : HoldC C W R ρ v c) : HoldC C W R ρ' v c := by
 cases c with
 | gmap k t m => obtain ⟨b, es, cl, rfl, hh, hk, hx⟩ := h; exact ⟨b, es, cl, rfl, hh, hk, hx.free (fun _ h => h) (recVs_plain t m)⟩
 | strMap m => exact h
 | intMap m => exact h
 | _ => cases hm
theorem Enters.map {W : World} {R : Nat → Prop} {ρ : Nat → Option Value} {h : Nat → Option Cont} (M : Mem C gl W R ρ h) {r : ORes} {q : Nat} {c0 : Cont} (hq : h q = some c0) (hm : isMapC c0 = true) (hk : q ∈ keys r.ws) {l l' : List SVal} {vs : List Value} (hA : DenA C W R ρ (l ++ [.map q]) vs)
  (hp : ∀ p ∈ subL C.tAt none' [] deep l l', p) : ∃ own0, Enters C gl W R ρ h r R own0 (fun n => if n = 0 then ρ q else none) [(0, some c0)] 1 (l' ++ [.map 0]) vs := by
 obtain ⟨v0, hv0, hh0⟩ := M.at_ q _ hq
 have main : ∀ {n : Nat} {l l' : List SVal} {vs : List Value}, DenA C W R ρ (l ++ [.map q]) vs → (∀ p ∈ subL C.tAt none' [] n l l', p) → DenA C W R (fun n => if n = 0 then ρ q else none) (l' ++ [.map 0]) vs := by
  intro n l
  induction l generalizing n with
  | nil =>
   intro l' vs hA hp
   cases l' with
   | nil =>
    cases hA with
    | cons _ v _ us h1 h2 =>
     cases h2
     refine .cons _ _ _ _ ?_ .nil
     cases h1 with
     | map _ b hv => exact .map 0 b (by simpa using hv)
   | cons b l' => cases n <;> (unfold subL at hp; exact no hp)
  | cons a l ih =>
   intro l' vs hA hp
   cases l' with
   | nil => cases n <;> (unfold subL at hp; exact no hp)
   | cons b l' =>
    cases n with
    | zero => unfold subL at hp; exact no hp
    | succ n =>
     unfold subL at hp
     split at hp
     ·cases hA with
      | cons _ v _ us h1 h2 =>
       refine .cons _ _ _ _ ?_ (ih h2 fun p hm => hp p (List.mem_append_right _ hm))
       exact (h1.ren M fun p hm => hp p (List.mem_append_left _ hm)).mono (fun _ h => h) (fun _ _ => rfl) fun r v hv => by cases hv
     ·exact no hp
 have only : ∀ n c, lookS [(0, some c0)] n = some c → n = 0 ∧ c = c0 := fun n c hc => by
  unfold lookS at hc
  simp only [find] at hc
  split at hc
  ·rename_i hb; have := Nat.eq_of_beq_eq_true hb; subst this; cases hc; exact ⟨rfl, rfl⟩
  ·cases hc
 refine ⟨fun b => blk v0 = some b, main hA hp, ⟨M.base, fun n c hc => ?_, fun n n' c c' v v' b k1 k2 _ _ _ _ => ?_, fun n c v b k1 k2 k3 => ?_⟩, fun n hn => ?_, fun _ h => h, fun _ h => .inl h, fun b hb => ?_, fun b hb => ⟨q, c0, v0, hk, hq, hv0, hb⟩⟩
 ·obtain ⟨rfl, rfl⟩ := only n c hc
  exact ⟨v0, by simpa using hv0, hh0.map hm⟩
 ·rw [(only n c k1).1, (only n' c' k2).1]
 ·obtain ⟨rfl, rfl⟩ := only n c k1
  exact M.off q _ v b hq (by simpa using k2) k3
 ·have : n ≠ 0 := by omega
  simp [this]
 ·obtain ⟨n, c, v, k1, k2, k3⟩ := hb
  obtain ⟨rfl, rfl⟩ := only n c k1
  have k2 : ρ q = some v := by simpa using k2
  rw [hv0] at k2; cases k2; exact k3
theorem con_map {P : Program} {E : Env} (EO : EnvOk P C gl E) (hdf : E.df = []) {f : Nat} {fn : Func} {c : Code} (hf : P.funcs[f]? = some fn) (hb : fn.body = some c) {ls : List (Nat × LSum)} {n : Nat} {h : Nat → Option Cont}
  (M : Mem C gl W R ρ h) {l l' : List SVal} {q : Nat} {vs : List Value} (hA : DenA C W R ρ (l ++ [.map q]) vs) {next : Nat} {r : ORes} {c0 c1 : Cont} (hq : h q = some c0) (hm : (isMapC c0 && isMapC c1) = true) (hr : plain r.v = true ∧ r.ws = [(q, some c1)] ∧ r.k = 0) (hold : E.old = [0]) (hnt : fn.ntmps = n)
  (hargs : ∀ p ∈ subL C.tAt none' [] deep l l', p) (hlen : Nat.ble (l'.length + 1) n = true)
  (HL : ∀ W R ρ0 own0, HownOk E own0 ρ0 → ∀ b ∈ loopsOf c, ∀ L, find (headId b) ls = some L → LOk P E C gl W R own0 ρ0 b L)
  (hrun : (run E ls c { fr := numb 0 (l' ++ [.map 0]), hp := [(0, some c0)], next := 1, sz := n } (ends E fn.results.toList)).sat fun _ s => fits E s { fr := [(0, r.v)], hp := [(0, some c1)], next := 1, sz := 1 }) :
  Calls P f vs.toArray W fun e W' => ∃ v R' ρ', e = .returned v ∧ Trans C gl W R ρ h r.ws W' R' ρ' ∧ Den C W' R' ρ' r.v v := by
 subst hnt
 obtain ⟨h1, h2, h3⟩ := hr
 rw [Bool.and_eq_true] at hm
 obtain ⟨v0, hv0, hh0⟩ := M.at_ q _ hq
 obtain ⟨own0, S⟩ := Enters.map M (r := r) hq hm.1 (by rw [h2]; simp [keys]) hA hargs
 refine con_run EO hdf hf hb M (next := next) (fun j hj => by rw [h3] at hj; cases hj) S (by simpa using hlen) HL ?_
 have fq : find q [(q, 0)] = some 0 := by simp [find, Nat.beq_refl]
 refine sat_mono (fun e s hs => ⟨_, _, [(q, 0)], hs, ?_, ?_, ?_, rfl⟩) hrun
 ·intro W R ρ2 ρ3 u M2 ha he _ _ hd
  exact hd.free (fun _ h => h) h1
 ·intro k c hc
  rw [h2] at hc
  obtain ⟨rfl, rfl⟩ := find_one hc
  exact .inr ⟨0, c1, c1, fq, rfl, rfl, fun W R ρ2 ρ3 u M2 ha he _ _ hh => hh.map hm.2⟩
 ·intro k q' hq'
  obtain ⟨rfl, rfl⟩ := find_one hq'
  exact .inl ⟨by rw [hold]; simp, by simp, by rw [hv0]; simp⟩
end
end Go.Sy

set_option linter.unusedVariables false
set_option linter.unusedSimpArgs false
namespace Go.Sy
open Go.RowKit
inductive Shp where
 | any
 | ro (t : RT)
 | err
 | agg (l : List Shp)
 | box (l : List Shp)
 | rom (k : FK) (t : RT)
 | drop
def nrmRo (t : RT) : SVal → Acc (SVal × List Nat)
 | .ro t' l => match decEq t' t with | .isTrue h => .ret (.ro t (h ▸ l), []) | .isFalse _ => .fail "ro"
 | .roN t' l => match decEq t' t with | .isTrue h => .ret (.ro t (h ▸ l), []) | .isFalse _ => .fail "ro"
 | .nilslice => .ret (.ro t [], [])
 | .own q => .look q fun
  | some (.recs t' l) => match decEq t' t with | .isTrue h => .ret (.ro t (h ▸ l), [q]) | .isFalse _ => .fail "ro"
  | _ => .fail "ro"
 | .view t'' q k n => .look q fun
  | some (.recs t' l) => match decEq t' t, decEq t'' t with | .isTrue h, .isTrue _ => .ret (.ro t ((h ▸ l).drop k |>.take n), [q]) | _, _ => .fail "ro"
  | _ => .fail "ro"
 | _ => .fail "ro"
def nrmRom (k : FK) (t : RT) : SVal → Acc (SVal × List Nat)
 | .rom k' t' m => match decEq k' k, decEq t' t with | .isTrue h, .isTrue h' => .ret (.rom k t (castM h h' m), []) | _, _ => .fail "rom"
 | .nilmap => .ret (.rom k t none, [])
 | .map q => .look q fun
  | some (.gmap k' t' m) => match decEq k' k, decEq t' t with | .isTrue h, .isTrue h' => .ret (.rom k t (castM h h' (some m)), [q]) | _, _ => .fail "rom"
  | some (.intMap m) => match decEq (FK.int .i64) k, decEq RT.i64 t with | .isTrue h, .isTrue h' => .ret (.rom k t (castM (k := .int .i64) (t := .i64) h h' (some m)), [q]) | _, _ => .fail "rom"
  | _ => .fail "rom"
 | _ => .fail "rom"
mutual
def nrm : Shp → SVal → Acc (SVal × List Nat)
 | .any, x => .ret (x, [])
 | .drop, x => match x.isArr with
  | true => .fail "drop"
  | false => .ret (.any, [])
 | .ro t, x => nrmRo t x
 | .rom k t, x => nrmRom k t x
 | .err, x => match x with
  | .nilIface => .ret (.err .fine, [])
  | .err e => .ret (.err e, [])
  | _ => .fail "err"
 | .agg ss, x => match x with
  | .agg l => nrmL ss l >>= fun p => .ret (.agg p.1, p.2)
  | _ => .fail "agg"
 | .box ss, x => match x with
  | .ptr q 0 => .look q fun
   | some (.cells l) => nrmL ss l >>= fun p => .ret (.rop p.1, q :: p.2)
   | _ => .fail "box"
  | .rop l => nrmL ss l >>= fun p => .ret (.rop p.1, p.2)
  | _ => .fail "box"
def nrmL : List Shp → List SVal → Acc (List SVal × List Nat)
 | [], [] => .ret ([], [])
 | s :: ss, x :: l => nrm s x >>= fun p => nrmL ss l >>= fun q => .ret (p.1 :: q.1, p.2 ++ q.2)
 | _, _ => .fail "arguments"
end
def RK (K : List Nat) (ρ : Nat → Option Value) (R : Nat → Prop) (b : Nat) : Prop := R b ∨ ∃ q v, q ∈ K ∧ ρ q = some v ∧ blk v = some b
def without (h : Nat → Option Cont) (K : List Nat) : Nat → Option Cont := fun n => match memN n K with | true => none | false => h n
def hide {α : Type} (K : List Nat) : Acc α → Acc α
 | .ret a => .ret a
 | .fail s => .fail s
 | .look r k => match memN r K with
  | true => hide K (k none)
  | false => .look r fun c => hide K (k c)
theorem hide_ok {α : Type} {K : List Nat} {h : Nat → Option Cont} {a : α} {x : Acc α} : ∀ {l l' : List Nat}, (hide K x).run h l = .ok (a, l') → ∀ l1, ∃ l2, x.run (without h K) l1 = .ok (a, l2) := by
 induction x with
 | ret b => intro l l' hr l1; simp only [hide, Acc.run, Except.ok.injEq, Prod.mk.injEq] at hr ⊢; exact ⟨l1, hr.1, rfl⟩
 | fail s => intro l l' hr; simp [hide, Acc.run] at hr
 | look r k ih =>
  intro l l' hr l1
  unfold hide at hr
  show ∃ l2, (k (without h K r)).run (without h K) (r :: l1) = .ok (a, l2)
  split at hr
  ·rename_i hm
   have : without h K r = none := by unfold without; rw [hm]
   rw [this]; exact ih none hr _
  ·rename_i hm
   have : without h K r = h r := by unfold without; rw [hm]
   rw [this]; exact ih (h r) hr _
section
variable {C : Ctx} {gl : List (Nat × SVal)} {W W' : World} {R R' : Nat → Prop} {ρ ρ' : Nat → Option Value} {h : Nat → Option Cont}
theorem RK.mono {K K' : List Nat} (hK : ∀ q ∈ K, q ∈ K') : ∀ b, RK K ρ R b → RK K' ρ R b := fun b hb => hb.imp id fun ⟨q, v, h1, h2⟩ => ⟨q, v, hK q h1, h2⟩
theorem row_ro (M : Mem C gl W R ρ h) {q : Nat} {t : RT} {l : List t.ty} (hh : h q = some (.recs t l)) {K : List Nat} (hq : q ∈ K) {A : Option Addr} {n cap : Nat} (hv : ρ q = some (.slice A n cap)) :
  n = l.length ∧ l.length ≤ cap ∧ cap ≤ maxLen ∧ ∃ vs, DenL C W R ρ (l.flatMap t.enc) vs ∧ (l ≠ [] → ∃ b, A = some ⟨b, 0, none⟩ ∧ RK K ρ R b ∧ CellsAt W b 0 vs) ∧ (A = none → cap = 0) := by
 have M1 : Mem C gl W R ρ (fun n => if n = q then h q else none) := M.weaken fun r c hc => by
  by_cases e : r = q
  ·subst e; simpa using hc
  ·simp [e] at hc
 obtain ⟨e1, e2, e3, vs, e4, e5, e6⟩ := frozen_row (σ := []) M1 (r := q) rfl (by simpa using hh) hv
 refine ⟨e1, e2, e3, vs, e4, fun hl => ?_, e6⟩
 obtain ⟨b, g1, g2, g3⟩ := e5 hl
 refine ⟨b, g1, ?_, g3⟩
 rcases g2 with g2 | ⟨n', c, v, _, k1, k2, k3⟩
 ·exact .inl g2
 ·by_cases e : n' = q
  ·subst e; exact .inr ⟨_, v, hq, k2, k3⟩
  ·simp [e] at k1
theorem nrmRo_ok (M : Mem C gl W R ρ h) {t : RT} {x y : SVal} {K : List Nat} {l l' : List Nat} (hr : (nrmRo t x).run h l = .ok ((y, K), l')) {v : Value} (hd : Den C W R ρ x v) :
  ∀ K', (∀ q ∈ K, q ∈ K') → Den C W (RK K' ρ R) ρ y v ∧ y.isArr = false ∧ ∀ q ∈ K, ∃ c, h q = some c := by
 intro K' hK
 have flat : ∀ {t : RT} {l : List t.ty} {vs : List Value}, DenL C W R ρ (l.flatMap t.enc) vs → DenL C W (RK K' ρ R) ρ (l.flatMap t.enc) vs := fun {t l vs} hd => hd.free (fun _ h => .inl h) (flat_plain t l)
 unfold nrmRo at hr
 split at hr
 ·rename_i t' x'
  split at hr
  ·have e := ‹t' = t›
   subst e
   simp only [Acc.run, Except.ok.injEq, Prod.mk.injEq] at hr
   obtain ⟨⟨rfl, rfl⟩, _⟩ := hr
   exact ⟨hd.mono (fun _ h => .inl h) (fun _ _ => rfl) (fun _ _ h => h), rfl, fun q hq => by cases hq⟩
  ·simp [Acc.run] at hr
 ·rename_i t' x'
  split at hr
  ·have e := ‹t' = t›
   subst e
   simp only [Acc.run, Except.ok.injEq, Prod.mk.injEq] at hr
   obtain ⟨⟨rfl, rfl⟩, _⟩ := hr
   cases hd with
   | roN _ _ a cap vs h1 h2 h3 h4 =>
    refine ⟨.ro _ _ _ cap vs h1 h2 (flat h3) (fun hl => ?_) (fun h => by cases h), rfl, fun q hq => by cases hq⟩
    obtain ⟨b, off, e1, e2, e3⟩ := h4 hl
    exact ⟨b, off, by rw [e1], .inl e2, e3⟩
  ·simp [Acc.run] at hr
 ·simp only [Acc.run, Except.ok.injEq, Prod.mk.injEq] at hr
  obtain ⟨⟨rfl, rfl⟩, _⟩ := hr
  cases hd
  exact ⟨.ro _ [] none 0 [] (Nat.le_refl _) (Nat.zero_le _) .nil (fun h => (h rfl).elim) (fun _ => rfl), rfl, fun q hq => by cases hq⟩
 ·rename_i q0
  simp only [Acc.run] at hr
  split at hr
  ·rename_i t' x' hq
   split at hr
   ·have e := ‹t' = t›
    subst e
    simp only [Acc.run, Except.ok.injEq, Prod.mk.injEq] at hr
    obtain ⟨⟨rfl, rfl⟩, _⟩ := hr
    cases hd with
    | own _ A n cap hv =>
     obtain ⟨rfl, e2, e3, vs, e4, e5, e6⟩ := row_ro M hq (hK q0 (List.mem_singleton.2 rfl)) hv
     refine ⟨.ro _ _ A cap vs e2 e3 (flat e4) (fun hl => ?_) e6, rfl, fun q hq' => by rw [List.mem_singleton.1 hq']; exact ⟨_, hq⟩⟩
     obtain ⟨b, g1, g2, g3⟩ := e5 hl
     exact ⟨b, 0, g1, g2, g3⟩
   ·simp [Acc.run] at hr
  ·simp [Acc.run] at hr
 ·rename_i t'' q0 k n
  simp only [Acc.run] at hr
  split at hr
  ·rename_i t' x' hq
   split at hr
   ·have e := ‹t' = t›
    have e' := ‹t'' = t›
    subst e
    subst e'
    simp only [Acc.run, Except.ok.injEq, Prod.mk.injEq] at hr
    obtain ⟨⟨rfl, rfl⟩, _⟩ := hr
    cases hd with
    | view _ _ _ _ A A' m cap cap' hv h1 h2 h3 h4 h5 =>
     obtain ⟨rfl, e2, e3, vs, e4, e5, e6⟩ := row_ro M hq (hK q0 (List.mem_singleton.2 rfl)) hv
     have hlen : ((x'.drop k).take n).length = n := by simp; omega
     have := Den.ro (C := C) (W := W) (R := RK K' ρ R) (ρ := ρ) t'' ((x'.drop k).take n) A' cap' _ (by rw [hlen]; omega) h3 (flat (e4.sub k n)) ?_ h5
     ·rw [hlen] at this
      exact ⟨this, rfl, fun q hq' => by rw [List.mem_singleton.1 hq']; exact ⟨_, hq⟩⟩
     ·intro hne
      have hpos : 0 < n := by rw [← hlen]; exact List.length_pos_iff.2 hne
      obtain ⟨b, g1, g2⟩ := h4 hpos
      obtain ⟨b', g3, g4, g5⟩ := e5 (by rintro rfl; simp at hne)
      rw [g1] at g3; cases g3
      exact ⟨b, k * t''.w, g2, g4, by simpa using (g5.drop (k * t''.w)).take (n * t''.w)⟩
   ·simp [Acc.run] at hr
  ·simp [Acc.run] at hr
 ·simp [Acc.run] at hr
theorem nrmRom_ok (M : Mem C gl W R ρ h) {k : FK} {t : RT} {x y : SVal} {K : List Nat} {l l' : List Nat} (hr : (nrmRom k t x).run h l = .ok ((y, K), l')) {v : Value} (hd : Den C W R ρ x v) :
  ∀ K', (∀ q ∈ K, q ∈ K') → Den C W (RK K' ρ R) ρ y v ∧ y.isArr = x.isArr ∧ ∀ q ∈ K, ∃ c, h q = some c := by
 intro K' hK
 unfold nrmRom at hr
 split at hr
 ·split at hr
  ·rename_i e1 e2 _ _
   subst e1; subst e2
   simp only [Acc.run, Except.ok.injEq, Prod.mk.injEq] at hr
   obtain ⟨⟨rfl, rfl⟩, _⟩ := hr
   exact ⟨hd.free (fun _ h => .inl h) rfl, rfl, fun q hq => by cases hq⟩
  ·simp [Acc.run] at hr
 ·simp only [Acc.run, Except.ok.injEq, Prod.mk.injEq] at hr
  obtain ⟨⟨rfl, rfl⟩, _⟩ := hr
  cases hd
  exact ⟨.romN _ _, rfl, fun q hq => by cases hq⟩
 ·rename_i q0
  simp only [Acc.run] at hr
  split at hr
  ·rename_i k' t' m hq
   split at hr
   ·rename_i e1 e2 _ _
    subst e1; subst e2
    simp only [Acc.run, Except.ok.injEq, Prod.mk.injEq] at hr
    obtain ⟨⟨rfl, rfl⟩, _⟩ := hr
    cases hd with
    | map _ b hv =>
     obtain ⟨v', hv', b', es, cl, e, hb, hk, hx⟩ := M.at_ q0 _ hq
     rw [hv] at hv'; cases hv'; cases e
     exact ⟨.rom _ _ _ b es cl (.inr ⟨q0, _, hK q0 (List.mem_singleton.2 rfl), hv, rfl⟩) hb hk (hx.free (fun _ h => .inl h) (recVs_plain _ m)), rfl, fun q hq' => by rw [List.mem_singleton.1 hq']; exact ⟨_, hq⟩⟩
   ·simp [Acc.run] at hr
  ·rename_i m hq
   split at hr
   ·rename_i e1 e2 _ _
    subst e1; subst e2
    simp only [Acc.run, Except.ok.injEq, Prod.mk.injEq] at hr
    obtain ⟨⟨rfl, rfl⟩, _⟩ := hr
    cases hd with
    | map _ b hv =>
     obtain ⟨v', hv', b', es, cl, e, hb, hx, hm⟩ := M.at_ q0 _ hq
     rw [hv] at hv'; cases hv'; cases e
     obtain ⟨i1, i2⟩ := int_ents hx hm
     exact ⟨.rom _ _ _ b es cl (.inr ⟨q0, _, hK q0 (List.mem_singleton.2 rfl), hv, rfl⟩) hb i1 i2, rfl, fun q hq' => by rw [List.mem_singleton.1 hq']; exact ⟨_, hq⟩⟩
   ·simp [Acc.run] at hr
  ·simp [Acc.run] at hr
 ·simp [Acc.run] at hr
mutual
theorem nrm_ok (M : Mem C gl W R ρ h) : ∀ (S : Shp) {x y : SVal} {K : List Nat} {l l' : List Nat}, (nrm S x).run h l = .ok ((y, K), l') → ∀ {v : Value}, Den C W R ρ x v →
  ∀ K', (∀ q ∈ K, q ∈ K') → Den C W (RK K' ρ R) ρ y v ∧ y.isArr = x.isArr ∧ ∀ q ∈ K, ∃ c, h q = some c
 | .any, x, y, K, l, l', hr, v, hd, K', hK => by
  unfold nrm at hr
  simp only [Acc.run, Except.ok.injEq, Prod.mk.injEq] at hr
  obtain ⟨⟨rfl, rfl⟩, _⟩ := hr
  exact ⟨hd.mono (fun _ h => .inl h) (fun _ _ => rfl) (fun _ _ h => h), rfl, fun q hq => by cases hq⟩
 | .drop, x, y, K, l, l', hr, v, hd, K', hK => by
  unfold nrm at hr
  split at hr
  ·cases hr
  ·rename_i hx
   simp only [Acc.run, Except.ok.injEq, Prod.mk.injEq] at hr
   obtain ⟨⟨rfl, rfl⟩, _⟩ := hr
   exact ⟨.any _, hx.symm, fun q hq => by cases hq⟩
 | .ro t, x, y, K, l, l', hr, v, hd, K', hK => by
  unfold nrm at hr
  obtain ⟨h1, h2, h3⟩ := nrmRo_ok M hr hd K' hK
  refine ⟨h1, ?_, h3⟩
  rw [h2]
  unfold nrmRo at hr
  cases x <;> first | rfl | (simp [Acc.run] at hr)
 | .rom k t, x, y, K, l, l', hr, v, hd, K', hK => by
  unfold nrm at hr
  exact nrmRom_ok M hr hd K' hK
 | .err, x, y, K, l, l', hr, v, hd, K', hK => by
  unfold nrm at hr
  split at hr
  ·simp only [Acc.run, Except.ok.injEq, Prod.mk.injEq] at hr
   obtain ⟨⟨rfl, rfl⟩, _⟩ := hr
   cases hd
   exact ⟨.fine, rfl, fun q hq => by cases hq⟩
  ·simp only [Acc.run, Except.ok.injEq, Prod.mk.injEq] at hr
   obtain ⟨⟨rfl, rfl⟩, _⟩ := hr
   exact ⟨hd.mono (fun _ h => .inl h) (fun _ _ => rfl) (fun _ _ h => h), rfl, fun q hq => by cases hq⟩
  ·simp [Acc.run] at hr
 | .agg ss, x, y, K, l, l', hr, v, hd, K', hK => by
  unfold nrm at hr
  split at hr
  ·rename_i xs
   obtain ⟨⟨ys, K1⟩, l1, h1, h2⟩ := Acc.bind_ok hr
   simp only [Acc.run, Except.ok.injEq, Prod.mk.injEq] at h2
   obtain ⟨⟨rfl, rfl⟩, _⟩ := h2
   cases hd with
   | agg _ vs hl =>
    obtain ⟨g1, g2⟩ := (nrmL_ok M ss h1 K' hK).1 hl
    exact ⟨.agg _ vs g1, rfl, g2⟩
  ·simp [Acc.run] at hr
 | .box ss, x, y, K, l, l', hr, v, hd, K', hK => by
  unfold nrm at hr
  split at hr
  ·rename_i q
   simp only [Acc.run] at hr
   split at hr
   ·rename_i xs hq
    obtain ⟨⟨ys, K1⟩, l1, h1, h2⟩ := Acc.bind_ok hr
    simp only [Acc.run, Except.ok.injEq, Prod.mk.injEq] at h2
    obtain ⟨⟨rfl, rfl⟩, _⟩ := h2
    cases hd with
    | ptr _ _ b hv =>
     obtain ⟨v', hv', b', vs, T, e, hb, hl⟩ := M.at_ q _ hq
     rw [hv] at hv'; cases hv'; cases e
     obtain ⟨g1, g2⟩ := (nrmL_ok M ss h1 K' fun n hn => hK n (List.mem_cons_of_mem _ hn)).1 hl
     refine ⟨.rop _ vs b 0 (.inr ⟨q, _, hK q (List.mem_cons_self ..), hv, rfl⟩) g1 (cells_at hb), rfl, fun n hn => ?_⟩
     rcases List.mem_cons.1 hn with rfl | hn
     ·exact ⟨_, hq⟩
     ·exact g2 n hn
   ·simp [Acc.run] at hr
  ·rename_i xs
   obtain ⟨⟨ys, K1⟩, l1, h1, h2⟩ := Acc.bind_ok hr
   simp only [Acc.run, Except.ok.injEq, Prod.mk.injEq] at h2
   obtain ⟨⟨rfl, rfl⟩, _⟩ := h2
   cases hd with
   | rop _ vs b off h3 h4 h5 =>
    obtain ⟨g1, g2⟩ := (nrmL_ok M ss h1 K' hK).1 h4
    exact ⟨.rop _ vs b off (.inl h3) g1 h5, rfl, g2⟩
  ·simp [Acc.run] at hr
theorem nrmL_ok (M : Mem C gl W R ρ h) : ∀ (ss : List Shp) {xs ys : List SVal} {K : List Nat} {l l' : List Nat}, (nrmL ss xs).run h l = .ok ((ys, K), l') → ∀ K', (∀ q ∈ K, q ∈ K') →
  (∀ {vs : List Value}, DenL C W R ρ xs vs → DenL C W (RK K' ρ R) ρ ys vs ∧ ∀ q ∈ K, ∃ c, h q = some c) ∧ (∀ {vs : List Value}, DenA C W R ρ xs vs → DenA C W (RK K' ρ R) ρ ys vs ∧ ∀ q ∈ K, ∃ c, h q = some c)
 | [], xs, ys, K, l, l', hr, K', hK => by
  unfold nrmL at hr
  cases xs with
  | nil =>
   simp only [Acc.run, Except.ok.injEq, Prod.mk.injEq] at hr
   obtain ⟨⟨rfl, rfl⟩, _⟩ := hr
   exact ⟨fun hl => by cases hl; exact ⟨.nil, fun q hq => by cases hq⟩, fun hl => by cases hl; exact ⟨.nil, fun q hq => by cases hq⟩⟩
  | cons x xs => simp [Acc.run] at hr
 | s :: ss, xs, ys, K, l, l', hr, K', hK => by
  unfold nrmL at hr
  cases xs with
  | nil => simp [Acc.run] at hr
  | cons x xs =>
   simp only at hr
   obtain ⟨⟨y, K1⟩, l1, h1, h2⟩ := Acc.bind_ok hr
   obtain ⟨⟨zs, K2⟩, l2, h3, h4⟩ := Acc.bind_ok h2
   simp only [Acc.run, Except.ok.injEq, Prod.mk.injEq] at h4
   obtain ⟨⟨rfl, rfl⟩, _⟩ := h4
   have k1 : ∀ q ∈ K1, q ∈ K' := fun q hq => hK q (List.mem_append_left _ hq)
   have k2 : ∀ q ∈ K2, q ∈ K' := fun q hq => hK q (List.mem_append_right _ hq)
   obtain ⟨ihL, ihA⟩ := nrmL_ok M ss h3 K' k2
   have both : (∀ q ∈ K1, ∃ c, h q = some c) → (∀ q ∈ K2, ∃ c, h q = some c) → ∀ q ∈ K1 ++ K2, ∃ c, h q = some c := fun a b q hq => by
    rcases List.mem_append.1 hq with hq | hq
    ·exact a q hq
    ·exact b q hq
   refine ⟨fun {vs} hl => ?_, fun {vs} hl => ?_⟩
   ·cases hl with
    | one _ v _ us a1 a2 a3 a4 =>
     obtain ⟨g1, g2, g3⟩ := nrm_ok M s h1 a3 K' k1
     obtain ⟨g4, g5⟩ := ihL a4
     exact ⟨.one _ _ _ _ (by rw [g2]; exact a1) a2 g1 g4, both g3 g5⟩
    | arr t n xs us _ us' a1 a2 a3 =>
     obtain ⟨g1, g2, g3⟩ := nrm_ok M s h1 (.arr t n xs us a1 a2) K' k1
     obtain ⟨g4, g5⟩ := ihL a3
     refine ⟨?_, both g3 g5⟩
     cases y with
     | arr t' n' xs' =>
      cases g1 with
      | arr _ _ _ vs' f1 f2 => exact .arr _ _ _ _ _ _ f1 f2 g4
     | _ => simp [SVal.isArr] at g2
   ·cases hl with
    | cons _ v _ us a1 a2 =>
     obtain ⟨g1, g2, g3⟩ := nrm_ok M s h1 a1 K' k1
     obtain ⟨g4, g5⟩ := ihA a2
     exact ⟨.cons _ _ _ _ g1 g4, both g3 g5⟩
end
theorem Mem.freeze (M : Mem C gl W R ρ h) {K : List Nat} (hK : ∀ q ∈ K, ∃ c, h q = some c) : Mem C gl W (RK K ρ R) ρ (without h K) := by
 have wo : ∀ {n c}, without h K n = some c → h n = some c ∧ n ∉ K := fun {n c} hc => by
  unfold without at hc
  split at hc
  ·cases hc
  ·rename_i hm; exact ⟨hc, fun hn => by rw [memN_iff.2 hn] at hm; cases hm⟩
 refine ⟨M.base.mono (fun _ h => .inl h) (fun b hb => ?_) fun _ _ => rfl, fun r c hc => ?_, fun r r' c c' v v' b k1 k2 k3 k4 k5 k6 => M.apart r r' c c' v v' b (wo k1).1 (wo k2).1 k3 k4 k5 k6, fun r c v b k1 k2 k3 k4 => ?_⟩
 ·rcases hb with hb | ⟨q, v, h1, h2, h3⟩
  ·exact M.base.inR b hb
  ·obtain ⟨c, hc⟩ := hK q h1
   obtain ⟨v', hv', hh⟩ := M.at_ q c hc
   rw [h2] at hv'; cases hv'
   exact hh.lt h3
 ·obtain ⟨v, hv, hh⟩ := M.at_ r c (wo hc).1
  exact ⟨v, hv, hh.mono (fun _ h => .inl h) (fun _ _ => rfl) (fun _ _ h => h) fun _ _ => rfl⟩
 ·rcases k4 with hb | ⟨q, v', h1, h2, h3⟩
  ·exact M.off r c v b (wo k1).1 k2 k3 hb
  ·obtain ⟨c', hc'⟩ := hK q h1
   have := M.apart q r c' c v' v b hc' (wo k1).1 h2 k2 h3 k3
   subst this
   exact (wo k1).2 h1
def gone : List Nat → List (Nat × Option Cont)
 | [] => []
 | q :: l => (q, none) :: gone l
theorem gone_find {K : List Nat} {n : Nat} {c : Option Cont} (h : find n (gone K) = some c) : n ∈ K ∧ c = none := by
 induction K with
 | nil => cases h
 | cons q K ih =>
  simp only [gone, find] at h
  split at h
  ·rename_i hb; cases h; exact ⟨by rw [Nat.eq_of_beq_eq_true hb]; exact List.mem_cons_self .., rfl⟩
  ·exact ⟨List.mem_cons_of_mem _ (ih h).1, (ih h).2⟩
theorem gone_none {K : List Nat} {n : Nat} (h : find n (gone K) = none) : n ∉ K := by
 induction K with
 | nil => simp
 | cons q K ih =>
  simp only [gone, find] at h
  split at h
  ·cases h
  ·rename_i hb
   intro hm
   rcases List.mem_cons.1 hm with rfl | hm
   ·rw [Nat.beq_refl] at hb; cases hb
   ·exact ih h hm
theorem gone_keys {K : List Nat} {n : Nat} : n ∈ keys (gone K) ↔ n ∈ K := by
 induction K with
 | nil => simp [gone, keys]
 | cons q K ih => simp only [gone, keys, List.map_cons, List.mem_cons] at ih ⊢; rw [ih]
theorem Trans.thaw (M : Mem C gl W R ρ h) {K : List Nat} (hK : ∀ q ∈ K, ∃ c, h q = some c) {ws : List (Nat × Option Cont)} (T : Trans C gl W (RK K ρ R) ρ (without h K) ws W' R' ρ') : Trans C gl W R ρ h (gone K ++ ws) W' R' ρ' := by
 have kk : ∀ n, n ∈ keys (gone K ++ ws) ↔ n ∈ K ∨ n ∈ keys ws := fun n => by
  have := gone_keys (K := K) (n := n)
  simp only [keys, List.map_append, List.mem_append] at this ⊢
  rw [this]
 have wo : ∀ {n c}, without h K n = some c → h n = some c := fun {n c} hc => by
  unfold without at hc
  split at hc
  ·cases hc
  ·exact hc
 have up : ∀ r c, upd h (gone K ++ ws) r = some c → upd (without h K) ws r = some c := fun r c hc => by
  unfold upd at hc ⊢
  rw [find_append] at hc
  cases hf : find r (gone K) with
  | some c' => rw [hf] at hc; have := (gone_find hf).2; subst this; cases hc
  | none =>
   rw [hf] at hc
   simp only at hc
   cases hf2 : find r ws with
   | some c' => rw [hf2] at hc; exact hc
   | none =>
    rw [hf2] at hc
    show without h K r = some c
    unfold without
    have : memN r K = false := by
     cases hm : memN r K with
     | false => rfl
     | true => exact (gone_none hf (memN_iff.1 hm)).elim
    rw [this]; exact hc
 refine ⟨T.mem.weaken up, T.os, T.tape, T.output, T.size, fun b hb => T.Rm b (.inl hb), fun b hb => ?_, T.ρm, fun r v hv => (T.ρn r v hv).imp id fun ⟨h1, h2⟩ => ⟨h1, (kk r).2 (.inr h2)⟩, fun k hk hx => ?_, fun r c v b k1 k2 k3 => ?_⟩
 ·rcases T.Rn b hb with (hb | ⟨q, v, h1, h2, h3⟩) | hb | ⟨r, c, v, h1, h2, h3, h4⟩
  ·exact .inl hb
  ·obtain ⟨c, hc⟩ := hK q h1
   exact .inr (.inr ⟨q, c, v, (kk q).2 (.inl h1), hc, h2, h3⟩)
  ·exact .inr (.inl hb)
  ·exact .inr (.inr ⟨r, c, v, (kk r).2 (.inr h1), wo h2, h3, h4⟩)
 ·exact T.keep k hk fun r c v h1 h2 h3 => hx r c v ((kk r).2 (.inr h1)) (wo h2) h3
 ·rcases T.owned r c v b (up r c k1) k2 k3 with ⟨r0, c0, v0, h1, h2, h3, h4⟩ | h1
  ·exact .inl ⟨r0, c0, v0, h1.imp id fun h1 => (kk r0).2 (.inr h1), wo h2, h3, h4⟩
  ·exact .inr h1
def frz (ss : List Shp) (k : List SVal → Nat → Acc ORes) : List SVal → Nat → Acc ORes := fun a n =>
 nrmL ss a >>= fun p => hide p.2 (k p.1 n) >>= fun r => .ret { r with ws := gone p.2 ++ r.ws }
def pureR : RT → Bool
 | .err | .slc _ | .obj | .fmap _ _ => false
 | _ => true
mutual
def pureV : SVal → Bool
 | .int .. | .bool _ | .str _ | .nilptr | .nilslice | .nilIface | .nilFunc => true
 | .arr t _ _ => pureR t
 | .agg l => pureL l
 | .tuple l => pureL l
 | _ => false
def pureL : List SVal → Bool
 | [] => true
 | s :: l => pureV s && pureL l
end
def bor (ss : List Shp) (k : List SVal → Nat → Acc ORes) : List SVal → Nat → Acc ORes := fun a n =>
 nrmL ss a >>= fun p => hide p.2 (k p.1 n) >>= fun r => match r.ws, r.k.beq 0 && pureV r.v with
  | [], true => .ret r
  | _, _ => .fail "lent"
theorem pureL_app : ∀ {l l' : List SVal}, pureL l = true → pureL l' = true → pureL (l ++ l') = true
 | [], l', _, h' => h'
 | s :: l, l', h, h' => by
  unfold pureL at h
  rw [Bool.and_eq_true] at h
  show pureL (s :: (l ++ l')) = true
  unfold pureL
  rw [Bool.and_eq_true]
  exact ⟨h.1, pureL_app h.2 h'⟩
theorem FK.enc_pure (k : FK) (x : k.ty) : pureV (k.enc x) = true := by cases k <;> (unfold FK.enc pureV; rfl)
theorem encRec_pure : ∀ (k : FK) (ks : List FK) (x : recTy k ks), pureL (encRec k ks x) = true
 | k, [], x => by unfold encRec pureL pureL; rw [k.enc_pure x]; rfl
 | k, k' :: ks, x => by unfold encRec pureL; rw [k.enc_pure x.1, encRec_pure k' ks x.2]; rfl
theorem enc_pure {t : RT} (ht : pureR t = true) (x : t.ty) : pureL (t.enc x) = true := by
 cases t <;> first | (cases ht; done) | exact encRec_pure _ _ _ | simp [RT.enc, In5.enc, pureL, pureV]
theorem flat_pure {t : RT} (ht : pureR t = true) : ∀ l : List t.ty, pureL (l.flatMap t.enc) = true
 | [] => by unfold List.flatMap; simp [pureL]
 | x :: l => by rw [List.flatMap_cons]; exact pureL_app (enc_pure ht x) (flat_pure ht l)
mutual
theorem pureV_ok {ρ ρ' : Nat → Option Value} : ∀ {s : SVal} {v : Value}, Den C W R ρ s v → pureV s = true → Den C W' R' ρ' s v
 | _, _, .int k n h, _ => .int k n h
 | _, _, .bool b, _ => .bool b
 | _, _, .str s h, _ => .str s h
 | _, _, .nilptr, _ => .nilptr
 | _, _, .nilslice, _ => .nilslice
 | _, _, .nilFunc, _ => .nilFunc
 | _, _, .nilIface, _ => .nilIface
 | _, _, .agg l vs h, hp => .agg l vs (pureL_ok h (by unfold pureV at hp; exact hp))
 | _, _, .arr t n xs vs h1 h2, hp => .arr t n xs vs h1 (pureL_ok h2 (flat_pure (by unfold pureV at hp; exact hp) xs))
 | _, _, .tuple l vs h, hp => .tuple l vs (pureA_ok h (by unfold pureV at hp; exact hp))
 | _, _, .any v, hp => (by unfold pureV at hp; cases hp)
 | _, _, .ptr r off b h, hp => (by unfold pureV at hp; cases hp)
 | _, _, .eptr r w i j b n cap h h1 h2, hp => (by unfold pureV at hp; cases hp)
 | _, _, .aptr r off w n i j b h h1 h2, hp => (by unfold pureV at hp; cases hp)
 | _, _, .rop l vs b off h1 h2 h3, hp => (by unfold pureV at hp; cases hp)
 | _, _, .ropT l vs b off h1 h2 h3, hp => (by unfold pureV at hp; cases hp)
 | _, _, .ropF l, hp => (by unfold pureV at hp; cases hp)
 | _, _, .own r A n cap h, hp => (by unfold pureV at hp; cases hp)
 | _, _, .view t r k n A A' m cap cap' h h1 h2 h3 h4 h5, hp => (by unfold pureV at hp; cases hp)
 | _, _, .ro t l A cap vs h1 h2 h3 h4 h5, hp => (by unfold pureV at hp; cases hp)
 | _, _, .roN t l A cap vs h1 h2 h3 h4, hp => (by unfold pureV at hp; cases hp)
 | _, _, .nilmap, hp => (by unfold pureV at hp; cases hp)
 | _, _, .map r b h, hp => (by unfold pureV at hp; cases hp)
 | _, _, .func f l vs h, hp => (by unfold pureV at hp; cases hp)
 | _, _, .bound f l vs h, hp => (by unfold pureV at hp; cases hp)
 | _, _, .iface t s v h, hp => (by unfold pureV at hp; cases hp)
 | _, _, .fine, hp => (by unfold pureV at hp; cases hp)
 | _, _, .bare n h, hp => (by unfold pureV at hp; cases hp)
 | _, _, .placed n p b off h1 h2 h3 h4 h5, hp => (by unfold pureV at hp; cases hp)
 | _, _, .atp n p b off h1 h2 h3 h4 h5, hp => (by unfold pureV at hp; cases hp)
 | _, _, .atnil e h, hp => (by unfold pureV at hp; cases hp)
theorem pureL_ok {ρ ρ' : Nat → Option Value} : ∀ {l : List SVal} {vs : List Value}, DenL C W R ρ l vs → pureL l = true → DenL C W' R' ρ' l vs
 | _, _, .nil, _ => .nil
 | _, _, .one s v l vs h1 h2 h3 h4, hp => by
  unfold pureL at hp
  rw [Bool.and_eq_true] at hp
  exact .one s v l vs h1 h2 (pureV_ok h3 hp.1) (pureL_ok h4 hp.2)
 | _, _, .arr t n xs us l vs h1 h2 h3, hp => by
  unfold pureL at hp
  rw [Bool.and_eq_true] at hp
  exact .arr t n xs us l vs h1 (pureL_ok h2 (flat_pure (by have := hp.1; unfold pureV at this; exact this) xs)) (pureL_ok h3 hp.2)
theorem pureA_ok {ρ ρ' : Nat → Option Value} : ∀ {l : List SVal} {vs : List Value}, DenA C W R ρ l vs → pureL l = true → DenA C W' R' ρ' l vs
 | _, _, .nil, _ => .nil
 | _, _, .cons s v l vs h1 h2, hp => by
  unfold pureL at hp
  rw [Bool.and_eq_true] at hp
  exact .cons s v l vs (pureV_ok h1 hp.1) (pureA_ok h2 hp.2)
end
theorem frz_ok {P : Program} {f : Nat} {k : List SVal → Nat → Acc ORes} (K : ConOk P C gl f k) (ss : List Shp) : ConOk P C gl f (frz ss k) where
 call := K.call
 does {W R ρ h args vs next r l l'} M hA hr hv hn := by
  unfold frz at hr
  obtain ⟨⟨a', N⟩, l1, h1, h2⟩ := Acc.bind_ok hr
  obtain ⟨r0, l2, h3, h4⟩ := Acc.bind_ok h2
  simp only [Acc.run, Except.ok.injEq, Prod.mk.injEq] at h4
  obtain ⟨rfl, _⟩ := h4
  obtain ⟨hA', hN⟩ := (nrmL_ok M ss h1 N (fun _ h => h)).2 hA
  obtain ⟨l3, h5⟩ := hide_ok h3 []
  refine (K.does (M.freeze hN) hA' h5 hv hn).mono fun e W' ⟨v, R', ρ', e1, T, d⟩ => ⟨v, R', ρ', e1, T.thaw M hN, d⟩
theorem bor_ok {P : Program} {f : Nat} {k : List SVal → Nat → Acc ORes} (K : ConOk P C gl f k) (ss : List Shp) : ConOk P C gl f (bor ss k) where
 call := K.call
 does {W R ρ h args vs next r l l'} M hA hr hv hn := by
  unfold bor at hr
  obtain ⟨⟨a', N⟩, l1, h1, h2⟩ := Acc.bind_ok hr
  obtain ⟨r0, l2, h3, h4⟩ := Acc.bind_ok h2
  split at h4
  ·rename_i hws hp
   simp only [Acc.run, Except.ok.injEq, Prod.mk.injEq] at h4
   obtain ⟨rfl, _⟩ := h4
   rw [Bool.and_eq_true] at hp
   obtain ⟨hA', hN⟩ := (nrmL_ok M ss h1 N (fun _ h => h)).2 hA
   obtain ⟨l3, h5⟩ := hide_ok h3 []
   refine (K.does (M.freeze hN) hA' h5 hv hn).mono fun e W' ⟨v, R', ρ', e1, T, d⟩ => ⟨v, R, ρ, e1, ?_, pureV_ok d hp.2⟩
   rw [hws]
   refine Trans.gen M T.os T.tape T.output T.size (fun _ _ h => h) (fun _ _ h => .inl h) (fun k hk hx => T.keep k hk fun r c v h1 => by rw [hws] at h1; cases h1) (fun _ r c hf => by cases hf) (fun r r' c c' hf => by cases hf)
  ·simp [Acc.run] at h4
end
end Go.Sy

set_option linter.unusedVariables false
set_option linter.unusedSimpArgs false
namespace Go.Sy
open Go.RowKit
mutual
def rnV (f : Nat → Nat) : SVal → SVal
 | .ptr r off => .ptr (f r) off
 | .eptr r w i j => .eptr (f r) w i j
 | .aptr r off w n i j => .aptr (f r) off w n i j
 | .rop l => .rop (rnL f l)
 | .ropO c l => .ropO c (rnL f l)
 | .own r => .own (f r)
 | .view t r k n => .view t (f r) k n
 | .map r => .map (f r)
 | .func g l => .func g (rnL f l)
 | .bound g l => .bound g (rnL f l)
 | .iface t v => .iface t (rnV f v)
 | .agg l => .agg (rnL f l)
 | .tuple l => .tuple (rnL f l)
 | v => v
def rnL (f : Nat → Nat) : List SVal → List SVal
 | [] => []
 | a :: l => rnV f a :: rnL f l
end
def rnC (f : Nat → Nat) : Cont → Cont
 | .cells l => .cells (rnL f l)
 | .row w l => .row w (rnL f l)
 | .opn k t l i v => .opn k t l i (rnV f v)
 | c => c
def rnH (f : Nat → Nat) : List (Nat × Cont) → List (Nat × Option Cont)
 | [] => []
 | (n, c) :: l => (f n, some (rnC f c)) :: rnH f l
def fN : List Nat → Nat → Nat → Nat
 | [], next, i => Nat.add next i
 | q :: _, _, 0 => q
 | _ :: l, next, i + 1 => fN l next i
def genR (kept : List Nat) (fz : List (Nat × Option Cont)) (next : Nat) (v : SVal) (hp : List (Nat × Cont)) (k : Nat) (vc : Option Prop := none) : ORes :=
 { v := rnV (fN kept next) v, ws := fz ++ rnH (fN kept next) hp, k := k, vc := vc }
section
variable {C : Ctx} {gl : List (Nat × SVal)} {W : World} {R : Nat → Prop} {ρ ρ' : Nat → Option Value} {f : Nat → Nat}
theorem rnV_arr (s : SVal) : (rnV f s).isArr = s.isArr := by cases s <;> (unfold rnV; rfl)
mutual
theorem Den.rn (hρ : ∀ r v, ρ r = some v → ρ' (f r) = some v) : ∀ {s v}, Den C W R ρ s v → Den C W R ρ' (rnV f s) v
 | _, _, .any v => by unfold rnV; exact .any v
 | _, _, .int k n h => by unfold rnV; exact .int k n h
 | _, _, .bool b => by unfold rnV; exact .bool b
 | _, _, .str s h => by unfold rnV; exact .str s h
 | _, _, .nilptr => by unfold rnV; exact .nilptr
 | _, _, .ptr r off b h => by unfold rnV; exact .ptr _ off b (hρ _ _ h)
 | _, _, .eptr r w i j b n cap h h1 h2 => by unfold rnV; exact .eptr _ w i j b n cap (hρ _ _ h) h1 h2
 | _, _, .aptr r off w n i j b h h1 h2 => by unfold rnV; exact .aptr _ off w n i j b (hρ _ _ h) h1 h2
 | _, _, .rop l vs b off h1 h2 h3 => by unfold rnV; exact .rop _ vs b off h1 (DenL.rn hρ h2) h3
 | _, _, .nilslice => by unfold rnV; exact .nilslice
 | _, _, .own r A n cap h => by unfold rnV; exact .own _ A n cap (hρ _ _ h)
 | _, _, .view t r k n A A' m cap cap' h h1 h2 h3 h4 h5 => by unfold rnV; exact .view t _ k n A A' m cap cap' (hρ _ _ h) h1 h2 h3 h4 h5
 | _, _, .ro t l A cap vs h1 h2 h3 h4 h5 => by unfold rnV; exact .ro t l A cap vs h1 h2 (h3.free (fun _ h => h) (flat_plain t l)) h4 h5
 | _, _, .roN t l A cap vs h1 h2 h3 h4 => by unfold rnV; exact .roN t l A cap vs h1 h2 (h3.free (fun _ h => h) (flat_plain t l)) h4
 | _, _, .nilmap => by unfold rnV; exact .nilmap
 | _, _, .map r b h => by unfold rnV; exact .map _ b (hρ _ _ h)
 | _, _, .ropT l vs b off h1 h2 h3 => by unfold rnV; exact .ropT _ vs b off h1 (DenL.rn hρ h2) h3
 | _, _, .ropF l => by unfold rnV; exact .ropF _
 | _, _, .romN k t => by unfold rnV; exact .romN k t
 | _, _, .rom k t m b es cl h1 h2 h3 h4 => by unfold rnV; exact .rom k t m b es cl h1 h2 h3 (h4.free (fun _ h => h) (recVs_plain t m))
 | _, _, .nilFunc => by unfold rnV; exact .nilFunc
 | _, _, .func f l vs h => by unfold rnV; exact .func f _ vs (DenA.rn hρ h)
 | _, _, .bound f l vs h => by unfold rnV; exact .bound f _ vs (DenA.rn hρ h)
 | _, _, .nilIface => by unfold rnV; exact .nilIface
 | _, _, .iface t s v h => by unfold rnV; exact .iface t _ v (Den.rn hρ h)
 | _, _, .fine => by unfold rnV; exact .fine
 | _, _, .bare n h => by unfold rnV; exact .bare n h
 | _, _, .placed n p b off h1 h2 h3 h4 h5 => by unfold rnV; exact .placed n p b off h1 h2 h3 h4 h5
 | _, _, .atp n p b off h1 h2 h3 h4 h5 => by unfold rnV; exact .atp n p b off h1 h2 h3 h4 h5
 | _, _, .atnil e h => by unfold rnV; exact .atnil e h
 | _, _, .agg l vs h => by unfold rnV; exact .agg _ vs (DenL.rn hρ h)
 | _, _, .arr t n xs vs h1 h2 => by unfold rnV; exact .arr t n xs vs h1 (h2.free (fun _ h => h) (flat_plain t xs))
 | _, _, .tuple l vs h => by unfold rnV; exact .tuple _ vs (DenA.rn hρ h)
theorem DenL.rn (hρ : ∀ r v, ρ r = some v → ρ' (f r) = some v) : ∀ {l vs}, DenL C W R ρ l vs → DenL C W R ρ' (rnL f l) vs
 | _, _, .nil => by unfold rnL; exact .nil
 | _, _, .one s v l vs h1 h2 h3 h4 => by unfold rnL; exact .one _ v _ vs (by rw [rnV_arr]; exact h1) h2 (Den.rn hρ h3) (DenL.rn hρ h4)
 | _, _, .arr t n xs us l vs h1 h2 h3 => by
  unfold rnL
  have : rnV f (.arr t n xs) = .arr t n xs := by unfold rnV; rfl
  rw [this]; exact .arr t n xs us _ vs h1 (h2.free (fun _ h => h) (flat_plain t xs)) (DenL.rn hρ h3)
theorem DenA.rn (hρ : ∀ r v, ρ r = some v → ρ' (f r) = some v) : ∀ {l vs}, DenA C W R ρ l vs → DenA C W R ρ' (rnL f l) vs
 | _, _, .nil => by unfold rnL; exact .nil
 | _, _, .cons s v l vs h1 h2 => by unfold rnL; exact .cons _ v _ vs (Den.rn hρ h1) (DenA.rn hρ h2)
end
theorem HoldC.rn (hρ : ∀ r v, ρ r = some v → ρ' (f r) = some v) {v : Value} {c : Cont} (h : HoldC C W R ρ v c) : HoldC C W R ρ' v (rnC f c) := by
 cases c with
 | cells l => obtain ⟨b, vs, T, rfl, hh, hl⟩ := h; exact ⟨b, vs, T, rfl, hh, hl.rn hρ⟩
 | recs t l => obtain ⟨e, vs, ho, hl⟩ := h; exact ⟨e, vs, ho, hl.free (fun _ h => h) (flat_plain t l)⟩
 | row w l => obtain ⟨e, vs, n, ho, hl, h0⟩ := h; exact ⟨e, vs, n, ho, hl.rn hρ, h0⟩
 | strMap m => exact h
 | intMap m => exact h
 | gmap k t m => obtain ⟨b, es, cl, rfl, hh, hk, hx⟩ := h; exact ⟨b, es, cl, rfl, hh, hk, hx.free (fun _ h => h) (recVs_plain t m)⟩
 | opn k t l i x => obtain ⟨e, vs, ho, hd, hi, hx⟩ := h; exact ⟨e, vs, ho, DenL.set_free (fun _ h => h) hx (by rw [rnV_arr]; exact hx) (fun u hu => hu.rn hρ) (rom_plain _ _ l) hd, hi, by rw [rnV_arr]; exact hx⟩
theorem rnH_mem {hp : List (Nat × Cont)} {n : Nat} {c : Option Cont} (h : find n (rnH f hp) = some c) : ∃ q c0, n = f q ∧ (q, c0) ∈ hp ∧ c = some (rnC f c0) := by
 induction hp with
 | nil => cases h
 | cons p hp ih =>
  obtain ⟨m, c0⟩ := p
  simp only [rnH, find] at h
  split at h
  ·rename_i hb
   cases h
   exact ⟨m, c0, (Nat.eq_of_beq_eq_true hb).symm, List.mem_cons_self .., rfl⟩
  ·obtain ⟨q, c1, h1, h2, h3⟩ := ih h
   exact ⟨q, c1, h1, List.mem_cons_of_mem _ h2, h3⟩
theorem rnH_key {hp : List (Nat × Cont)} {q : Nat} (h : q ∈ keysH hp) : f q ∈ keys (rnH f hp) := by
 induction hp with
 | nil => cases h
 | cons p hp ih =>
  obtain ⟨m, c0⟩ := p
  simp only [rnH, keys, List.map_cons, List.mem_cons, keysH] at h ⊢
  rcases h with rfl | h
  ·exact .inl rfl
  ·exact .inr (ih h)
theorem keysH_of {hp : List (Nat × Cont)} {q : Nat} {c : Cont} (h : (q, c) ∈ hp) : q ∈ keysH hp := by
 induction hp with
 | nil => cases h
 | cons p hp ih =>
  obtain ⟨m, c0⟩ := p
  simp only [keysH, List.mem_cons] at h ⊢
  rcases h with h | h
  ·cases h; exact .inl rfl
  ·exact .inr (ih h)
theorem optH_find {hp : List (Nat × Cont)} (hn : nodupB (keysH hp) = true) {q : Nat} {c : Cont} (h : (q, c) ∈ hp) : find q (optH hp) = some (some c) := by
 induction hp with
 | nil => cases h
 | cons p hp ih =>
  obtain ⟨m, c0⟩ := p
  simp only [optH, find]
  simp only [keysH, nodupB] at hn
  split at hn
  ·cases hn
  ·rename_i hm
   rcases List.mem_cons.1 h with h | h
   ·cases h; rw [Nat.beq_refl]
   ·have : m.beq q = false := by
     cases hb : m.beq q with
     | false => rfl
     | true =>
      have := Nat.eq_of_beq_eq_true hb; subst this
      rw [memN_iff.2 (keysH_of h)] at hm; cases hm
    rw [this]; exact ih hn h
def tauG (f : Nat → Nat) : List Nat → List (Nat × Nat)
 | [] => []
 | q :: l => (f q, q) :: tauG f l
theorem tauG_find {l : List Nat} {n q : Nat} (h : find n (tauG f l) = some q) : n = f q ∧ q ∈ l := by
 induction l with
 | nil => cases h
 | cons m l ih =>
  simp only [tauG, find] at h
  split at h
  ·rename_i hb; cases h; exact ⟨(Nat.eq_of_beq_eq_true hb).symm, List.mem_cons_self ..⟩
  ·exact ⟨(ih h).1, List.mem_cons_of_mem _ (ih h).2⟩
theorem tauG_has {l : List Nat} {q : Nat} (h : q ∈ l) (hi : ∀ m ∈ l, f m = f q → m = q) : find (f q) (tauG f l) = some q := by
 induction l with
 | nil => cases h
 | cons m l ih =>
  simp only [tauG, find]
  cases hb : Nat.beq (f m) (f q) with
  | true => rw [hi m (List.mem_cons_self ..) (Nat.eq_of_beq_eq_true hb)]
  | false =>
   rcases List.mem_cons.1 h with e | h
   ·subst e; rw [Nat.beq_refl] at hb; cases hb
   ·exact ih h fun m hm => hi m (List.mem_cons_of_mem _ hm)
theorem tauG_snd (l : List Nat) : sndN (tauG f l) = l := by
 induction l with
 | nil => rfl
 | cons m l ih => simp only [tauG, sndN, ih]
theorem fN_lt : ∀ {kept : List Nat} {next i : Nat}, i < kept.length → ∃ q, kept[i]? = some q ∧ fN kept next i = q
 | [], _, _, h => by cases h
 | q :: l, next, 0, _ => ⟨q, rfl, rfl⟩
 | q :: l, next, i + 1, h => by
  obtain ⟨q', h1, h2⟩ := fN_lt (kept := l) (next := next) (i := i) (by simpa using h)
  exact ⟨q', by simpa using h1, h2⟩
theorem fN_ge : ∀ {kept : List Nat} {next i : Nat}, kept.length ≤ i → fN kept next i = next + (i - kept.length)
 | [], next, i, _ => by simp [fN]
 | q :: l, next, 0, h => by simp at h
 | q :: l, next, i + 1, h => by
  simp only [fN]
  rw [fN_ge (by simpa using h)]
  simp
def ltB (r m : Nat) : Bool := Nat.ble (r + 1) m
mutual
def okV (m : Nat) : SVal → Bool
 | .ptr r _ => ltB r m
 | .eptr r _ _ _ => ltB r m
 | .aptr r _ _ _ _ _ => ltB r m
 | .rop l => okL m l
 | .ropO _ l => okL m l
 | .own r => ltB r m
 | .view _ r _ _ => ltB r m
 | .map r => ltB r m
 | .func _ l => okL m l
 | .bound _ l => okL m l
 | .iface _ v => okV m v
 | .agg l => okL m l
 | .tuple l => okL m l
 | _ => true
def okL (m : Nat) : List SVal → Bool
 | [] => true
 | a :: l => okV m a && okL m l
end
def okC (m : Nat) : Cont → Bool
 | .cells l => okL m l
 | .row _ l => okL m l
 | .opn _ _ _ _ v => okV m v
 | _ => true
theorem ltB_ok {r m : Nat} (h : ltB r m = true) : r < m := Nat.le_of_ble_eq_true h
mutual
theorem Den.unrn {m : Nat} (hρ : ∀ r v, r < m → ρ (f r) = some v → ρ' r = some v) : ∀ (s : SVal) {v : Value}, okV m s = true → Den C W R ρ (rnV f s) v → Den C W R ρ' s v
 | .ptr r off, v, ho, h => by unfold rnV at h; unfold okV at ho; cases h with | ptr _ _ b h => exact .ptr r off b (hρ _ _ (ltB_ok ho) h)
 | .eptr r w i j, v, ho, h => by unfold rnV at h; unfold okV at ho; cases h with | eptr _ _ _ _ b n cap h h1 h2 => exact .eptr r w i j b n cap (hρ _ _ (ltB_ok ho) h) h1 h2
 | .aptr r off w n i j, v, ho, h => by unfold rnV at h; unfold okV at ho; cases h with | aptr _ _ _ _ _ _ b h h1 h2 => exact .aptr r off w n i j b (hρ _ _ (ltB_ok ho) h) h1 h2
 | .ropO c l, v, ho, h => by
  unfold rnV at h; unfold okV at ho
  generalize hx : SVal.ropO c (rnL f l) = x at h
  cases h with
  | ropT _ vs b off h1 h2 h3 => cases hx; exact .ropT l vs b off h1 (DenL.unrn hρ l ho h2) h3
  | ropF _ => cases hx; exact .ropF l
  | _ => cases hx
 | .rop l, v, ho, h => by unfold rnV at h; unfold okV at ho; cases h with | rop _ vs b off h1 h2 h3 => exact .rop l vs b off h1 (DenL.unrn hρ l ho h2) h3
 | .own r, v, ho, h => by unfold rnV at h; unfold okV at ho; cases h with | own _ A n cap h => exact .own r A n cap (hρ _ _ (ltB_ok ho) h)
 | .view t r k n, v, ho, h => by unfold rnV at h; unfold okV at ho; cases h with | view _ _ _ _ A A' m cap cap' h h1 h2 h3 h4 h5 => exact .view t r k n A A' m cap cap' (hρ _ _ (ltB_ok ho) h) h1 h2 h3 h4 h5
 | .map r, v, ho, h => by unfold rnV at h; unfold okV at ho; cases h with | map _ b h => exact .map r b (hρ _ _ (ltB_ok ho) h)
 | .func g l, v, ho, h => by unfold rnV at h; unfold okV at ho; cases h with | func _ _ vs h => exact .func g l vs (DenA.unrn hρ l ho h)
 | .bound g l, v, ho, h => by unfold rnV at h; unfold okV at ho; cases h with | bound _ _ vs h => exact .bound g l vs (DenA.unrn hρ l ho h)
 | .iface t s, v, ho, h => by unfold rnV at h; unfold okV at ho; cases h with | iface _ _ v h => exact .iface t s v (Den.unrn hρ s ho h)
 | .agg l, v, ho, h => by unfold rnV at h; unfold okV at ho; cases h with | agg _ vs h => exact .agg l vs (DenL.unrn hρ l ho h)
 | .tuple l, v, ho, h => by unfold rnV at h; unfold okV at ho; cases h with | tuple _ vs h => exact .tuple l vs (DenA.unrn hρ l ho h)
 | .any, v, _, h => .any v
 | .int k n, v, _, h => by unfold rnV at h; exact h.free (fun _ h => h) rfl
 | .bool b, v, _, h => by unfold rnV at h; exact h.free (fun _ h => h) rfl
 | .str s, v, _, h => by unfold rnV at h; exact h.free (fun _ h => h) rfl
 | .err e, v, _, h => by unfold rnV at h; exact h.free (fun _ h => h) rfl
 | .nilptr, v, _, h => by unfold rnV at h; cases h; exact .nilptr
 | .nilslice, v, _, h => by unfold rnV at h; cases h; exact .nilslice
 | .nilmap, v, _, h => by unfold rnV at h; cases h; exact .nilmap
 | .nilFunc, v, _, h => by unfold rnV at h; cases h; exact .nilFunc
 | .nilIface, v, _, h => by unfold rnV at h; cases h; exact .nilIface
 | .rom k t m, v, _, h => by unfold rnV at h; exact h.free (fun _ h => h) rfl
 | .ro t l, v, _, h => by unfold rnV at h; cases h with | ro _ _ A cap vs h1 h2 h3 h4 h5 => exact .ro t l A cap vs h1 h2 (h3.free (fun _ h => h) (flat_plain t l)) h4 h5
 | .roN t l, v, _, h => by unfold rnV at h; cases h with | roN _ _ a cap vs h1 h2 h3 h4 => exact .roN t l a cap vs h1 h2 (h3.free (fun _ h => h) (flat_plain t l)) h4
 | .atp e, v, _, h => by
  unfold rnV at h
  cases h with
  | atp n p b off h1 h2 h3 h4 h5 => exact .atp n p b off h1 h2 h3 h4 h5
  | atnil _ h => exact .atnil _ h
 | .arr t n xs, v, _, h => by unfold rnV at h; cases h with | arr _ _ _ vs h1 h2 => exact .arr t n xs vs h1 (h2.free (fun _ h => h) (flat_plain t xs))
theorem DenL.unrn {m : Nat} (hρ : ∀ r v, r < m → ρ (f r) = some v → ρ' r = some v) : ∀ (l : List SVal) {vs : List Value}, okL m l = true → DenL C W R ρ (rnL f l) vs → DenL C W R ρ' l vs
 | [], vs, _, h => by unfold rnL at h; cases h; exact .nil
 | s :: l, vs, ho, h => by
  unfold rnL at h
  unfold okL at ho
  rw [Bool.and_eq_true] at ho
  cases ha : s.isArr with
  | false =>
   obtain ⟨v, us, rfl, h2, h3, h4⟩ := h.inv_one (by rw [rnV_arr]; exact ha)
   exact .one s v l us ha h2 (Den.unrn hρ s ho.1 h3) (DenL.unrn hρ l ho.2 h4)
  | true =>
   cases s <;> simp [SVal.isArr] at ha
   rename_i t n xs
   have e : rnV f (.arr t n xs) = .arr t n xs := by unfold rnV; rfl
   rw [e] at h
   cases h with
   | one _ _ _ _ h => cases h
   | arr _ _ _ us _ vs h1 h2 h3 => exact .arr t n xs us l vs h1 (h2.free (fun _ h => h) (flat_plain t xs)) (DenL.unrn hρ l ho.2 h3)
theorem DenA.unrn {m : Nat} (hρ : ∀ r v, r < m → ρ (f r) = some v → ρ' r = some v) : ∀ (l : List SVal) {vs : List Value}, okL m l = true → DenA C W R ρ (rnL f l) vs → DenA C W R ρ' l vs
 | [], vs, _, h => by unfold rnL at h; cases h; exact .nil
 | s :: l, vs, ho, h => by
  unfold rnL at h
  unfold okL at ho
  rw [Bool.and_eq_true] at ho
  cases h with
  | cons _ v _ us h1 h2 => exact .cons s v l us (Den.unrn hρ s ho.1 h1) (DenA.unrn hρ l ho.2 h2)
end
theorem HoldC.unrn {m : Nat} (hρ : ∀ r v, r < m → ρ (f r) = some v → ρ' r = some v) {v : Value} {c : Cont} (ho : okC m c = true) (h : HoldC C W R ρ v (rnC f c)) : HoldC C W R ρ' v c := by
 cases c with
 | cells l => obtain ⟨b, vs, T, rfl, hh, hl⟩ := h; exact ⟨b, vs, T, rfl, hh, DenL.unrn hρ l ho hl⟩
 | recs t l => obtain ⟨e, vs, ho, hl⟩ := h; exact ⟨e, vs, ho, hl.free (fun _ h => h) (flat_plain t l)⟩
 | row w l => obtain ⟨e, vs, n, ho', hl, h0⟩ := h; exact ⟨e, vs, n, ho', DenL.unrn hρ l ho hl, h0⟩
 | strMap m => exact h
 | intMap m => exact h
 | gmap k t m => obtain ⟨b, es, cl, rfl, hh, hk, hx⟩ := h; exact ⟨b, es, cl, rfl, hh, hk, hx.free (fun _ h => h) (recVs_plain t m)⟩
 | opn k t l i x => obtain ⟨e, vs, ho', hd, hi, hx⟩ := h; rw [rnV_arr] at hx; exact ⟨e, vs, ho', DenL.set_free (fun _ h => h) (by rw [rnV_arr]; exact hx) hx (fun u hu => Den.unrn hρ x ho hu) (rom_plain _ _ l) hd, hi, hx⟩
def gq (qs : List Nat) (i : Nat) : Nat := qs.getD i 0
def numC : Nat → List Cont → List (Nat × Option Cont)
 | _, [] => []
 | n, c :: l => (n, some c) :: numC (n + 1) l
theorem numC_find : ∀ {l : List Cont} {n d : Nat} {c : Option Cont}, find d (numC n l) = some c → n ≤ d ∧ ∃ c0, c = some c0 ∧ l[d - n]? = some c0 := by
 intro l
 induction l with
 | nil => intro n d c h; cases h
 | cons x l ih =>
  intro n d c h
  simp only [numC, find] at h
  split at h
  ·rename_i hb
   have := Nat.eq_of_beq_eq_true hb; subst this
   cases h; exact ⟨Nat.le_refl _, x, rfl, by simp⟩
  ·obtain ⟨h1, c0, h2, h3⟩ := ih h
   refine ⟨by omega, c0, h2, ?_⟩
   rw [show d - n = (d - (n + 1)) + 1 by omega]
   exact h3
theorem nodup_get : ∀ (L : List Nat), nodupB L = true → ∀ (i j q : Nat), L[i]? = some q → L[j]? = some q → i = j := by
 intro L
 induction L with
 | nil => intro _ i j q hi; simp at hi
 | cons m L ih =>
  intro hL i j q hi hj
  simp only [nodupB] at hL
  split at hL
  ·cases hL
  ·rename_i hm
   cases i <;> cases j
   ·rfl
   ·simp at hi hj; subst hi
    rw [memN_iff.2 (List.mem_of_getElem? hj)] at hm; cases hm
   ·simp at hi hj; subst hj
    rw [memN_iff.2 (List.mem_of_getElem? hi)] at hm; cases hm
   ·rename_i i j; rw [ih hL i j q (by simpa using hi) (by simpa using hj)]
theorem Enters.hand {h : Nat → Option Cont} (M : Mem C gl W R ρ h) {r : ORes} {qs : List Nat} {cs : List Cont} (hlen : cs.length = qs.length) (hnd : nodupB qs = true) (hc : ∀ (i q : Nat) (c : Cont), qs[i]? = some q → cs[i]? = some c → h q = some (rnC (gq qs) c))
  (hk : ∀ q ∈ qs, q ∈ keys r.ws) {args0 : List SVal} {vs : List Value} (hA : DenA C W R ρ (rnL (gq qs) args0) vs) (ho : okL qs.length args0 = true) (hoc : ∀ c ∈ cs, okC qs.length c = true) :
  Enters C gl W R ρ h r R (fun b => ∃ q v, q ∈ qs ∧ ρ q = some v ∧ blk v = some b) (fun i => (qs[i]?).bind ρ) (numC 0 cs) qs.length args0 vs := by
 have hρ : ∀ r v, r < qs.length → ρ (gq qs r) = some v → (fun i => (qs[i]?).bind ρ) r = some v := fun r v hr hv => by
  have e : qs[r]? = some (gq qs r) := by unfold gq; rw [List.getD_eq_getElem?_getD, List.getElem?_eq_getElem hr]; rfl
  simp only [e, Option.bind_some]; exact hv
 have known : ∀ i c, lookS (numC 0 cs) i = some c → ∃ q, qs[i]? = some q ∧ cs[i]? = some c ∧ h q = some (rnC (gq qs) c) := fun i c hi => by
  unfold lookS at hi
  cases hf : find i (numC 0 cs) with
  | none => rw [hf] at hi; cases hi
  | some c' =>
   rw [hf] at hi
   simp only [Option.getD_some] at hi
   obtain ⟨_, c0, e1, e2⟩ := numC_find hf
   rw [e1] at hi; cases hi
   rw [Nat.sub_zero] at e2
   have hlt : i < qs.length := by rw [← hlen]; exact (List.getElem?_eq_some_iff.1 e2).1
   exact ⟨qs[i], List.getElem?_eq_getElem hlt, e2, hc i _ _ (List.getElem?_eq_getElem hlt) e2⟩
 have named : ∀ {i q : Nat} {v : Value}, qs[i]? = some q → (qs[i]?).bind ρ = some v → ρ q = some v := fun {i q v} h1 h2 => by rw [h1] at h2; exact h2
 refine ⟨DenA.unrn hρ args0 ho hA, ⟨M.base, fun i c hi => ?_, fun i j c c' v v' b k1 k2 k3 k4 k5 k6 => ?_, fun i c v b k1 k2 k3 => ?_⟩, fun n hn => ?_, fun _ h => h, fun _ h => .inl h, fun b hb => ?_, fun b ⟨q, v, h1, h2, h3⟩ => ?_⟩
 ·obtain ⟨q, e1, e2, e3⟩ := known i c hi
  obtain ⟨v, hv, hh⟩ := M.at_ q _ e3
  exact ⟨v, by simp only [e1, Option.bind_some]; exact hv, HoldC.unrn hρ (hoc c (List.mem_of_getElem? e2)) hh⟩
 ·obtain ⟨q, e1, _, e3⟩ := known i c k1
  obtain ⟨q', e1', _, e3'⟩ := known j c' k2
  have := M.apart q q' _ _ v v' b e3 e3' (named e1 k3) (named e1' k4) k5 k6
  subst this
  exact nodup_get qs hnd i j q e1 e1'
 ·obtain ⟨q, e1, _, e3⟩ := known i c k1
  exact M.off q _ v b e3 (named e1 k2) k3
 ·simp [List.getElem?_eq_none hn]
 ·obtain ⟨i, c, v, k1, k2, k3⟩ := hb
  obtain ⟨q, e1, _, e3⟩ := known i c k1
  exact ⟨q, v, List.mem_of_getElem? e1, named e1 k2, k3⟩
 ·obtain ⟨i, hi⟩ := List.mem_iff_getElem?.1 h1
  have hlt : i < cs.length := by rw [hlen]; exact (List.getElem?_eq_some_iff.1 hi).1
  exact ⟨q, _, v, hk q h1, hc i q _ hi (List.getElem?_eq_getElem hlt), h2, h3⟩
def rangeN : Nat → Nat → List Nat
 | _, 0 => []
 | a, n + 1 => a :: rangeN (a + 1) n
theorem rangeN_mem {a n i : Nat} : i ∈ rangeN a n ↔ a ≤ i ∧ i < a + n := by
 induction n generalizing a with
 | zero => simp [rangeN]
 | succ n ih => simp only [rangeN, List.mem_cons, ih]; omega
theorem con_gen0 {P : Program} {E : Env} (EO : EnvOk P C gl E) (hdf : E.df = []) {g n : Nat} {h : Nat → Option Cont}
  (M : Mem C gl W R ρ h) {qs rest : List Nat} {kept : List Nat} {cs : List Cont} {args0 : List SVal} {vs : List Value} (hA : DenA C W R ρ (rnL (gq qs) args0) vs) {next : Nat} {r : ORes} {rv : SVal} {hp : List (Nat × Cont)} {k : Nat} {fz : List (Nat × Option Cont)} {s1 : SState}
  (hr : r.v = rnV (fN kept next) rv ∧ r.ws = fz ++ rnH (fN kept next) hp ∧ r.k = k) (hz : ∀ p ∈ fz, p.2 = none) (hn : ∀ j, j < r.k → ρ (next + j) = none)
  (hqs : qs = kept ++ rest) (hlen : cs.length = qs.length) (hnd : nodupB qs = true) (hc : ∀ (i q : Nat) (c : Cont), qs[i]? = some q → cs[i]? = some c → h q = some (rnC (gq qs) c))
  (hk : ∀ q ∈ qs, q ∈ keys r.ws) (ho : (okL qs.length args0 && cs.all (okC qs.length)) = true)
  (hold : E.old = rangeN 0 kept.length) (hlenA : Nat.ble args0.length n = true)
  (hfit : fits E { fr := numb 0 args0, hp := numC 0 cs, next := qs.length, sz := n } s1)
  (hm : (nodupB (keysH hp) && allLt (kept.length + k) (keysH hp) && boundIn (keysH hp) (kept.length + k)) = true)
  (hcall : ∀ (own0 : Nat → Prop) (ρ0 : Nat → Option Value) (R2 : Nat → Prop) (ρ2 : Nat → Option Value), Inv E C gl W R own0 ρ0 s1 ⟨vs.toArray ++ Array.replicate (n - vs.toArray.size) undef, []⟩ W R2 ρ2 → ∀ (Z : Ending → World → Prop),
   (∀ e s v W' R1 ρ1, newQ E rv hp (kept.length + k) e s → Inv E C gl W R own0 ρ0 s ⟨#[v], E.df⟩ W' R1 ρ1 → Z (.returned v) W') → Calls P g vs.toArray W Z) :
  Calls P g vs.toArray W fun e W' => ∃ v R' ρ', e = .returned v ∧ Trans C gl W R ρ h r.ws W' R' ρ' ∧ Den C W' R' ρ' r.v v := by
 obtain ⟨r1, r2, r3⟩ := hr
 simp only [Bool.and_eq_true] at hm ho
 obtain ⟨⟨m1, m2⟩, m3⟩ := hm
 have hm2 := allLt_of m2
 have hm3 := boundIn_of m3
 have S := Enters.hand M (r := r) hlen hnd hc hk hA ho.1 (fun c hc => List.all_eq_true.1 ho.2 c hc)
 have keptq : ∀ {i q}, kept[i]? = some q → qs[i]? = some q := fun {i q} hi => by
  rw [hqs, List.getElem?_append_left (List.getElem?_eq_some_iff.1 hi).1]; exact hi
 have hsome : ∀ {i q}, kept[i]? = some q → ρ q ≠ none := fun {i q} hq => by
  have hq := keptq hq
  have hlt : i < cs.length := by rw [hlen]; exact (List.getElem?_eq_some_iff.1 hq).1
  obtain ⟨v, hv, _⟩ := M.at_ q _ (hc i q _ hq (List.getElem?_eq_getElem hlt))
  rw [hv]; simp
 have inj : ∀ i j, i < kept.length + k → j < kept.length + k → fN kept next i = fN kept next j → i = j := fun i j hi hj he => by
  rcases Nat.lt_or_ge i kept.length with a | a <;> rcases Nat.lt_or_ge j kept.length with b | b
  ·obtain ⟨q, e1, e2⟩ := fN_lt (next := next) a
   obtain ⟨q', e3, e4⟩ := fN_lt (next := next) b
   rw [e2, e4] at he; subst he
   exact nodup_get _ hnd i j q (keptq e1) (keptq e3)
  ·obtain ⟨q, e1, e2⟩ := fN_lt (next := next) a
   rw [e2, fN_ge b] at he
   exact (hsome e1 (by rw [he]; exact hn _ (by rw [r3]; omega))).elim
  ·obtain ⟨q, e1, e2⟩ := fN_lt (next := next) b
   rw [e2, fN_ge a] at he
   exact (hsome e1 (by rw [← he]; exact hn _ (by rw [r3]; omega))).elim
  ·rw [fN_ge a, fN_ge b] at he; omega
 have has : ∀ q ∈ keysH hp, find (fN kept next q) (tauG (fN kept next) (keysH hp)) = some q := fun q hq => tauG_has hq fun m hm he => inj m q (hm2 m hm) (hm2 q hq) he
 have sh : ∀ {ρ2 ρ3 : Nat → Option Value}, (∀ n, kept.length + k ≤ n → ρ2 n = none) → (∀ n q, find n (tauG (fN kept next) (keysH hp)) = some q → ρ3 n = ρ2 q) → ∀ r v, ρ2 r = some v → ρ3 (fN kept next r) = some v := fun ha he r v hv => by
  have : r < kept.length + k := Nat.lt_of_not_le fun hle => by rw [ha r hle] at hv; cases hv
  rw [he _ r (has r (hm3 r this))]; exact hv
 refine con_core0 EO hdf M hn S hlenA fun I Z hZ => ?_
 obtain ⟨R2, ρ2, I2⟩ := I.sub EO trivial hfit
 refine hcall _ _ R2 ρ2 I2 Z fun e s v W' R1 ρ1 hs J => hZ s v W' R1 ρ1 ⟨_, _, tauG (fN kept next) (keysH hp), hs, ?_, ?_, ?_, ?_⟩ J
 ·intro W R ρ2 ρ3 u M2 ha he _ _ hd
  rw [r1]
  exact Den.rn (sh ha he) hd
 ·intro j c hc
  rw [r2, find_append] at hc
  split at hc
  ·rename_i c' hf
   cases hc
   exact .inl (hz _ (find_mem hf))
  ·obtain ⟨q, c0, rfl, hq, rfl⟩ := rnH_mem hc
   have hq' := optH_find m1 hq
   exact .inr ⟨q, c0, _, has q (keysH_of hq), rfl, optH_look hq', fun W R ρ2 ρ3 u M2 ha he _ _ hh => hh.rn (sh ha he)⟩
 ·intro j q hq
  obtain ⟨rfl, hm⟩ := tauG_find hq
  have hlt := hm2 q hm
  rcases Nat.lt_or_ge q kept.length with a | a
  ·obtain ⟨q', e1, e2⟩ := fN_lt (next := next) a
   refine .inl ⟨by rw [hold]; exact rangeN_mem.2 ⟨Nat.zero_le _, by omega⟩, ?_, ?_⟩
   ·rw [e2, keptq e1]; rfl
   ·rw [e2]; exact hsome e1
  ·rw [fN_ge a]
   refine .inr ⟨?_, by omega, by rw [r3]; omega⟩
   rw [r2]; simp only [keys, List.map_append, List.mem_append]
   right
   have := rnH_key (f := fN kept next) hm
   rw [fN_ge a] at this
   exact this
 ·rw [tauG_snd]; exact m1
theorem con_gen {P : Program} {E : Env} (EO : EnvOk P C gl E) (hdf : E.df = []) {g : Nat} {fn : Func} {c : Code} (hf : P.funcs[g]? = some fn) (hb : fn.body = some c) {ls : List (Nat × LSum)} {n : Nat} {h : Nat → Option Cont}
  (M : Mem C gl W R ρ h) {qs rest : List Nat} {kept : List Nat} {cs : List Cont} {args0 : List SVal} {vs : List Value} (hA : DenA C W R ρ (rnL (gq qs) args0) vs) {next : Nat} {r : ORes} {rv : SVal} {hp : List (Nat × Cont)} {k : Nat} {fz : List (Nat × Option Cont)} {s1 : SState}
  (hr : r.v = rnV (fN kept next) rv ∧ r.ws = fz ++ rnH (fN kept next) hp ∧ r.k = k) (hz : ∀ p ∈ fz, p.2 = none) (hn : ∀ j, j < r.k → ρ (next + j) = none)
  (hqs : qs = kept ++ rest) (hlen : cs.length = qs.length) (hnd : nodupB qs = true) (hc : ∀ (i q : Nat) (c : Cont), qs[i]? = some q → cs[i]? = some c → h q = some (rnC (gq qs) c))
  (hk : ∀ q ∈ qs, q ∈ keys r.ws) (ho : (okL qs.length args0 && cs.all (okC qs.length)) = true)
  (hold : E.old = rangeN 0 kept.length) (hnt : fn.ntmps = n) (hlenA : Nat.ble args0.length n = true)
  (hfit : fits E { fr := numb 0 args0, hp := numC 0 cs, next := qs.length, sz := n } s1)
  (hm : (nodupB (keysH hp) && allLt (kept.length + k) (keysH hp) && boundIn (keysH hp) (kept.length + k)) = true)
  (HL : ∀ W R ρ0 own0, HownOk E own0 ρ0 → ∀ b ∈ loopsOf c, ∀ L, find (headId b) ls = some L → LOk P E C gl W R own0 ρ0 b L)
  (hrun : (run E ls c s1 (ends E fn.results.toList)).sat (newQ E rv hp (kept.length + k))) :
  Calls P g vs.toArray W fun e W' => ∃ v R' ρ', e = .returned v ∧ Trans C gl W R ρ h r.ws W' R' ρ' ∧ Den C W' R' ρ' r.v v := by
 subst hnt
 exact con_gen0 EO hdf M hA hr hz hn hqs hlen hnd hc hk ho hold hlenA hfit hm fun own0 ρ0 R2 ρ2 I2 Z hZ =>
  call_run EO hdf trivial hf hb (HL _ _ _ _ trivial) I2 hrun fun s v W' R1 ρ1 hs J => hZ _ s v W' R1 ρ1 hs J
end
end Go.Sy
