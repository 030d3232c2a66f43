/- Words that the proofs use, part 11. -/
import Derived.Test.YtacmmedhjebfjaaGreatDoorQE10
import Derived.Orders
set_option linter.unusedVariables false
set_option linter.unusedSimpArgs false
namespace Go.Sy
open Go.RowKit
section
variable {E : Env} {ops : List Oper} {fr : List (Nat × SVal)} {hp : List (Nat × Option Cont)} {sz next0 next1 : Nat} {recs : List Rec}
theorem isDst_iff {o : Option Nat} {d : Nat} : isDst o d = true ↔ o = some d := by
 cases o with
 | none => simp [isDst]
 | some e => exact ⟨fun h => congrArg some (Nat.eq_of_beq_eq_true h), fun h => by cases h; exact Nat.beq_refl _⟩
theorem Built.le (B : Built E ops fr hp sz next0 recs next1) : next0 ≤ next1 := by
 induction B with
 | nil => exact Nat.le_refl _
 | cons l r o next hB hA hn ih => omega
theorem Built.mem (B : Built E ops fr hp sz next0 recs next1) : ∀ r ∈ recs, r.idx < recs.length ∧ r.next + r.k ≤ next1 ∧ next0 ≤ r.next := by
 induction B with
 | nil => intro r h; cases h
 | cons l r o next hB hA hn ih =>
  intro r' hr'
  have hle := hB.le
  rcases List.mem_cons.1 hr' with rfl | hr'
  ·have := hA.idx
   simp only [List.length_cons]; omega
  ·have := ih r' hr'
   simp only [List.length_cons]; omega
theorem Built.inj (B : Built E ops fr hp sz next0 recs next1) : ∀ {r q}, r ∈ recs → q ∈ recs → r.idx = q.idx → r = q := by
 induction B with
 | nil => intro r q h; cases h
 | cons l r o next hB hA hn ih =>
  intro a b ha hb he
  have hi := hA.idx
  rcases List.mem_cons.1 ha with ea | ha' <;> rcases List.mem_cons.1 hb with eb | hb'
  ·rw [ea, eb]
  ·have := (hB.mem b hb').1; rw [ea] at he; omega
  ·have := (hB.mem a ha').1; rw [eb] at he; omega
  ·exact ih ha' hb' he
theorem Built.split (B : Built E ops fr hp sz next0 recs next1) : ∀ {r}, r ∈ recs → ∃ pre l o, recs = pre ++ r :: l ∧ Built E ops fr hp sz next0 l r.next ∧ Added E ops fr hp sz l r o ∧ (∀ q ∈ pre, r.idx < q.idx ∧ r.next + r.k ≤ q.next) ∧ r.next + r.k ≤ next1 := by
 induction B with
 | nil => intro r h; cases h
 | cons l r o next hB hA hn ih =>
  intro r' hr'
  rcases List.mem_cons.1 hr' with er | hr2
  ·subst er
   exact ⟨[], l, o, rfl, (by rw [hn]; exact hB), hA, (fun q hq => by cases hq), (by omega)⟩
  ·obtain ⟨pre, l', o', e, h1, h2, h3, h4⟩ := ih hr2
   refine ⟨r :: pre, l', o', (by rw [e]; rfl), h1, h2, fun q hq => ?_, (by omega)⟩
   rcases List.mem_cons.1 hq with eq | hq2
   ·have := hA.idx; have := (hB.mem r' hr2); rw [eq]; omega
   ·exact h3 q hq2
theorem lastOf_mem {l : List Rec} {d : Nat} {r : Rec} (h : lastOf l d = some r) : r ∈ l ∧ isDst r.dst d = true := by
 induction l with
 | nil => cases h
 | cons q l ih =>
  simp only [lastOf] at h
  split at h
  ·rename_i hd; cases h; exact ⟨List.mem_cons_self .., hd⟩
  ·exact ⟨List.mem_cons_of_mem _ (ih h).1, (ih h).2⟩
theorem Built.last (B : Built E ops fr hp sz next0 recs next1) : ∀ {r d}, r ∈ recs → isDst r.dst d = true → lastOf recs d = some r := by
 induction B with
 | nil => intro r d h; cases h
 | cons l r o next hB hA hn ih =>
  intro q d hq hd
  rcases List.mem_cons.1 hq with rfl | hq
  ·simp only [lastOf, hd]
  ·have hl := ih hq hd
   cases hrd : isDst r.dst d with
   | false => simp only [lastOf, hrd]; exact hl
   | true =>
    have e := isDst_iff.1 hrd
    have hf := hA.fit
    rw [← hA.dst, e] at hf
    simp only [dstFit, slotOf_last, hl, Option.map_some, Bool.and_false] at hf
    cases hf
theorem Built.dst_lt (B : Built E ops fr hp sz next0 recs next1) {r d} (hr : r ∈ recs) (hd : isDst r.dst d = true) : d < sz := by
 obtain ⟨pre, l, o, _, _, hA, _⟩ := B.split hr
 have hf := hA.fit
 rw [← hA.dst, isDst_iff.1 hd] at hf
 simp only [dstFit, Bool.and_eq_true] at hf
 exact Nat.le_of_ble_eq_true hf.1
theorem Built.before (B : Built E ops fr hp sz next0 recs next1) {r} {pre l : List Rec} (e : recs = pre ++ r :: l) (hp1 : ∀ q ∈ pre, r.idx < q.idx) (hl : ∀ q ∈ l, q.idx < r.idx) :
  recs.filter (fun q => decide (q.idx < r.idx)) = l := by
 rw [e, List.filter_append, List.filter_cons]
 have h1 : pre.filter (fun q => decide (q.idx < r.idx)) = [] := List.filter_eq_nil_iff.2 fun q hq => by have := hp1 q hq; simp; omega
 have h2 : l.filter (fun q => decide (q.idx < r.idx)) = l := List.filter_eq_self.2 fun q hq => by have := hl q hq; simpa using this
 rw [h1, h2]; simp
theorem andB_val (a b : SB) : (andB a b).val = (a.val && b.val) := by
 unfold andB
 split <;> simp [SB.val]
theorem recAt_mem {l : List Rec} {i : Nat} {r : Rec} (h : recAt l i = some r) : r ∈ l ∧ r.idx = i := by
 induction l with
 | nil => cases h
 | cons q l ih =>
  simp only [recAt] at h
  split at h
  ·rename_i hd; cases h; exact ⟨List.mem_cons_self .., Nat.eq_of_beq_eq_true hd⟩
  ·exact ⟨List.mem_cons_of_mem _ (ih h).1, (ih h).2⟩
theorem guard_truth {l : List Rec} {j : Nat} {b : Bool} {g : SB} (h : guardOf l (some (j, b)) = some g) :
  ∃ w ∈ l, w.idx = j ∧ (∃ d, w.dst = some d) ∧ (g.val = true ↔ w.g.val = true ∧ ∃ β, w.v = .bool β ∧ β.val = b) ∧ (w.g.val = true → ∃ β, w.v = .bool β) := by
 simp only [guardOf] at h
 split at h
 ·rename_i w hw
  obtain ⟨hm, hi⟩ := recAt_mem hw
  refine ⟨w, hm, hi, ?_⟩
  split at h
  ·cases h
  ·rename_i hg hdn
   cases h
   refine ⟨?_, ?_, ?_⟩
   ·cases hd : w.dst with
    | none => exact (hdn hd).elim
    | some d => exact ⟨d, rfl⟩
   ·rw [hg]; simp [SB.val]
   ·rw [hg]; simp [SB.val]
  ·rename_i β hv hdn hgn
   cases h
   refine ⟨?_, ?_, fun _ => ⟨β, hv⟩⟩
   ·cases hd : w.dst with
    | none => exact (hdn hd).elim
    | some d => exact ⟨d, rfl⟩
   ·rw [andB_val, hv]
    cases b <;> simp [notB_val]
  ·cases h
 ·cases h
theorem keyEq_eq {κ κ' : Key} (h : keyEq κ κ' = true) : κ = κ' := by
 unfold keyEq at h
 split at h
 ·rfl
 ·rw [Nat.eq_of_beq_eq_true h]
 ·rw [Nat.eq_of_beq_eq_true h]
 ·cases h
theorem Added.key_none {l : List Rec} {r : Rec} {o : Oper} (A : Added E ops fr hp sz l r o) (h : r.key = none) : r.g.val = true ∨ (r.v = .any ∧ r.ws = []) := by
 rcases A.how with ⟨h1, h2, h3, h4, h5, _⟩ | ⟨res, h1, h2, h3, _⟩
 ·exact .inr ⟨h4, h5⟩
 ·left
  cases hg : r.g with
  | lit b => cases b with
   | true => rfl
   | false => exact (h2 hg).elim
  | sym b =>
   rw [hg] at h3
   rw [h] at h3
   simp only at h3
   rw [← h3, guardOf, hg] at h1
   cases h1
theorem Added.key_some {l : List Rec} {r : Rec} {o : Oper} (A : Added E ops fr hp sz l r o) {j : Nat} {b : Bool} (h : r.key = some (j, b)) : guardOf l (some (j, b)) = some r.g := by
 rcases A.how with ⟨h1, h2, h3, h4, h5, _⟩ | ⟨res, h1, h2, h3, _⟩
 ·rw [h2] at h; cases h
 ·cases hg : r.g with
  | lit b => rw [hg, h] at h3; cases h3
  | sym β => rw [hg, h] at h3; simp only at h3; rw [h3, h1, hg]
theorem Built.key_g (B : Built E ops fr hp sz next0 recs next1) {r q : Rec} (hr : r ∈ recs) (hq : q ∈ recs) (hk : readable r.key q.key = true) (hg : r.g.val = true) : q.g.val = true ∨ (q.v = .any ∧ q.ws = []) := by
 obtain ⟨pre, l, o, e, hB, hA, _⟩ := B.split hq
 obtain ⟨pre', l', o', e', hB', hA', _⟩ := B.split hr
 cases hqk : q.key with
 | none => exact hA.key_none hqk
 | some p =>
  obtain ⟨j, b⟩ := p
  rw [hqk] at hk
  have hrk := keyEq_eq hk
  obtain ⟨w, w1, w2, _, w4, _⟩ := guard_truth (hA.key_some hqk)
  obtain ⟨w', w1', w2', _, w4', _⟩ := guard_truth (hA'.key_some hrk)
  have hw : w ∈ recs := by rw [e]; simp [w1]
  have hw' : w' ∈ recs := by rw [e']; simp [w1']
  have := B.inj hw hw' (by rw [w2, w2'])
  subst this
  exact .inl (w4.2 (w4'.1 hg))
theorem contOf_T {l : List Rec} {κ κ' : Key} {n : Nat} {c : Option Cont} (hl : ∀ q ∈ l, readable κ q.key = true → q.g.val = true ∨ q.ws = []) (h : contOf hp l n = some (κ', c)) (hr : readable κ κ' = true) : contT hp l n = c := by
 induction l with
 | nil =>
  simp only [contOf] at h
  split at h
  ·rename_i c' hc; cases h; simp [contT, hc]
  ·cases h
 | cons q l ih =>
  simp only [contOf] at h
  split at h
  ·rename_i c' hc
   cases h
   rcases hl q (List.mem_cons_self ..) hr with hg | hw
   ·simp only [contT, hg, hc]
   ·rw [hw] at hc; cases hc
  ·rename_i hc
   have := ih (fun q hq => hl q (List.mem_cons_of_mem _ hq)) h
   simp only [contT, hc, this]
   split <;> rfl
theorem lookR_T {l : List Rec} {κ : Key} {n : Nat} {c : Cont} (hl : ∀ q ∈ l, readable κ q.key = true → q.g.val = true ∨ q.ws = []) (h : lookR hp l κ n = some c) : contT hp l n = some c := by
 unfold lookR at h
 split at h
 ·rename_i κ' c' hc
  split at h
  ·rename_i hr; subst h; exact contOf_T hl hc hr
  ·cases h
 ·cases h
theorem allKnown_of {look : Nat → Option Cont} {l : List Nat} (h : allKnown look l = true) : ∀ n ∈ l, ∃ c, look n = some c := by
 induction l with
 | nil => intro n hn; cases hn
 | cons r l ih =>
  simp only [allKnown] at h
  split at h
  ·rename_i c hc
   intro n hn
   rcases List.mem_cons.1 hn with rfl | hn
   ·exact ⟨c, hc⟩
   ·exact ih h n hn
  ·cases h
theorem memN_iff {n : Nat} {l : List Nat} : memN n l = true ↔ n ∈ l := by
 induction l with
 | nil => simp [memN]
 | cons q l ih =>
  simp only [memN, Bool.or_eq_true, ih, List.mem_cons]
  exact ⟨fun h => h.imp (fun h => (Nat.eq_of_beq_eq_true h).symm) id, fun h => h.imp (fun h => by subst h; exact Nat.beq_refl _) id⟩
theorem wsFit_of {tch : List Nat} {next k : Nat} {ws : List (Nat × Option Cont)} (h : wsFit tch next k ws = true) : ∀ n ∈ keys ws, n ∈ tch ∨ (next ≤ n ∧ n < next + k) := by
 induction ws with
 | nil => intro n hn; cases hn
 | cons p ws ih =>
  obtain ⟨r, c⟩ := p
  simp only [wsFit, Bool.and_eq_true, Bool.or_eq_true] at h
  intro n hn
  rcases List.mem_cons.1 hn with rfl | hn
  ·rcases h.1 with h | h
   ·exact .inl (memN_iff.1 h)
   ·exact .inr ⟨Nat.le_of_ble_eq_true h.1, Nat.le_of_ble_eq_true h.2⟩
  ·exact ih h.2 n hn
theorem contT_insert (p l : List Rec) (r : Rec) (h : ∀ q ∈ p, ∀ n c, find n r.ws = some c → find n q.ws = none) : contT hp (p ++ r :: l) = upd (contT hp (p ++ l)) (match r.g.val with | true => r.ws | false => []) := by
 funext n
 induction p with
 | nil =>
  simp only [List.nil_append, contT, upd]
  cases r.g.val with
  | false => rfl
  | true => cases find n r.ws <;> rfl
 | cons q p ih =>
  have ih := ih fun q hq => h q (List.mem_cons_of_mem _ hq)
  simp only [List.cons_append, contT, ih]
  unfold upd
  cases hg : r.g.val with
  | false => simp only [find]
  | true =>
   cases hf : find n r.ws with
   | none => simp only [hf]
   | some c =>
    have := h q (List.mem_cons_self ..) n c hf
    simp only [hf, this]
    split <;> rfl
end
section
variable {P : Program} {C : Ctx} {gl : List (Nat × SVal)} {E : Env} {ops : List Oper} {fr : List (Nat × SVal)} {hp : List (Nat × Option Cont)} {sz next0 next1 : Nat} {recs : List Rec}
variable {W0 : World} {R0 own0 : Nat → Prop} {ρs : Nat → Option Value} {L : Rec → Bool} {a : Act} {W W' : World} {R R' : Nat → Prop} {ρ ρ' : Nat → Option Value} {h : Nat → Option Cont} {Q : Exit → Act → World → Prop}
theorem Trans.den {ws : List (Nat × Option Cont)} (M : Mem C gl W R ρ h) (t : Trans C gl W R ρ h ws W' R' ρ') {s : SVal} {v : Value} (hd : Den C W R ρ s v) : Den C W' R' ρ' s v :=
 hd.mono t.Rm (fun b hb => t.keep b (M.base.inR b hb) fun r c v _ hc hv he => M.off r c v b hc hv he hb) t.ρm
structure Ready (E : Env) (fr : List (Nat × SVal)) (hp : List (Nat × Option Cont)) (sb : Option Nat) (ops : List Oper) (o : Oper) (recs : List Rec) (L : Rec → Bool) (r : Rec) : Prop where
 A : ∀ d ∈ readsOf ops o, ∀ q ∈ recs, isDst q.dst d = true → L q = decide (q.idx < r.idx)
 B : ∀ n ∈ r.tch, ∀ q ∈ recs, (∃ c, find n q.ws = some c) → L q = decide (q.idx < r.idx) ∨
  (sb = some q.idx ∧ r.idx < q.idx ∧ L q = true ∧ commP E fr hp (recs.filter fun x => decide (x.idx < r.idx)) r o q)
 C : ∀ n c, find n r.ws = some c → ∀ q ∈ recs, L q = true → (∃ c, find n q.ws = some c) → q.idx < r.idx
abbrev addL (L : Rec → Bool) (r : Rec) : Rec → Bool := fun q => L q || q.idx == r.idx
theorem eval_ok (EO : EnvOk P C gl E) (B : Built E ops fr hp sz next0 recs next1) (I : InvR E C gl W0 R0 own0 ρs fr hp sz next1 recs L a W R ρ) {r : Rec} {l : List Rec} (hr : r ∈ recs) (hg : r.g.val = true)
  (hl : recs.filter (fun q => decide (q.idx < r.idx)) = l) {κx : Key} (hx : ∀ q ∈ recs, κx ≠ none → readable κx q.key = true → q.key ≠ none → q.g.val = true ∨ q.v = .any)
  (x : Operand) (hA : ∀ d, x = .tmp d → ∀ q ∈ recs, isDst q.dst d = true → L q = decide (q.idx < r.idx)) : Den C W R ρ (evR E fr l r.key κx x) (a.eval x) := by
 cases x with
 | tmp d =>
  have hs := I.slots d
  unfold slotIs at hs
  rw [lastOf_filter (hA d rfl), hl] at hs
  simp only [evR, slotOf_last]
  cases hq : lastOf l d with
  | none => rw [hq] at hs; exact hs
  | some q =>
   rw [hq] at hs
   simp only [Option.map_some]
   have hqm : q ∈ recs := by
    have := (lastOf_mem hq).1
    rw [← hl] at this
    exact (List.mem_filter.1 this).1
   split
   ·rename_i hrd
    have : q.g.val = true ∨ q.v = .any := by
     rcases Bool.or_eq_true .. ▸ hrd with h1 | h1
     ·exact (B.key_g hr hqm h1 hg).imp id fun h => h.1
     ·cases hqk : q.key with
      | none => exact (B.key_g hr hqm (by rw [hqk]; rfl) hg).imp id fun h => h.1
      | some p =>
       refine hx q hqm ?_ h1 (by rw [hqk]; simp)
       intro hn
       rw [hn, hqk] at h1
       cases h1
    rcases this with h1 | h1
    ·exact hs.1 h1
    ·rw [h1]; exact .any _
   ·exact .any _
 | const v => exact ofVal_den v
 | global g =>
  simp only [evR]
  cases hf : find g E.glob with
  | none => exact .any _
  | some s =>
   rw [EO.glob] at hf
   exact (I.mem.base.glob g s hf).mono (fun _ h => h) (fun _ _ => rfl) fun r v h => by cases h
 | func f => exact .func f [] [] .nil
end
end Go.Sy

set_option linter.unusedVariables false
set_option linter.unusedSimpArgs false
namespace Go.Sy
open Go.RowKit
section
variable {P : Program} {C : Ctx} {gl : List (Nat × SVal)} {E : Env} {ops : List Oper} {fr : List (Nat × SVal)} {hp : List (Nat × Option Cont)} {sz next0 next1 : Nat} {recs : List Rec}
variable {W0 : World} {R0 own0 : Nat → Prop} {ρs : Nat → Option Value} {L : Rec → Bool} {a : Act} {W W' : World} {R R' : Nat → Prop} {ρ ρ' : Nat → Option Value} {h : Nat → Option Cont} {Q : Exit → Act → World → Prop}
theorem Built.op (B : Built E ops fr hp sz next0 recs next1) {r : Rec} (hr : r ∈ recs) : ∃ o, ops[r.idx]? = some o ∧ r.dst = o.dst := by
 obtain ⟨pre, l, o, e, hB, hA, _⟩ := B.split hr
 exact ⟨o, by rw [hA.idx]; exact hA.op, hA.dst⟩
theorem Built.sides (B : Built E ops fr hp sz next0 recs next1) {r : Rec} {pre l : List Rec} (e : recs = pre ++ r :: l) (hB : Built E ops fr hp sz next0 l r.next) {o : Oper} (hA : Added E ops fr hp sz l r o) (hpre : ∀ q ∈ pre, r.idx < q.idx ∧ r.next + r.k ≤ q.next) :
  (∀ q ∈ l, q.idx < r.idx) ∧ recs.filter (fun q => decide (q.idx < r.idx)) = l := by
 have h1 : ∀ q ∈ l, q.idx < r.idx := fun q hq => by rw [hA.idx]; exact (hB.mem q hq).1
 exact ⟨h1, B.before e (fun q hq => (hpre q hq).1) h1⟩
theorem wanted_ok (EO : EnvOk P C gl E) (B : Built E ops fr hp sz next0 recs next1) (I : InvR E C gl W0 R0 own0 ρs fr hp sz next1 recs L a W R ρ) {r : Rec} {pre l : List Rec} {o : Oper} (e : recs = pre ++ r :: l)
  (hB : Built E ops fr hp sz next0 l r.next) (hA : Added E ops fr hp sz l r o) (hpre : ∀ q ∈ pre, r.idx < q.idx ∧ r.next + r.k ≤ q.next) {sb : Option Nat} (RD : Ready E fr hp sb ops o recs L r) :
  Region.wanted o (yielded ops.toArray a.tmps) = r.g.val := by
 have hgo : guardOf l o.guard = some r.g := by
  rcases hA.how with ⟨h1, _, h3, _⟩ | ⟨res, h1, _⟩
  ·rw [h1, h3]
  ·exact h1
 obtain ⟨hs1, hs2⟩ := B.sides e hB hA hpre
 cases hgd : o.guard with
 | none =>
  rw [hgd] at hgo
  simp only [guardOf, Option.some.injEq] at hgo
  rw [← hgo]
  simp [Region.wanted, hgd, SB.val]
 | some p =>
  obtain ⟨j, b⟩ := p
  rw [hgd] at hgo
  obtain ⟨w, w1, w2, ⟨d, w3⟩, w4, w5⟩ := guard_truth hgo
  have hw : w ∈ recs := by rw [e]; simp [w1]
  obtain ⟨ow, how, hdst⟩ := B.op hw
  have hwd : isDst w.dst d = true := isDst_iff.2 w3
  rw [w2] at how
  have hrd : d ∈ readsOf ops o := by
   unfold readsOf
   rw [hgd]
   simp only [how, ← hdst, w3]
   simp
  have hsl := I.slots d
  unfold slotIs at hsl
  rw [lastOf_filter (RD.A d hrd), hs2] at hsl
  have hlast : lastOf l d = some w := hB.last w1 hwd
  rw [hlast] at hsl
  simp only at hsl
  have hd := B.dst_lt hw hwd
  rw [← I.size] at hd
  have hy : yielded ops.toArray a.tmps j = match a.tmps.getD d undef with | .bool b => some b | _ => none := by
   unfold yielded
   have : ops.toArray[j]? = some ow := by simpa using how
   simp only [this, Option.bind_some, ← hdst, w3, Array.getElem?_eq_getElem hd, Array.getD_eq_getD_getElem?, Option.getD_some]
   cases a.tmps[d] <;> rfl
  simp only [Region.wanted, hgd, hy]
  cases hwg : w.g.val with
  | false =>
   have : r.g.val = false := by
    cases hh : r.g.val with
    | false => rfl
    | true => have := (w4.1 hh).1; rw [hwg] at this; cases this
   rw [hsl.2 hwg, this]
   rfl
  | true =>
   obtain ⟨β, hβ⟩ := w5 hwg
   have hden := hsl.1 hwg
   rw [hβ] at hden
   rw [hden.bool_inv]
   simp only
   cases hh : r.g.val with
   | true =>
    obtain ⟨_, β', hβ', hb⟩ := w4.1 hh
    rw [hβ] at hβ'; cases hβ'
    rw [hb]; simp
   | false =>
    have : β.val ≠ b := fun hb => by
     have := w4.2 ⟨hwg, β, hβ, hb⟩
     rw [hh] at this; cases this
    simpa using this
theorem Built.cont_add (B : Built E ops fr hp sz next0 recs next1) {r : Rec} (hr : r ∈ recs) (hL : L r = false) (hC : ∀ n c, find n r.ws = some c → ∀ q ∈ recs, L q = true → (∃ c, find n q.ws = some c) → q.idx < r.idx) :
  contT hp (recs.filter (addL L r)) = upd (contT hp (recs.filter L)) (match r.g.val with | true => r.ws | false => []) := by
 obtain ⟨pre, l, o, e, hB, hA, hpre, hlast⟩ := B.split hr
 obtain ⟨hs1, hs2⟩ := B.sides e hB hA hpre
 have hpL : ∀ q ∈ pre, addL L r q = L q := fun q hq => by
  have := (hpre q hq).1
  have : (q.idx == r.idx) = false := by simp; omega
  simp [addL, this]
 have hlL : ∀ q ∈ l, addL L r q = L q := fun q hq => by
  have := hs1 q hq
  have : (q.idx == r.idx) = false := by simp; omega
  simp [addL, this]
 have e1 : recs.filter (addL L r) = pre.filter L ++ r :: l.filter L := by
  rw [e, List.filter_append, List.filter_cons, List.filter_congr hpL, List.filter_congr hlL]
  simp [addL]
 have e2 : recs.filter L = pre.filter L ++ l.filter L := by
  rw [e, List.filter_append, List.filter_cons]
  simp [hL]
 rw [e1, e2]
 refine contT_insert _ _ r fun q hq n c hc => ?_
 obtain ⟨hq1, hq2⟩ := List.mem_filter.1 hq
 cases hf : find n q.ws with
 | none => rfl
 | some c' =>
  have := hC n c hc q (by rw [e]; simp [hq1]) hq2 ⟨c', hf⟩
  have := (hpre q hq1).1
  omega
theorem InvR.add (B : Built E ops fr hp sz next0 recs next1) (I : InvR E C gl W0 R0 own0 ρs fr hp sz next1 recs L a W R ρ) {r : Rec} {pre l : List Rec} {o : Oper} (e : recs = pre ++ r :: l)
  (hB : Built E ops fr hp sz next0 l r.next) (hA : Added E ops fr hp sz l r o) (hpre : ∀ q ∈ pre, r.idx < q.idx ∧ r.next + r.k ≤ q.next) (hlast : r.next + r.k ≤ next1) (hL : L r = false) (hC : ∀ n c, find n r.ws = some c → ∀ q ∈ recs, L q = true → (∃ c, find n q.ws = some c) → q.idx < r.idx)
  (hws : r.g.val = true → ∀ n ∈ keys r.ws, (∃ c, contT hp (recs.filter L) n = some c) ∨ (r.next ≤ n ∧ n < r.next + r.k))
  {v : Value} {W' : World} {R' : Nat → Prop} {ρ' : Nat → Option Value}
  (T : Trans C gl W R ρ (contT hp (recs.filter L)) (match r.g.val with | true => r.ws | false => []) W' R' ρ') (hv1 : r.g.val = true → Den C W' R' ρ' r.v v) (hv2 : r.g.val = false → v = undef) :
  InvR E C gl W0 R0 own0 ρs fr hp sz next1 recs (addL L r) (a.put o.dst v) W' R' ρ' := by
 obtain ⟨hs1, hs2⟩ := B.sides e hB hA hpre
 have hr : r ∈ recs := by rw [e]; simp
 have hcont := B.cont_add (hp := hp) hr hL hC
 have hM := I.mem
 refine ⟨fun d => ?_, by rw [hcont]; exact T.mem, ?_, by rw [hcont]; exact I.bt.trans T.bt, fun q hq hqL j hj => ?_, fun n hn => ?_, ?_, fun n u hu => T.ρm _ _ (I.ext n u hu)⟩
 ·cases hd : isDst r.dst d with
  | true =>
   have : lastOf (recs.filter (addL L r)) d = some r := by
    rw [lastOf_filter (q := fun _ => true), List.filter_eq_self.2 fun _ _ => rfl]
    ·exact B.last hr hd
    ·intro q hq hqd
     have h1 := B.last hq hqd
     rw [B.last hr hd] at h1
     cases h1
     simp [addL]
   unfold slotIs
   rw [this]
   simp only
   have hlt := B.dst_lt hr hd
   rw [← I.size] at hlt
   have hput : (a.put o.dst v).tmps.getD d undef = v := by
    rw [← hA.dst, isDst_iff.1 hd]
    simp [Act.put, Array.getD, hlt]
   rw [hput]
   exact ⟨hv1, hv2⟩
  | false =>
   have : lastOf (recs.filter (addL L r)) d = lastOf (recs.filter L) d := by
    refine lastOf_filter fun q hq hqd => ?_
    have : (q.idx == r.idx) = false := by
     simp only [beq_eq_false_iff_ne]
     intro he
     have := B.inj hq hr he
     subst this
     rw [hd] at hqd; cases hqd
    simp [addL, this]
   have hput : (a.put o.dst v).tmps.getD d undef = a.tmps.getD d undef := by
    rw [← hA.dst]
    cases hdd : r.dst with
    | none => rfl
    | some d' =>
     have : d' ≠ d := fun h => by subst h; rw [isDst_iff.2 hdd] at hd; cases hd
     simp [Act.put, Array.getD_eq_getD_getElem?, Array.getElem?_setIfInBounds, this]
   have hs := I.slots d
   unfold slotIs at hs ⊢
   rw [this, hput]
   split
   ·rename_i q hq
    rw [hq] at hs
    exact ⟨fun hg => T.den hM (hs.1 hg), hs.2⟩
   ·rename_i hq
    rw [hq] at hs
    exact T.den hM hs
 ·rw [← I.size]
  cases hd : o.dst <;> simp [Act.put]
 ·have hqL' : L q = false ∧ q.idx ≠ r.idx := by simpa [addL] using hqL
  cases hρ : ρ' (q.next + j) with
  | none => rfl
  | some v' =>
   exfalso
   rcases T.ρn _ _ hρ with h1 | ⟨h1, h2⟩
   ·rw [I.fresh q hq hqL'.1 j hj] at h1; cases h1
   ·cases hg : r.g.val with
    | false => rw [hg] at h2; cases h2
    | true =>
     rw [hg] at h2
     rcases hws hg _ h2 with h3 | h3
     ·obtain ⟨c, hc⟩ := h3
      obtain ⟨v'', hv'', _⟩ := hM.at_ _ _ hc
      rw [h1] at hv''; cases hv''
     ·have : q ∈ pre ∨ q ∈ l := by
       rw [e] at hq
       rcases List.mem_append.1 hq with h | h
       ·exact .inl h
       ·rcases List.mem_cons.1 h with rfl | h
        ·exact (hqL'.2 rfl).elim
        ·exact .inr h
      rcases this with h | h
      ·have := (hpre q h).2; omega
      ·have := (hB.mem q h).2.1; omega
 ·cases hρ : ρ' n with
  | none => rfl
  | some v' =>
   exfalso
   rcases T.ρn _ _ hρ with h1 | ⟨h1, h2⟩
   ·rw [I.above n hn] at h1; cases h1
   ·cases hg : r.g.val with
    | false => rw [hg] at h2; cases h2
    | true =>
     rw [hg] at h2
     rcases hws hg _ h2 with h3 | h3
     ·obtain ⟨c, hc⟩ := h3
      obtain ⟨v'', hv'', _⟩ := hM.at_ _ _ hc
      rw [h1] at hv''; cases hv''
     ·omega
 ·rw [← I.defers]
  cases hd : o.dst <;> rfl
theorem nilB_of {α : Type} {l : List α} (h : nilB l = true) : l = [] := by
 cases l with
 | nil => rfl
 | cons => cases h
theorem subN_of {l l' : List Nat} (h : subN l l' = true) : ∀ n ∈ l, n ∈ l' := by
 induction l with
 | nil => intro n hn; cases hn
 | cons m l ih =>
  simp only [subN, Bool.and_eq_true] at h
  intro n hn
  rcases List.mem_cons.1 hn with rfl | hn
  ·exact memN_iff.1 h.1
  ·exact ih h.2 n hn
theorem mem_reads {ops : List Oper} {o : Oper} {d : Nat} (h : Operand.tmp d ∈ o.op.operands.toList) : d ∈ readsOf ops o := by
 unfold readsOf
 exact List.mem_append_left _ (List.mem_filterMap.2 ⟨_, h, rfl⟩)
theorem writerOf_last (l : List Rec) (t : Nat) : writerOf l t = (lastOf l t).map (·.idx) := by
 induction l with
 | nil => rfl
 | cons q l ih => simp only [writerOf, lastOf]; split <;> simp_all
theorem step_ok (EO : EnvOk P C gl E) (B : Built E ops fr hp sz next0 recs next1) {r : Rec} (hr : r ∈ recs) {o : Oper} (ho : ops[r.idx]? = some o) (hL : L r = false) {sb : Option Nat} (RD : Ready E fr hp sb ops o recs L r)
  (I : InvR E C gl W0 R0 own0 ρs fr hp sz next1 recs L a W R ρ) (K : Act → World → Prop)
  (hK : ∀ a W R ρ, InvR E C gl W0 R0 own0 ρs fr hp sz next1 recs (addL L r) a W R ρ → K a W) : wpOp P ops.toArray Q r.idx K a W := by
 obtain ⟨pre, l, o', e, hB, hA, hpre, hlast⟩ := B.split hr
 have : o' = o := by
  have := hA.op
  rw [← hA.idx, ho] at this
  cases this; rfl
 subst this
 obtain ⟨hs1, hs2⟩ := B.sides e hB hA hpre
 have hM := I.mem
 have hw := wanted_ok EO B I e hB hA hpre RD
 have hoa : ops.toArray[r.idx]? = some o' := by simpa using ho
 unfold wpOp
 rw [hoa]
 simp only [hw]
 cases hg : r.g.val with
 | false =>
  simp only [Bool.false_eq_true, if_false]
  exact hK _ _ R ρ (InvR.add B I e hB hA hpre hlast hL RD.C (fun h => by rw [hg] at h; cases h) (v := undef) (by rw [hg]; exact Trans.refl hM) (fun h => by rw [hg] at h; cases h) fun _ => rfl)
 | true =>
  simp only [if_true]
  left
  rcases hA.how with ⟨h1, h2, h3, h4, h5, h6, h7⟩ | ⟨res, h1, h2, h3, h4, h5, h6, h7, h8⟩
  ·rw [h3] at hg; cases hg
  have hev := fun (x : Operand) (hx : x ∈ o'.op.operands.toList) => eval_ok EO B I hr hg hs2 (κx := none) (fun q hq hn => (hn rfl).elim) x fun d hd => by subst hd; exact RD.A d (mem_reads hx)
  have hlk : ∀ n, ∀ c, lookR hp l r.key n = some c → contT hp l n = some c := fun n c hc =>
   lookR_T (fun q hq hk => (B.key_g hr (by rw [e]; simp [hq]) hk hg).imp id fun h => h.2) hc
  have fin : (∀ n ∈ keys r.ws, (∃ c, contT hp (recs.filter L) n = some c) ∨ (r.next ≤ n ∧ n < r.next + r.k)) →
    ∀ v W' R' ρ', Trans C gl W R ρ (contT hp (recs.filter L)) res.ws W' R' ρ' → Den C W' R' ρ' res.v v → K (a.put o'.dst v) W' := fun hws v W' R' ρ' T hd =>
   hK _ _ R' ρ' (InvR.add B I e hB hA hpre hlast hL RD.C (fun _ => hws) (v := v) (by rw [hg, h6]; exact T) (fun _ => h5 hg _ _ _ _ _ hd) fun h => by rw [hg] at h; cases h)
  unfold stepR at h4
  split at h4
  ·rename_i c x y hop
   split at h4
   ·rename_i v hpk
    injection h4 with h4
    injection h4 with hres htn
    subst hres
    have hc := hev c (by rw [hop]; simp [Op.operands])
    have side : ∀ b, a.eval c = .bool b → ∀ q ∈ recs, keyOf l c b ≠ none → readable (keyOf l c b) q.key = true → q.key ≠ none → q.g.val = true ∨ q.v = .any := by
     intro b hb q hq hn hk hqn
     cases c with
     | tmp t =>
      simp only [keyOf] at hn hk
      rw [writerOf_last] at hn hk
      cases hlt : lastOf l t with
      | none => rw [hlt] at hn; exact (hn rfl).elim
      | some w =>
       rw [hlt] at hk
       simp only [Option.map_some] at hk
       cases hqk : q.key with
       | none => exact (hqn hqk).elim
       | some p =>
        obtain ⟨j, b'⟩ := p
        rw [hqk] at hk
        have hk := keyEq_eq hk
        cases hk
        obtain ⟨pq, lq, oq, eq, hBq, hAq, _⟩ := B.split hq
        obtain ⟨w', w1, w2, _, w4, _⟩ := guard_truth (hAq.key_some hqk)
        have hwm : w ∈ recs := by rw [e]; simp [(lastOf_mem hlt).1]
        have := B.inj (r := w') (q := w) (by rw [eq]; simp [w1]) hwm w2
        subst this
        have hsl := I.slots t
        unfold slotIs at hsl
        rw [lastOf_filter (RD.A t (mem_reads (by rw [hop]; simp [Op.operands]))), hs2, hlt] at hsl
        simp only at hsl
        have hb : a.tmps.getD t undef = .bool b := hb
        rw [hb] at hsl
        left
        refine w4.2 ?_
        cases hwg : w'.g.val with
        | false => have := hsl.2 hwg; cases this
        | true =>
         refine ⟨rfl, ?_⟩
         have hd := hsl.1 hwg
         obtain ⟨w'', w1', w2', _, w4', w5'⟩ := guard_truth (hAq.key_some hqk)
         have := B.inj (r := w'') (q := w') (by rw [eq]; simp [w1']) hwm (by rw [w2'])
         subst this
         obtain ⟨β, hβ⟩ := w5' hwg
         rw [hβ] at hd
         have := hd.bool_inv
         exact ⟨β, hβ, by cases this; rfl⟩
     | const v => exact (hn rfl).elim
     | global g => exact (hn rfl).elim
     | func f => exact (hn rfl).elim
    obtain ⟨t, ht, hd⟩ := pickS_den (v := .nilIface) hpk hc (a.eval x) (a.eval y)
     (fun hb => eval_ok EO B I hr hg hs2 (side true hb) x fun d hd => by subst hd; exact RD.A d (mem_reads (by rw [hop]; simp [Op.operands])))
     (fun hb => eval_ok EO B I hr hg hs2 (side false hb) y fun d hd => by subst hd; exact RD.A d (mem_reads (by rw [hop]; simp [Op.operands])))
    refine Yields.value (r := { v := v }) hM (v := if t then a.eval x else a.eval y) ?_ hd rfl K Q (fin ?_)
    ·unfold execOp; rw [hop]; simp [ht, asBool]
    ·rw [h6]; intro n hn; cases hn
   ·cases h4
  ·rename_i hnp
   split at h4
   ·cases h4
   ·rename_i r' tch hrun
    split at h4
    ·rename_i hok
     injection h4 with h4
     injection h4 with hres htn
     subst hres htn
     rw [Bool.and_eq_true] at hok
     have hall := allKnown_of hok.1
     have hwf := wsFit_of hok.2
     have hcongr : ∀ look, (sop E o' (fun x => open Classical in if x ∈ o'.op.operands.toList then evR E fr l r.key none x else .any) r.next).run look [] = (sop E o' (evR E fr l r.key none) r.next).run look [] := fun look => by
      congr 1
      exact sop_congr fun x hx => by simp only [hx, if_true]
     have hevA : ∀ x, Den C W R ρ (open Classical in if x ∈ o'.op.operands.toList then evR E fr l r.key none x else .any) (a.eval x) := fun x => by
      by_cases hx : x ∈ o'.op.operands.toList
      ·simp only [hx, if_true]; exact hev x hx
      ·simp only [hx, if_false]; exact .any _
     by_cases hs : ∃ q ∈ recs, q.g.val = true ∧ (sb = some q.idx ∧ r.idx < q.idx ∧ L q = true ∧ commP E fr hp (recs.filter fun x => decide (x.idx < r.idx)) r o' q)
     ·-- another one has come first
      obtain ⟨q, hq, hqg, hsb, hlt, hLq, hcm⟩ := hs
      rw [hs2] at hcm
      have hP1 : decide (q.idx < r.idx) = false := decide_eq_false (by omega)
      have hcT : ∀ n ∈ r.tch, contT hp (recs.filter L) n = upd (contT hp l) q.ws n := fun n hn => by
       have hside : ∀ x ∈ recs, x.g.val = true → (∃ c, find n x.ws = some c) → L x = addL (fun x => decide (x.idx < r.idx)) q x := fun x hx hxg hxn => by
        by_cases hxq : x.idx = q.idx
        ·have := B.inj hx hq hxq
         subst this
         rw [hLq]; simp [addL]
        ·have hne : (x.idx == q.idx) = false := by simpa using hxq
         rcases RD.B n hn x hx hxn with hB1 | ⟨hB1, _⟩
         ·rw [hB1]; simp [addL, hne]
         ·rw [hsb] at hB1
          exact (hxq (by simpa using hB1.symm)).elim
       have hadd := B.cont_add (hp := hp) (L := fun x => decide (x.idx < r.idx)) hq hP1 (fun n c hc x hx hLx _ => by have := of_decide_eq_true hLx; omega)
       rw [contT_filter2 hside, hadd, hs2, hqg]
      unfold commP at hcm
      split at hcm
      ·rename_i r2 tch2 hrun2
       obtain ⟨⟨c1, c2, c3, c4, c5⟩, c6⟩ := hcm
       replace c2 := nilB_of c2
       replace c3 := nilB_of c3
       obtain ⟨c6, c7⟩ := c6 hg
       have hrun2' := (Acc.run_look (look' := contT hp (recs.filter L)) hrun2 fun n hn => by
        have hn := subN_of c1 n hn
        rw [hcT n hn]
        unfold upd
        cases hf : find n q.ws with
        | some c => rfl
        | none =>
         obtain ⟨c, hc⟩ := hall n hn
         simp only
         rw [hc]; exact hlk n c hc).1
       refine sop_ok (r := r2) (next := r.next) (l := []) (l' := tch2) (ev := fun x => open Classical in if x ∈ o'.op.operands.toList then evR E fr l r.key none x else .any) ⟨EO, hM, hevA, by rw [← hrun2']; exact hcongr _, fun p hp => by rw [hp] at c7; exact c7, fun j hj => by rw [c5] at hj; cases hj⟩ (fun c x y => hnp c x y) K Q fun v W' R' ρ' T hd => ?_
       exact hK _ _ R' ρ' (InvR.add B I e hB hA hpre hlast hL RD.C (fun _ n hn => by rw [c2] at hn; cases hn) (v := v) (by rw [hg, c2]; rw [c3] at T; exact T) (fun _ => by rw [← c6]; exact hd) fun h => by rw [hg] at h; cases h)
      ·exact hcm.elim
     ·have hcT : ∀ n ∈ r.tch, contT hp (recs.filter L) n = contT hp l n := fun n hn => by
       rw [contT_filter2 (q := fun x => decide (x.idx < r.idx)) fun x hx hxg hxn => ?_, hs2]
       rcases RD.B n hn x hx hxn with hB1 | hB1
       ·exact hB1
       ·exact (hs ⟨x, hx, hxg, hB1⟩).elim
      have hrun' := (Acc.run_look (look' := contT hp (recs.filter L)) hrun fun n hn => let ⟨c, hc⟩ := hall n hn; by rw [hc, hcT n hn]; exact hlk n c hc).1
      refine sop_ok (next := r.next) (l := []) (l' := r.tch) (ev := fun x => open Classical in if x ∈ o'.op.operands.toList then evR E fr l r.key none x else .any) ⟨EO, hM, hevA, by rw [← hrun']; exact hcongr _, fun q hq => h8 q hq hg, fun j hj => I.fresh r hr hL j (by rw [h7]; exact hj)⟩ (fun c x y => hnp c x y) K Q (fin ?_)
      rw [h6, h7]
      intro n hn
      rcases hwf n hn with hw | hw
      ·obtain ⟨c, hc⟩ := hall n hw
       exact .inl ⟨c, by rw [hcT n hw]; exact hlk n c hc⟩
      ·exact .inr hw
    ·cases h4
end
end Go.Sy

set_option linter.unusedVariables false
set_option linter.unusedSimpArgs false
namespace Go.Sy
open Go.RowKit
section
variable {P : Program} {C : Ctx} {gl : List (Nat × SVal)} {E : Env} {ops : List Oper} {fr : List (Nat × SVal)} {hp : List (Nat × Option Cont)} {sz next0 next1 : Nat} {recs : List Rec}
variable {W0 : World} {R0 own0 : Nat → Prop} {ρs : Nat → Option Value} {L : Rec → Bool} {a : Act} {W W' : World} {R R' : Nat → Prop} {ρ ρ' : Nat → Option Value} {h : Nat → Option Cont} {Q : Exit → Act → World → Prop}
theorem Built.at (B : Built E ops fr hp sz next0 recs next1) : ∀ i, i < recs.length → ∃ r ∈ recs, r.idx = i := by
 induction B with
 | nil => intro i h; cases h
 | cons l r o next hB hA hn ih =>
  intro i hi
  simp only [List.length_cons] at hi
  by_cases h : i < l.length
  ·obtain ⟨q, hq, e⟩ := ih i h
   exact ⟨q, List.mem_cons_of_mem _ hq, e⟩
  ·exact ⟨r, List.mem_cons_self .., by have := hA.idx; omega⟩
theorem InvR.congr {L' : Rec → Bool} (I : InvR E C gl W0 R0 own0 ρs fr hp sz next1 recs L a W R ρ) (h : ∀ q ∈ recs, L q = L' q) : InvR E C gl W0 R0 own0 ρs fr hp sz next1 recs L' a W R ρ := by
 have e : recs.filter L = recs.filter L' := List.filter_congr h
 obtain ⟨h1, h2, h3, h4, h5, h6, h7, h8⟩ := I
 rw [e] at h2 h4
 exact ⟨fun d => by have := h1 d; rwa [e] at this, h2, h3, h4, fun r hr hL => h5 r hr (by rw [h r hr]; exact hL), h6, h7, h8⟩
theorem region_seq (EO : EnvOk P C gl E) (B : Built E ops fr hp sz next0 recs next1) (hlen : recs.length = ops.length)
  (hQ : ∀ a W R ρ, InvR E C gl W0 R0 own0 ρs fr hp sz next1 recs (fun _ => true) a W R ρ → Q .normal a W) :
  ∀ (n i : Nat) {a : Act} {W : World} {R : Nat → Prop} {ρ : Nat → Option Value}, i + n = ops.length → InvR E C gl W0 R0 own0 ρs fr hp sz next1 recs (fun q => decide (q.idx < i)) a W R ρ → wpOps P ops.toArray Q (List.range' i n) a W := by
 intro n
 induction n with
 | zero =>
  intro i a W R ρ hi I
  refine hQ a W R ρ (I.congr fun q hq => ?_)
  have := (B.mem q hq).1
  simp; omega
 | succ n ih =>
  intro i a W R ρ hi I
  rw [List.range'_succ, wpOps_cons]
  obtain ⟨r, hr, rfl⟩ := B.at i (by omega)
  obtain ⟨o, ho, _⟩ := B.op hr
  refine step_ok EO B hr ho (by simp) ⟨fun d _ q _ _ => rfl, fun n _ q _ _ => .inl rfl, fun n c _ q _ hq _ => by simpa using hq⟩ (sb := none) I _ fun a W R ρ I => ?_
  refine ih (r.idx + 1) (by omega) (I.congr fun q hq => ?_)
  simp only [addL]
  by_cases h1 : q.idx < r.idx
  ·have : q.idx < r.idx + 1 := by omega
   simp [h1, this]
  ·by_cases h2 : q.idx = r.idx
   ·simp [h2]
   ·have : ¬ q.idx < r.idx + 1 := by omega
    simp [h1, h2, this]
def ReadyS (ops : List Oper) (S : Nat → Prop) (i : Nat) : Prop := ∀ o, ops[i]? = some o → ∀ e ∈ o.after.toList, bindsB e.ground = true → S e.on
def ClosedS (ops : List Oper) (S : Nat → Prop) : Prop := ∀ i, S i → ReadyS ops S i
theorem fold_bit (f : Edge → Nat) (l : List Edge) : ∀ (m j : Nat), (l.foldl (fun m e => match bindsB e.ground with | true => Nat.lor m (f e) | false => m) m).testBit j = true →
  m.testBit j = true ∨ ∃ e ∈ l, bindsB e.ground = true ∧ (f e).testBit j = true := by
 induction l with
 | nil => intro m j h; exact .inl h
 | cons e l ih =>
  intro m j h
  simp only [List.foldl_cons] at h
  rcases ih _ _ h with h1 | ⟨e', h1, h2, h3⟩
  ·split at h1
   ·rename_i hb
    have : (m ||| f e).testBit j = true := h1
    rw [Nat.testBit_or, Bool.or_eq_true] at this
    rcases this with h | h
    ·exact .inl h
    ·exact .inr ⟨e, List.mem_cons_self .., hb, h⟩
   ·exact .inl h1
  ·exact .inr ⟨e', List.mem_cons_of_mem _ h1, h2, h3⟩
theorem masks_ok {S : Nat → Prop} (hS : ClosedS ops S) : ∀ (l : List Oper) (n : Nat) (acc : List Nat), ops.drop n = l → n ≤ ops.length → (∀ i j, ReadyS ops S i → (maskAt acc n i).testBit j = true → S j) →
  ∀ i j, ReadyS ops S i → (maskAt (masks l n acc) ops.length i).testBit j = true → S j := by
 intro l
 induction l with
 | nil =>
  intro n acc hd hn h i j
  have := List.drop_eq_nil_iff.1 hd
  have : n = ops.length := by omega
  subst this
  exact h i j
 | cons o l ih =>
  intro n acc hd hn h
  have hlt : n < ops.length := by
   apply Nat.lt_of_not_le; intro hc
   rw [List.drop_eq_nil_of_le hc] at hd; cases hd
  have ho : ops[n]? = some o := by
   have := congrArg (·[0]?) hd
   simpa using this
  have hd' : ops.drop (n + 1) = l := by rw [← List.drop_drop, hd]; rfl
  refine ih (n + 1) _ hd' hlt fun i j hi hj => ?_
  simp only [maskAt, Nat.add_sub_cancel] at hj
  split at hj
  ·rename_i hb
   have hb : n + 1 = i + 1 := Nat.eq_of_beq_eq_true hb
   have hb : n = i := by omega
   subst hb
   rcases fold_bit (fun e => Nat.lor (Nat.pow 2 e.on) (maskAt acc n e.on)) _ _ _ hj with h1 | ⟨e, he, hb, h1⟩
   ·simp at h1
   ·have hSe := hi o ho e he hb
    have : (2 ^ e.on ||| maskAt acc n e.on).testBit j = true := h1
    rw [Nat.testBit_or, Bool.or_eq_true] at this
    rcases this with h2 | h2
    ·rw [Nat.testBit_two_pow] at h2
     have : e.on = j := by simpa using h2
     rw [← this]; exact hSe
    ·exact h e.on j (hS _ hSe) h2
  ·exact h i j hi hj
theorem orderedAll_ok {ms : List Nat} {n : Nat} {sb : Option Nat} : ∀ {l : List (Rec × List Nat)}, orderedAll ops ms n sb l = true → ∀ pre b rb post, l = pre ++ (b, rb) :: post → ∀ a ra, (a, ra) ∈ post →
  (hard a b ra rb = true → (maskAt ms n b.idx).testBit a.idx = true) ∧ (soft a b = true → (maskAt ms n b.idx).testBit a.idx = true ∨ isNext sb b.idx = true) := by
 intro l
 induction l with
 | nil => intro _ pre b rb post e; simp at e
 | cons p l ih =>
  intro h pre b rb post e a ra hm
  obtain ⟨b', rb'⟩ := p
  simp only [orderedAll, Bool.and_eq_true] at h
  cases pre with
  | nil =>
   simp only [List.nil_append, List.cons.injEq, Prod.mk.injEq] at e
   obtain ⟨⟨rfl, rfl⟩, rfl⟩ := e
   have := List.all_eq_true.1 h.1 (a, ra) hm
   simp only at this
   cases hh : hard a b' ra rb' with
   | true =>
    rw [hh] at this
    exact ⟨fun _ => this, fun _ => .inl this⟩
   | false =>
    rw [hh] at this
    refine ⟨(fun h => by cases h), fun hs => ?_⟩
    rw [hs] at this
    simpa using this
  | cons q pre =>
   simp only [List.cons_append, List.cons.injEq] at e
   exact ih h.2 pre b rb post e.2 a ra hm
theorem Built.ordered (B : Built E ops fr hp sz next0 recs next1) (hd : drawOk ops recs = true) {S : Nat → Prop} (hS : ClosedS ops S) {a b : Rec} {oa ob : Oper} (ha : a ∈ recs) (hb : b ∈ recs) (hlt : a.idx < b.idx)
  (hoa : ops[a.idx]? = some oa) (hob : ops[b.idx]? = some ob) (hr : ReadyS ops S b.idx) :
  (hard a b (readsOf ops oa) (readsOf ops ob) = true → S a.idx) ∧ (soft a b = true → S a.idx ∨ ((maskAt (masks ops 0 []) ops.length b.idx).testBit a.idx = false ∧ softIdx (masks ops 0 []) ops.length recs = some b.idx)) := by
 unfold drawOk at hd
 rw [Bool.and_eq_true] at hd
 obtain ⟨pre, l, o, e, hB, hA, hpre, _⟩ := B.split hb
 have hal : a ∈ l := by
  rw [e] at ha
  rcases List.mem_append.1 ha with h | h
  ·have := (hpre a h).1; omega
  ·rcases List.mem_cons.1 h with rfl | h
   ·omega
   ·exact h
 have hmk := fun h => masks_ok hS ops 0 [] rfl (Nat.zero_le _) (fun i j _ h => by simp [maskAt] at h) b.idx a.idx hr h
 have := orderedAll_ok hd.2 (pre.map _) b _ (l.map _) (by rw [show recs.map _ = _ from congrArg _ e, List.map_append, List.map_cons]) a _ (List.mem_map.2 ⟨a, hal, rfl⟩)
 simp only [hoa, hob] at this
 refine ⟨fun h => hmk (this.1 h), fun h => ?_⟩
 cases ht : (maskAt (masks ops 0 []) ops.length b.idx).testBit a.idx with
 | true => exact .inl (hmk ht)
 | false =>
  rcases this.2 h with h1 | h1
  ·rw [ht] at h1; cases h1
  ·refine .inr ⟨rfl, ?_⟩
   unfold isNext at h1
   split at h1
   ·rename_i j hj; rw [hj, Nat.eq_of_beq_eq_true h1]
   ·cases h1
theorem Built.rec_at (B : Built E ops fr hp sz next0 recs next1) {r : Rec} (hr : r ∈ recs) : recAt recs r.idx = some r := by
 have : ∀ l : List Rec, r ∈ l → (∀ q ∈ l, q ∈ recs) → recAt l r.idx = some r := by
  intro l
  induction l with
  | nil => intro h; cases h
  | cons q l ih =>
   intro h hs
   simp only [recAt]
   cases hb : q.idx.beq r.idx with
   | true => rw [B.inj (hs q (List.mem_cons_self ..)) hr (Nat.eq_of_beq_eq_true hb)]
   | false =>
    rcases List.mem_cons.1 h with rfl | h
    ·rw [Nat.beq_refl] at hb; cases hb
    ·exact ih h fun q hq => hs q (List.mem_cons_of_mem _ hq)
 exact this recs hr fun _ h => h
theorem commsAt_mem {ms : List Nat} {b r : Rec} {o : Oper} {l : List Rec} : ∀ {pre : List Rec}, r.idx < b.idx → soft r b = true → (maskAt ms ops.length b.idx).testBit r.idx = false → ops[r.idx]? = some o → commP E fr hp l r o b ∈ commsAt E fr hp ops ms b (pre ++ r :: l) := by
 intro pre
 induction pre with
 | nil =>
  intro h0 h1 h2 h3
  have h0 : Nat.ble (r.idx + 1) b.idx = true := Nat.ble_eq_true_of_le h0
  simp only [List.nil_append, commsAt, h0, h1, h2, h3, Bool.not_false, Bool.and_self]
  exact List.mem_append_left _ (List.mem_cons_self ..)
 | cons q pre ih =>
  intro h0 h1 h2 h3
  simp only [List.cons_append, commsAt]
  exact List.mem_append_right _ (ih h0 h1 h2 h3)
theorem meets_of {a b : List Nat} {x : Nat} (h1 : x ∈ a) (h2 : x ∈ b) : meets a b = true := List.any_eq_true.2 ⟨x, h1, memN_iff.2 h2⟩
theorem keysN_eq (ws : List (Nat × Option Cont)) : keysN ws = keys ws := by
 induction ws with
 | nil => rfl
 | cons p ws ih => obtain ⟨r, c⟩ := p; simp only [keysN, keys, List.map_cons, ih]
theorem memD_of {o : Option Nat} {d : Nat} {l : List Nat} (h : isDst o d = true) (hd : d ∈ l) : memD o l = true := by
 rw [isDst_iff.1 h]; exact memN_iff.2 hd
theorem ready_draw (B : Built E ops fr hp sz next0 recs next1) (hd : drawOk ops recs = true) (hcm : ∀ p ∈ comms E fr hp ops recs, p) {S : Nat → Prop} (hS : ClosedS ops S) (hSL : ∀ q ∈ recs, L q = true ↔ S q.idx) {r : Rec} (hr : r ∈ recs) {o : Oper} (ho : ops[r.idx]? = some o)
  (hrs : ReadyS ops S r.idx) (hL : L r = false) : Ready E fr hp (softIdx (masks ops 0 []) ops.length recs) ops o recs L r := by
 have hnS : ¬ S r.idx := fun h => by have := (hSL r hr).2 h; rw [hL] at this; cases this
 have lo : ∀ q ∈ recs, ∀ oq, ops[q.idx]? = some oq → q.idx < r.idx → hard q r (readsOf ops oq) (readsOf ops o) = true → L q = true := fun q hq oq hoq hlt hc =>
  (hSL q hq).2 ((B.ordered hd hS hq hr hlt hoq ho hrs).1 hc)
 have hi : ∀ q ∈ recs, ∀ oq, ops[q.idx]? = some oq → r.idx < q.idx → hard r q (readsOf ops o) (readsOf ops oq) = true → L q = false := fun q hq oq hoq hlt hc => by
  cases hLq : L q with
  | false => rfl
  | true => exact (hnS ((B.ordered hd hS hr hq hlt ho hoq (hS _ ((hSL q hq).1 hLq))).1 hc)).elim
 refine ⟨fun d hdr q hq hqd => ?_, fun n hn q hq hqn => ?_, fun n c hc q hq hLq hqn => ?_⟩
 ·obtain ⟨oq, hoq, _⟩ := B.op hq
  have hmd := memD_of hqd hdr
  rcases Nat.lt_trichotomy q.idx r.idx with h | h | h
  ·rw [lo q hq oq hoq h (by simp [hard, hmd])]; simp [h]
  ·have := B.inj hq hr h
   subst this
   rw [hL]; simp
  ·rw [hi q hq oq hoq h (by simp [hard, hmd])]; have : ¬ q.idx < r.idx := by omega
   simp [this]
 ·obtain ⟨oq, hoq, _⟩ := B.op hq
  obtain ⟨c, hc⟩ := hqn
  have hmt := meets_of (a := keysN q.ws) (b := r.tch) (x := n) (by rw [keysN_eq]; exact find_key hc) hn
  rcases Nat.lt_trichotomy q.idx r.idx with h | h | h
  ·left
   rw [lo q hq oq hoq h (by simp [hard, hmt])]; simp [h]
  ·left
   have := B.inj hq hr h
   subst this
   rw [hL]; simp
  ·cases hLq : L q with
   | false =>
    left
    have : ¬ q.idx < r.idx := by omega
    simp [this]
   | true =>
    right
    rcases (B.ordered hd hS hr hq h ho hoq (hS _ ((hSL q hq).1 hLq))).2 hmt with h1 | ⟨h1, h2⟩
    ·exact (hnS h1).elim
    ·refine ⟨h2, h, rfl, ?_⟩
     obtain ⟨pre, l, o', e, hB, hA, hpre, _⟩ := B.split hr
     rw [(B.sides e hB hA hpre).2]
     refine hcm _ ?_
     unfold comms
     rw [h2]
     simp only [B.rec_at hq]
     have := commsAt_mem (E := E) (fr := fr) (hp := hp) (ops := ops) (l := l) (pre := pre) h hmt h1 ho
     rw [← e] at this
     exact this
 ·obtain ⟨c', hc'⟩ := hqn
  obtain ⟨oq, hoq, _⟩ := B.op hq
  rcases Nat.lt_trichotomy q.idx r.idx with h | h | h
  ·exact h
  ·have := B.inj hq hr h
   subst this
   rw [hL] at hLq; cases hLq
  ·have := meets_of (a := keysN r.ws) (b := keysN q.ws) (x := n) (by rw [keysN_eq]; exact find_key hc) (by rw [keysN_eq]; exact find_key hc')
   have := hi q hq oq hoq h (by simp [hard, this])
   rw [this] at hLq; cases hLq
theorem edgesOk_ok : ∀ {l : List Oper} {n : Nat}, edgesOk l n = true → ∀ i o, l[i]? = some o → ∀ e ∈ o.after.toList, bindsB e.ground = true → e.on < n + i := by
 intro l
 induction l with
 | nil => intro n _ i o h; simp at h
 | cons o l ih =>
  intro n h i o' hi e he hb
  simp only [edgesOk, Bool.and_eq_true] at h
  cases i with
  | zero =>
   simp at hi; subst hi
   have := List.all_eq_true.1 h.1 e he
   simp only [hb] at this
   exact Nat.le_of_ble_eq_true this
  | succ i =>
   have := ih h.2 i o' (by simpa using hi) e he hb
   omega
theorem binds_any (e : Edge) : Region.binds .any e = bindsB e.ground := by
 unfold Region.binds bindsB
 cases e.ground <;> rfl
theorem ready_iff {listed : Array Bool} {i : Nat} (hsz : listed.size = ops.length) : i ∈ Region.ready .any ops.toArray listed ↔ i < ops.length ∧ listed.getD i false = false ∧ ReadyS ops (fun i => listed.getD i false = true) i := by
 unfold Region.ready
 rw [List.mem_filter]
 simp only [List.mem_range, List.size_toArray, Bool.and_eq_true]
 constructor
 ·rintro ⟨h1, h2, h3⟩
  refine ⟨h1, ?_, ?_⟩
  ·have hlt : i < listed.size := by omega
   simpa [Array.getD, hlt] using h2
  ·intro o ho e he hb
   have : ops.toArray[i]? = some o := by simpa using ho
   rw [this] at h3
   simp only [Option.map_some, Option.getD_some, Array.all_eq_true'] at h3
   have := h3 e (by simpa using he)
   rw [binds_any, hb] at this
   simpa using this
 ·rintro ⟨h1, h2, h3⟩
  refine ⟨h1, ?_, ?_⟩
  ·have hlt : i < listed.size := by omega
   simpa [Array.getD, hlt] using h2
  ·have ho : ops[i]? = some ops[i] := List.getElem?_eq_getElem h1
   have hoa : ops.toArray[i]? = some ops[i] := by simp [h1]
   rw [hoa]
   simp only [Option.map_some, Option.getD_some, Array.all_eq_true']
   intro e he
   rw [binds_any]
   cases hb : bindsB e.ground with
   | false => rfl
   | true => simpa using h3 _ ho e (by simpa using he) hb
theorem region_any (EO : EnvOk P C gl E) (B : Built E ops fr hp sz next0 recs next1) (hlen : recs.length = ops.length) (hd : drawOk ops recs = true) (hcm : ∀ p ∈ comms E fr hp ops recs, p)
  (hQ : ∀ a W R ρ, InvR E C gl W0 R0 own0 ρs fr hp sz next1 recs (fun _ => true) a W R ρ → Q .normal a W) :
  ∀ (fuel : Nat) (listed : Array Bool) {a : Act} {W : World} {R : Nat → Prop} {ρ : Nat → Option Value}, listed.size = ops.length → ClosedS ops (fun i => listed.getD i false = true) →
   (recs.filter fun q => !listed.getD q.idx false).length ≤ fuel → InvR E C gl W0 R0 own0 ρs fr hp sz next1 recs (fun q => listed.getD q.idx false) a W R ρ → wpAny P .any ops.toArray Q fuel listed a W := by
 have hed : edgesOk ops 0 = true := by unfold drawOk at hd; rw [Bool.and_eq_true] at hd; exact hd.1
 intro fuel
 induction fuel with
 | zero =>
  intro listed a W R ρ hsz hcl hn I
  have hall : ∀ q ∈ recs, listed.getD q.idx false = true := fun q hq => by
   have := List.filter_eq_nil_iff.1 (List.eq_nil_of_length_eq_zero (Nat.le_zero.1 hn)) q hq
   simpa using this
  refine ⟨?_, hQ a W R ρ (I.congr fun q hq => hall q hq)⟩
  apply List.eq_nil_iff_forall_not_mem.2
  intro i hi
  obtain ⟨h1, h2, _⟩ := (ready_iff hsz).1 hi
  obtain ⟨r, hr, rfl⟩ := B.at i (by omega)
  rw [hall r hr] at h2; cases h2
 | succ fuel ih =>
  intro listed a W R ρ hsz hcl hn I
  refine ⟨fun hnil => ?_, fun i hi => ?_⟩
  ·have hall : ∀ i, i < ops.length → listed.getD i false = true := by
    intro i
    induction i using Nat.strongRecOn with
    | _ i ihi =>
     intro hlt
     cases hli : listed.getD i false with
     | true => rfl
     | false =>
      have : i ∈ Region.ready .any ops.toArray listed := (ready_iff hsz).2 ⟨hlt, hli, fun o ho e he hb => by
       have := edgesOk_ok hed i o ho e he hb
       exact ihi e.on (by omega) (by omega)⟩
      rw [hnil] at this; cases this
   exact hQ a W R ρ (I.congr fun q hq => hall _ (by have := (B.mem q hq).1; omega))
  ·obtain ⟨h1, h2, h3⟩ := (ready_iff hsz).1 hi
   obtain ⟨r, hr, rfl⟩ := B.at i (by omega)
   obtain ⟨o, ho, _⟩ := B.op hr
   have hlt : r.idx < listed.size := by omega
   have hset : ∀ j, (listed.setIfInBounds r.idx true).getD j false = (listed.getD j false || j == r.idx) := fun j => by
    by_cases hj : r.idx = j
    ·subst hj; simp [Array.getD_eq_getD_getElem?, Array.getElem?_setIfInBounds, hlt]
    ·have : (j == r.idx) = false := by simpa using fun h => hj h.symm
     simp [Array.getD_eq_getD_getElem?, Array.getElem?_setIfInBounds, hj, this]
   refine step_ok EO B hr ho h2 (ready_draw B hd hcm hcl (fun q hq => Iff.rfl) hr ho h3 h2) I _ fun a W R ρ I => ?_
   refine ih _ (by simpa using hsz) ?_ ?_ (I.congr fun q hq => (hset q.idx).symm)
   ·intro i hi o' ho' e he hb
    rw [hset] at hi ⊢
    rw [Bool.or_eq_true] at hi ⊢
    rcases hi with hi | hi
    ·exact .inl (hcl i hi o' ho' e he hb)
    ·have : i = r.idx := by simpa using hi
     subst this
     exact .inl (h3 o' ho' e he hb)
   ·have e : (recs.filter fun q => !(listed.setIfInBounds r.idx true).getD q.idx false) = (recs.filter fun q => !listed.getD q.idx false).filter fun q => !(q.idx == r.idx) := by
     rw [List.filter_filter]
     refine List.filter_congr fun q hq => ?_
     rw [hset, Bool.not_or, Bool.and_comm]
    have hlt' : ((recs.filter fun q => !listed.getD q.idx false).filter fun q => !(q.idx == r.idx)).length < (recs.filter fun q => !listed.getD q.idx false).length := by
     rw [List.length_filter_lt_length_iff_exists]
     exact ⟨r, List.mem_filter.2 ⟨hr, by rw [h2]; rfl⟩, by simp⟩
    rw [e]; omega
end
end Go.Sy

set_option linter.unusedVariables false
set_option linter.unusedSimpArgs false
namespace Go.Sy
open Go.RowKit
def ρσ (σ : List (Nat × Nat)) (ρ : Nat → Option Value) : Nat → Option Value := fun r => (find r σ).bind fun q => match Nat.ble nilN q with
 | true => some (.slice none 0 0)
 | false => ρ q
def RF (σ : List (Nat × Nat)) (h : Nat → Option Cont) (ρ : Nat → Option Value) (R : Nat → Prop) : Nat → Prop := fun b => R b ∨ ∃ n c v, rng σ n = false ∧ h n = some c ∧ ρ n = some v ∧ blk v = some b
section
variable {C : Ctx} {gl : List (Nat × SVal)} {W : World} {R : Nat → Prop} {ρ : Nat → Option Value} {h : Nat → Option Cont} {σ : List (Nat × Nat)}
theorem same_ok {q r : Nat} (h : same q r = true) : q = r ∧ Nat.ble nilN q = false := by
 unfold same at h
 split at h
 ·cases h
 ·rename_i hb; exact ⟨Nat.eq_of_beq_eq_true h, hb⟩
theorem ρσ_at {r q : Nat} (hf : find r σ = some q) (hb : Nat.ble nilN q = false) : ρσ σ ρ r = ρ q := by unfold ρσ; rw [hf]; simp only [Option.bind_some, hb]
theorem ρσ_nil {r q : Nat} (hf : find r σ = some q) (hb : Nat.ble nilN q = true) : ρσ σ ρ r = some (.slice none 0 0) := by unfold ρσ; rw [hf]; simp only [Option.bind_some, hb]
theorem rng_find {r q : Nat} (hf : find r σ = some q) : rng σ q = true := by
 induction σ with
 | nil => cases hf
 | cons p σ ih =>
  obtain ⟨m, x⟩ := p
  simp only [find] at hf
  split at hf
  ·cases hf; simp [rng]
  ·simp [rng, ih hf]
theorem kEq_ok {k k' : IntKind} (hk : kEq k k' = true) : k = k' := by cases k <;> cases k' <;> first | rfl | cases hk
theorem subI_ok {k : IntKind} {a b : SI} (hp : ∀ p ∈ subI k a b, p) (hi : InI k a) : a.val = b.val ∧ InI k b := by
 unfold subI at hp
 split at hp
 ·have := hp _ (List.mem_cons_self ..)
  rename_i n
  have e : SI.val (.lit n) = n := rfl
  refine ⟨this, ?_⟩
  have h1 := hi.lo; have h2 := hi.hi
  rw [this] at h1 h2
  exact ⟨h1, h2, Int.le_refl _, Int.le_refl _⟩
 ·have := hp _ (List.mem_cons_self ..)
  have h1 := hi.lo; have h2 := hi.hi
  rw [this] at h1 h2
  exact ⟨this, h1, h2, h1, h2⟩
 ·rename_i n lo hi'
  split at hp
  ·rename_i hb
   have := hp _ (List.mem_cons_self ..)
   rw [Bool.and_eq_true] at hb
   have h1 := hi.lo; have h2 := hi.hi; have h3 := hi.lo'; have h4 := hi.hi'
   rw [this] at h1 h2 h3 h4
   exact ⟨this, h1, h2, Int.le_trans (leB_iff.1 hb.1) h3, Int.le_trans h4 (leB_iff.1 hb.2)⟩
  ·have h0 := hp _ (List.mem_cons_self ..)
   have h5 := hp _ (List.mem_cons_of_mem _ (List.mem_cons_self ..))
   have h1 := hi.lo; have h2 := hi.hi
   rw [h0] at h1 h2
   exact ⟨h0, h1, h2, h5.1, h5.2⟩
theorem no {α : Prop} {l : List Prop} (hp : ∀ p ∈ False :: l, p) : α := (hp _ (List.mem_cons_self ..)).elim
theorem hd1 {p : Prop} {l : List Prop} (hp : ∀ q ∈ p :: l, q) : p := hp _ (List.mem_cons_self ..)
theorem tl1 {p : Prop} {l : List Prop} (hp : ∀ q ∈ p :: l, q) : ∀ q ∈ l, q := fun q hq => hp q (List.mem_cons_of_mem _ hq)
theorem hd2 {p p' : Prop} {l : List Prop} (hp : ∀ q ∈ p :: p' :: l, q) : p' := hp _ (List.mem_cons_of_mem _ (List.mem_cons_self ..))
theorem hd3 {p p' p'' : Prop} {l : List Prop} (hp : ∀ q ∈ p :: p' :: p'' :: l, q) : p'' := hp _ (List.mem_cons_of_mem _ (List.mem_cons_of_mem _ (List.mem_cons_self ..)))
theorem cells_at {b : Nat} {vs : List Value} {T : Nat} {z : Nat × Nat} (hh : W.heap[b]? = some (.cells vs.toArray T z)) : CellsAt W b 0 vs := fun j v hv => by
 unfold World.cell?
 simp only [hh, Option.isSome_none, Bool.false_eq_true, if_false, Nat.zero_add]
 simpa using hv
theorem eqB_ok {a b : Bool} (he : eqB a b = true) : a = b := by cases a <;> cases b <;> first | rfl | cases he
def plain1 : SVal → Bool
 | .int .. | .bool _ | .str _ | .err _ | .ro _ _ | .rom _ _ _ => true
 | _ => false
def plain : SVal → Bool
 | .agg l => l.all plain1
 | s => plain1 s
theorem plain_1 {s : SVal} (h : plain1 s = true) : plain s = true := by cases s <;> first | exact h | cases h
theorem FK.enc_plain1 (k : FK) (x : k.ty) : plain1 (k.enc x) = true := by cases k <;> rfl
theorem encRec_plain1 : ∀ (k : FK) (ks : List FK) (x : recTy k ks), ∀ s ∈ encRec k ks x, plain1 s = true
 | k, [], x, s, h => by rw [List.mem_singleton.1 h]; exact k.enc_plain1 x
 | k, k' :: ks, x, s, h => by
  rcases List.mem_cons.1 h with h | h
  ·rw [h]; exact k.enc_plain1 x.1
  ·exact encRec_plain1 k' ks x.2 s h
theorem enc_plain1 (t : RT) (x : t.ty) : ∀ s ∈ t.enc x, plain1 s = true := by
 cases t <;> first | exact encRec_plain1 _ _ _ | simp [RT.enc, In5.enc, plain1]
theorem enc_plain (t : RT) (x : t.ty) : ∀ s ∈ t.enc x, plain s = true := fun s hs => plain_1 (enc_plain1 t x s hs)
theorem flat_plain (t : RT) (l : List t.ty) : ∀ s ∈ l.flatMap t.enc, plain s = true := by
 intro s hs
 obtain ⟨x, _, hx⟩ := List.mem_flatMap.1 hs
 exact enc_plain t x s hx
theorem recV_plain (t : RT) (x : t.ty) : plain (recV t x) = true := by
 unfold recV
 cases h : t.isS with
 | true => simp only [plain]; exact List.all_eq_true.2 fun s hs => enc_plain1 t x s hs
 | false =>
  cases t <;> first | (cases h; done) | rfl
mutual
theorem Den.free {R' : Nat → Prop} {ρ' : Nat → Option Value} (hR : ∀ b, R b → R' b) : ∀ {s : SVal} {v : Value}, Den C W R ρ s v → plain s = true → Den C W R' ρ' s v
 | _, _, .int k n h, _ => .int k n h
 | _, _, .bool b, _ => .bool b
 | _, _, .str s h, _ => .str s h
 | _, _, .fine, _ => .fine
 | _, _, .bare n h, _ => .bare n h
 | _, _, .placed n p b off h1 h2 h3 h4 h5, _ => .placed n p b off h1 (hR _ h2) h3 h4 h5
 | _, _, .ro t l A cap vs h1 h2 h3 h4 h5, _ => .ro t l A cap vs h1 h2 (DenL.free hR h3 (flat_plain t l)) (fun hl => let ⟨b, off, e1, e2, e3⟩ := h4 hl; ⟨b, off, e1, hR _ e2, e3⟩) h5
 | _, _, .romN k t, _ => .romN k t
 | _, _, .rom k t m b es cl h1 h2 h3 h4, _ => .rom k t m b es cl (hR _ h1) h2 h3 (DenA.free hR h4 fun s hs => by obtain ⟨p, _, rfl⟩ := List.mem_map.1 hs; exact recV_plain t p.2)
 | _, _, .agg l vs h, hp => .agg l vs (DenL.free hR h fun s hs => plain_1 (List.all_eq_true.1 hp s hs))
 | _, _, .any v, hp => (by cases hp)
 | _, _, .nilptr, hp => (by cases hp)
 | _, _, .ptr r off b h, hp => (by cases hp)
 | _, _, .eptr r w i j b n cap h h1 h2, hp => (by cases hp)
 | _, _, .aptr r off w n i j b h h1 h2, hp => (by cases hp)
 | _, _, .rop l vs b off h1 h2 h3, hp => (by cases hp)
 | _, _, .ropT l vs b off h1 h2 h3, hp => (by cases hp)
 | _, _, .ropF l, hp => (by cases hp)
 | _, _, .nilslice, hp => (by cases hp)
 | _, _, .own r A n cap h, hp => (by cases hp)
 | _, _, .view t r k n A A' m cap cap' h h1 h2 h3 h4 h5, hp => (by cases hp)
 | _, _, .roN t l A cap vs h1 h2 h3 h4, hp => (by cases hp)
 | _, _, .nilmap, hp => (by cases hp)
 | _, _, .map r b h, hp => (by cases hp)
 | _, _, .nilFunc, hp => (by cases hp)
 | _, _, .func f l vs h, hp => (by cases hp)
 | _, _, .bound f l vs h, hp => (by cases hp)
 | _, _, .nilIface, hp => (by cases hp)
 | _, _, .iface t s v h, hp => (by cases hp)
 | _, _, .atp n p b off h1 h2 h3 h4 h5, hp => (by cases hp)
 | _, _, .atnil e h, hp => (by cases hp)
 | _, _, .arr t n xs vs h1 h2, hp => (by cases hp)
 | _, _, .tuple l vs h, hp => (by cases hp)
theorem DenL.free {R' : Nat → Prop} {ρ' : Nat → Option Value} (hR : ∀ b, R b → R' b) : ∀ {l : List SVal} {vs : List Value}, DenL C W R ρ l vs → (∀ s ∈ l, plain s = true) → DenL C W R' ρ' l vs
 | _, _, .nil, _ => .nil
 | _, _, .one s v l vs h1 h2 h3 h4, hp => .one s v l vs h1 h2 (Den.free hR h3 (hp s (List.mem_cons_self ..))) (DenL.free hR h4 fun x hx => hp x (List.mem_cons_of_mem _ hx))
 | _, _, .arr t n xs us l vs h1 h2 h3, hp => (by have := hp _ (List.mem_cons_self ..); cases this)
theorem DenA.free {R' : Nat → Prop} {ρ' : Nat → Option Value} (hR : ∀ b, R b → R' b) : ∀ {l : List SVal} {vs : List Value}, DenA C W R ρ l vs → (∀ s ∈ l, plain s = true) → DenA C W R' ρ' l vs
 | _, _, .nil, _ => .nil
 | _, _, .cons s v l vs h1 h2, hp => .cons s v l vs (Den.free hR h1 (hp s (List.mem_cons_self ..))) (DenA.free hR h2 fun x hx => hp x (List.mem_cons_of_mem _ hx))
end
theorem frozen_row (M : Mem C gl W R ρ h) {r : Nat} {t : RT} {l : List t.ty} (hr : rng σ r = false) (hh : h r = some (.recs t l)) {A : Option Addr} {n cap : Nat} (hv : ρ r = some (.slice A n cap)) :
  n = l.length ∧ l.length ≤ cap ∧ cap ≤ maxLen ∧ ∃ vs, DenL C W R ρ (l.flatMap t.enc) vs ∧ (l ≠ [] → ∃ b, A = some ⟨b, 0, none⟩ ∧ RF σ h ρ R b ∧ CellsAt W b 0 vs) ∧ (A = none → cap = 0) := by
 obtain ⟨v, hv', e, vs, ho, hd⟩ := M.at_ r _ hh
 rw [hv] at hv'; cases hv'
 obtain ⟨hlen, ⟨he, hn⟩ | ⟨g, cap', cur, he, hb, hg, h1, h2, h3, h4⟩⟩ := ho
 ·cases he
  exact ⟨hn.symm, by omega, by unfold maxLen; omega, vs, hd, fun hl => (by have : l = [] := List.eq_nil_of_length_eq_zero hn; exact (hl this).elim), fun _ => rfl⟩
 ·cases he
  refine ⟨rfl, h1, h2, vs, hd, fun _ => ⟨g, rfl, .inr ⟨r, _, _, hr, hh, hv, rfl⟩, fun j v hj => ?_⟩, fun h => by cases h⟩
  unfold World.cell?
  simp only [hg, Option.isSome_none, Bool.false_eq_true, if_false, Nat.zero_add]
  rw [← h4] at hj
  rw [List.getElem?_take] at hj
  split at hj
  ·simpa using hj
  ·cases hj
theorem int_ents {R' : Nat → Prop} {ρ' : Nat → Option Value} : ∀ {es : List MapEntry} {m : List (Int × Int)}, es.map (fun e => (e.key, e.val)) = m.map (fun p => (Value.int .i64 p.1, Value.int .i64 p.2)) → (∀ p ∈ m, kmin .i64 ≤ p.2 ∧ p.2 ≤ kmax .i64) →
  es.map (fun e => e.key) = m.map (fun p => FK.val (.int .i64) p.1) ∧ DenA C W R' ρ' (m.map fun p => recV .i64 p.2) (es.map fun e => e.val)
 | [], [], _, _ => ⟨rfl, .nil⟩
 | [], _ :: _, h, _ => by cases h
 | _ :: _, [], h, _ => by cases h
 | e :: es, p :: m, h, hr => by
  simp only [List.map_cons, List.cons.injEq, Prod.mk.injEq] at h
  obtain ⟨i1, i2⟩ := int_ents (R' := R') (ρ' := ρ') h.2 fun q hq => hr q (List.mem_cons_of_mem _ hq)
  have h0 := hr p (List.mem_cons_self ..)
  refine ⟨by simp only [List.map_cons, h.1.1, i1]; rfl, ?_⟩
  simp only [List.map_cons, h.1.2]
  exact .cons _ _ _ _ (.int .i64 (.full p.2) ⟨h0.1, h0.2, h0.1, h0.2⟩) i2
theorem sub_ok (M : Mem C gl W R ρ h) : ∀ n,
  (∀ s t v, Den C W R ρ s v → (∀ p ∈ sub C.tAt h σ n s t, p) → Den C W (RF σ h ρ R) (ρσ σ ρ) t v) ∧
  (∀ l l' vs, DenL C W R ρ l vs → (∀ p ∈ subL C.tAt h σ n l l', p) → DenL C W (RF σ h ρ R) (ρσ σ ρ) l' vs) ∧
  (∀ l l' vs, DenA C W R ρ l vs → (∀ p ∈ subL C.tAt h σ n l l', p) → DenA C W (RF σ h ρ R) (ρσ σ ρ) l' vs) := by
 have flatL : ∀ (t : RT) (l : List t.ty) (vs : List Value), DenL C W R ρ (l.flatMap t.enc) vs → DenL C W (RF σ h ρ R) (ρσ σ ρ) (l.flatMap t.enc) vs := fun t l vs hd => hd.free (fun _ h => .inl h) (flat_plain t l)
 have nm : ∀ {r q r' : Nat} {v : Value}, find r' σ = some q → same q r = true → ρ r = some v → ρσ σ ρ r' = some v := fun hf hb hv => by
  obtain ⟨rfl, h2⟩ := same_ok hb
  rw [ρσ_at hf h2]; exact hv
 intro n
 induction n using Nat.strongRecOn with
 | _ n ih =>
 have hS : ∀ s t v, Den C W R ρ s v → (∀ p ∈ sub C.tAt h σ n s t, p) → Den C W (RF σ h ρ R) (ρσ σ ρ) t v := by
  intro s t v hd hp
  unfold sub at hp
  split at hp
  ·exact .any _
  ·-- int
   split at hp
   ·rename_i hk
    have := kEq_ok hk; subst this
    cases hd with
    | int _ _ hi =>
     obtain ⟨e, hi'⟩ := subI_ok hp hi
     rw [e]; exact .int _ _ hi'
   ·exact no hp
  ·cases hd; rw [hd1 hp]; exact .bool _
  ·have := hd1 hp; subst this; cases hd; exact .str _ (by assumption)
  ·cases hd; exact .nilptr
  ·-- ptr
   split at hp
   ·rename_i q hf
    split at hp
    ·rename_i hb
     rw [Bool.and_eq_true] at hb
     cases hd with
     | ptr _ _ b hv =>
      have := Nat.eq_of_beq_eq_true hb.2; subst this
      exact .ptr _ _ b (nm hf hb.1 hv)
    ·exact no hp
   ·exact no hp
  ·-- freeze a box
   split at hp
   ·rename_i l hr hh
    cases hd with
    | ptr _ _ b hv =>
     obtain ⟨v, hv', b', vs, T, e, hb, hl⟩ := M.at_ _ _ hh
     rw [hv] at hv'; cases hv'; cases e
     exact .rop _ vs b 0 (.inr ⟨_, _, _, hr, hh, hv, rfl⟩) ((ih _ (Nat.lt_succ_self _)).2.1 _ _ _ hl hp) (cells_at hb)
   ·exact no hp
  ·-- freeze a box that may not be there
   split at hp
   ·rename_i l hr hh
    have := hd1 hp; subst this
    replace hp := tl1 hp
    cases hd with
    | ptr _ _ b hv =>
     obtain ⟨v, hv', b', vs, T, e, hb, hl⟩ := M.at_ _ _ hh
     rw [hv] at hv'; cases hv'; cases e
     exact .ropT _ vs b 0 (.inr ⟨_, _, _, hr, hh, hv, rfl⟩) ((ih _ (Nat.lt_succ_self _)).2.1 _ _ _ hl hp) (cells_at hb)
   ·exact no hp
  ·have := hd1 hp; subst this; cases hd; exact .ropF _
  ·have := hd1 hp; subst this
   replace hp := tl1 hp
   cases hd with
   | rop _ vs b off h1 hl h2 => exact .ropT _ vs b off (.inl h1) ((ih _ (Nat.lt_succ_self _)).2.1 _ _ _ hl hp) h2
  ·have := hd1 hp; subst this
   replace hp := tl1 hp
   cases hd with
   | ropT _ vs b off h1 hl h2 => exact .rop _ vs b off (.inl h1) ((ih _ (Nat.lt_succ_self _)).2.1 _ _ _ hl hp) h2
  ·have := hd1 hp; subst this
   replace hp := tl1 hp
   cases hd with
   | ropT _ vs b off h1 hl h2 => exact .ropT _ vs b off (.inl h1) ((ih _ (Nat.lt_succ_self _)).2.1 _ _ _ hl hp) h2
   | ropF _ => exact .ropF _
  ·-- own
   split at hp
   ·rename_i q hf
    split at hp
    ·rename_i hb
     cases hd with
     | own _ A m cap hv => exact .own _ A m cap (nm hf hb hv)
    ·exact no hp
   ·exact no hp
  ·-- nil
   split at hp
   ·rename_i q hf
    split at hp
    ·rename_i hb
     cases hd; exact .own _ _ _ _ (ρσ_nil hf hb)
    ·exact no hp
   ·exact no hp
  ·-- freeze a slice
   split at hp
   ·rename_i t' l' hr hh
    split at hp
    ·rename_i e heq
     subst e
     have e := hd1 hp
     simp only at e
     subst e
     cases hd with
     | own _ A m cap hv =>
      obtain ⟨rfl, h1, h2, vs, h3, h4, h5⟩ := frozen_row M hr hh hv
      exact .ro _ _ A cap vs h1 h2 (flatL _ _ _ h3) (fun hl => let ⟨b, e1, e2, e3⟩ := h4 hl; ⟨b, 0, e1, e2, e3⟩) h5
    ·exact no hp
   ·exact no hp
  ·-- view
   split at hp
   ·rename_i q hf ht
    split at hp
    ·rename_i hb
     have ht := of_decide_eq_true ht
     have e1 := hd1 hp
     have e2 := hd2 hp
     subst ht e1 e2
     cases hd with
     | view _ _ _ _ A A' m cap cap' hv h1 h2 h3 h4 h5 => exact .view _ _ _ _ A A' m cap cap' (nm hf hb hv) h1 h2 h3 h4 h5
    ·exact no hp
   ·exact no hp
  ·-- ro
   split at hp
   ·rename_i e heq
    subst e
    have e := hd1 hp
    simp only at e
    subst e
    cases hd with
    | ro _ _ A cap vs h1 h2 h3 h4 h5 => exact .ro _ _ A cap vs h1 h2 (flatL _ _ _ h3) (fun hl => let ⟨b, off, e1, e2, e3⟩ := h4 hl; ⟨b, off, e1, .inl e2, e3⟩) h5
   ·exact no hp
  ·cases hd; exact .nilslice
  ·have := hd1 hp; subst this; cases hd
   exact .ro _ [] none 0 [] (Nat.le_refl _) (Nat.zero_le _) .nil (fun h => (h rfl).elim) (fun _ => rfl)
  ·cases hd; exact .nilmap
  ·have := hd1 hp; subst this; cases hd; exact .romN _ _
  ·-- rom
   split at hp
   ·rename_i e1 e2 _ _
    subst e1; subst e2
    have := hd1 hp
    unfold castM at this
    simp only at this
    subst this
    exact hd.free (fun _ h => .inl h) rfl
   ·exact no hp
  ·-- freeze a map
   split at hp
   ·rename_i k' t' m' hr hh
    split at hp
    ·rename_i e1 e2 _ _
     subst e1; subst e2
     have := hd1 hp
     unfold castM at this
     simp only at this
     subst this
     cases hd with
     | map _ b hv =>
      obtain ⟨v, hv', b', es, cl, e, hb, hk, hx⟩ := M.at_ _ _ hh
      rw [hv] at hv'; cases hv'; cases e
      exact .rom _ _ _ _ es cl (.inr ⟨_, _, _, hr, hh, hv, rfl⟩) hb hk (hx.free (fun _ h => .inl h) fun s hs => by obtain ⟨p, _, rfl⟩ := List.mem_map.1 hs; exact recV_plain _ p.2)
    ·exact no hp
   ·rename_i m' hr hh
    split at hp
    ·rename_i e1 e2 _ _
     subst e1; subst e2
     have := hd1 hp
     unfold castM at this
     simp only at this
     subst this
     cases hd with
     | map _ b hv =>
      obtain ⟨v, hv', b', es, cl, e, hb, hx, hm⟩ := M.at_ _ _ hh
      rw [hv] at hv'; cases hv'; cases e
      obtain ⟨i1, i2⟩ := int_ents hx hm
      exact .rom _ _ _ _ es cl (.inr ⟨_, _, _, hr, hh, hv, rfl⟩) hb i1 i2
    ·exact no hp
   ·exact no hp
  ·-- map
   split at hp
   ·rename_i q hf
    split at hp
    ·rename_i hb
     cases hd with
     | map _ b hv => exact .map _ b (nm hf hb hv)
    ·exact no hp
   ·exact no hp
  ·cases hd; exact .nilFunc
  ·-- func
   split at hp
   ·rename_i hb
    have := Nat.eq_of_beq_eq_true hb; subst this
    cases hd with
    | func _ _ vs hl => exact .func _ _ vs ((ih _ (Nat.lt_succ_self _)).2.2 _ _ _ hl hp)
   ·exact no hp
  ·-- bound
   split at hp
   ·rename_i hb
    have := Nat.eq_of_beq_eq_true hb; subst this
    cases hd with
    | bound _ _ vs hl => exact .bound _ _ vs ((ih _ (Nat.lt_succ_self _)).2.2 _ _ _ hl hp)
   ·exact no hp
  ·cases hd; exact .nilIface
  ·have := hd1 hp; subst this; exact hd.free (fun _ h => .inl h) rfl
  ·have := hd1 hp; subst this; cases hd; exact .fine
  ·-- freeze an error
   split at hp
   ·rename_i p e' hta hr hh
    have := Nat.eq_of_beq_eq_true hta; subst this
    have e1 := hd1 hp; have e2 := hd2 hp; have e3 := hd3 hp
    cases hd with
    | iface _ _ v hd =>
     cases hd with
     | ptr _ _ b hv =>
      obtain ⟨v, hv', b', vs, T, e, hb, hl⟩ := M.at_ _ _ hh
      rw [hv] at hv'; cases hv'; cases e
      obtain ⟨v1, us, rfl, o1, d1, hl⟩ := hl.inv_one rfl
      obtain ⟨v2, us, rfl, o2, d2, hl⟩ := hl.inv_one rfl
      cases hl
      cases d1 with
      | int _ _ hi =>
       cases e' with
       | fine => cases e2
       | placed n q => cases e3
       | bare n =>
        cases d2 with
        | bare _ hn =>
         rw [e1]
         exact .placed n _ b 0 hn (.inr ⟨_, _, _, hr, hh, hv, rfl⟩) hi.lo hi.hi (cells_at hb)
   ·exact no hp
  ·-- iface
   split at hp
   ·rename_i hb
    have := Nat.eq_of_beq_eq_true hb; subst this
    cases hd with
    | iface _ _ v hd => exact .iface _ _ v ((ih _ (Nat.lt_succ_self _)).1 _ _ _ hd hp)
   ·exact no hp
  ·cases hd with
   | agg _ vs hl => exact .agg _ vs ((ih _ (Nat.lt_succ_self _)).2.1 _ _ _ hl hp)
  ·cases hd with
   | tuple _ vs hl => exact .tuple _ vs ((ih _ (Nat.lt_succ_self _)).2.2 _ _ _ hl hp)
  ·cases hd with
   | rop _ vs b off h1 hl h2 => exact .rop _ vs b off (.inl h1) ((ih _ (Nat.lt_succ_self _)).2.1 _ _ _ hl hp) h2
  ·-- arr
   split at hp
   ·rename_i e heq hn
    subst e
    have hn := Nat.eq_of_beq_eq_true hn
    subst hn
    have e := hd1 hp
    simp only at e
    subst e
    cases hd with
    | arr _ _ _ vs h1 h2 => exact .arr _ _ _ vs h1 (flatL _ _ _ h2)
   ·exact no hp
  ·-- eptr
   split at hp
   ·rename_i q hf
    split at hp
    ·rename_i hb
     rw [Bool.and_eq_true, Bool.and_eq_true] at hb
     have e := hd1 hp
     subst e
     have := Nat.eq_of_beq_eq_true hb.1.2; subst this
     have := Nat.eq_of_beq_eq_true hb.2; subst this
     cases hd with
     | eptr _ _ _ _ b m cap hv h1 h2 => exact .eptr _ _ _ _ b m cap (nm hf hb.1.1 hv) h1 h2
    ·exact no hp
   ·exact no hp
  ·exact no hp
 refine ⟨hS, fun l l' vs hd hp => ?_, fun l l' vs hd hp => ?_⟩
 ·unfold subL at hp
  split at hp
  ·cases hd; exact .nil
  ·rename_i m a l b l'
   split at hp
   ·rename_i hb
    have hb := eqB_ok hb
    have ih := ih _ (Nat.lt_succ_self m)
    have h1 := fun p hm => hp p (List.mem_append_left _ hm)
    have h2 := fun p hm => hp p (List.mem_append_right _ hm)
    cases ha : a.isArr with
    | false =>
     obtain ⟨v, us, rfl, o1, d1, hl⟩ := hd.inv_one ha
     exact .one _ _ _ _ (by rw [← hb, ha]) o1 (ih.1 _ _ _ d1 h1) (ih.2.1 _ _ _ hl h2)
    | true =>
     cases hd with
     | one _ _ _ _ h => rw [ha] at h; cases h
     | arr t n xs us _ vs' e1 e2 e3 =>
      have hbv := ih.1 (.arr t n xs) b (.agg us.toArray) (.arr _ _ _ _ e1 e2) h1
      rw [ha] at hb
      cases b <;> simp [SVal.isArr] at hb
      rename_i t' n' xs'
      cases hbv with
      | arr _ _ _ us' f1 f2 =>
       rename_i hus
       exact .arr _ _ _ _ _ _ f1 f2 (ih.2.1 _ _ _ e3 h2)
   ·exact no hp
  ·exact no hp
 ·unfold subL at hp
  split at hp
  ·cases hd; exact .nil
  ·rename_i m a l b l'
   split at hp
   ·have ih := ih _ (Nat.lt_succ_self m)
    have h1 := fun p hm => hp p (List.mem_append_left _ hm)
    have h2 := fun p hm => hp p (List.mem_append_right _ hm)
    cases hd with
    | cons _ v _ us d1 hl => exact .cons _ _ _ _ (ih.1 _ _ _ d1 h1) (ih.2.2 _ _ _ hl h2)
   ·exact no hp
  ·exact no hp
end
end Go.Sy

set_option linter.unusedVariables false
set_option linter.unusedSimpArgs false
namespace Go.Sy
open Go.RowKit
structure Inv (E : Env) (C : Ctx) (gl : List (Nat × SVal)) (W0 : World) (R0 own0 : Nat → Prop) (ρ0 : Nat → Option Value) (s : SState) (a : Act) (W : World) (R : Nat → Prop) (ρ : Nat → Option Value) : Prop where
 slots : ∀ d, Den C W R ρ ((find d s.fr).getD .any) (a.tmps.getD d undef)
 mem : Mem C gl W R ρ (lookS s.hp)
 size : a.tmps.size = s.sz
 bt : Bt W0 R0 own0 W R (ownOf ρ (lookS s.hp))
 above : ∀ n, s.next ≤ n → ρ n = none
 defers : a.defers = E.df
 pins : ∀ n ∈ E.old, ∀ v, ρ0 n = some v → ρ n = some v
section
variable {P : Program} {C : Ctx} {gl : List (Nat × SVal)} {E : Env} {W0 : World} {R0 own0 : Nat → Prop} {ρ0 : Nat → Option Value}
variable {s t : SState} {a : Act} {W W' : World} {R R' : Nat → Prop} {ρ ρ' : Nat → Option Value} {σ : List (Nat × Nat)}
theorem flat_of {α : Type} {f : α → List Prop} {l : List α} (h : ∀ p ∈ l.flatMap f, p) {x : α} (hx : x ∈ l) : ∀ p ∈ f x, p := fun p hp => h p (List.mem_flatMap.2 ⟨x, hx, hp⟩)
theorem all_mem {l : List Prop} (h : all l) : ∀ p ∈ l, p := by
 induction l with
 | nil => intro p hp; cases hp
 | cons q l ih =>
  intro p hp
  cases l with
  | nil =>
   rcases List.mem_cons.1 hp with rfl | hp
   ·exact h
   ·cases hp
  | cons q' l =>
   rcases List.mem_cons.1 hp with rfl | hp
   ·exact h.1
   ·exact ih h.2 p hp
theorem fstLt_of {next : Nat} (h : fstLt next σ = true) {r q : Nat} (hf : find r σ = some q) : r < next := by
 have hm := find_mem hf
 clear hf
 induction σ with
 | nil => cases hm
 | cons p σ ih =>
  obtain ⟨r', q'⟩ := p
  simp only [fstLt, Bool.and_eq_true] at h
  rcases List.mem_cons.1 hm with e | hm
  ·cases e; exact Nat.le_of_ble_eq_true h.1
  ·exact ih h.2 hm
theorem snd_mem {r q : Nat} (hm : (r, q) ∈ σ) : q ∈ sndN σ := by
 induction σ with
 | nil => cases hm
 | cons p σ ih =>
  obtain ⟨r', q'⟩ := p
  rcases List.mem_cons.1 hm with e | hm
  ·cases e; exact List.mem_cons_self ..
  ·exact List.mem_cons_of_mem _ (ih hm)
theorem nodup_inj (h : nodupB (sndN σ) = true) {r r' q : Nat} (hm : (r, q) ∈ σ) (hm' : (r', q) ∈ σ) : r = r' := by
 induction σ with
 | nil => cases hm
 | cons p σ ih =>
  obtain ⟨x, y⟩ := p
  simp only [sndN, nodupB] at h
  split at h
  ·cases h
  ·rename_i hn
   have hn : y ∉ sndN σ := fun hm => by rw [memN_iff.2 hm] at hn; cases hn
   rcases List.mem_cons.1 hm with e | hm1 <;> rcases List.mem_cons.1 hm' with e' | hm2
   ·cases e; cases e'; rfl
   ·cases e; exact (hn (snd_mem hm2)).elim
   ·cases e'; exact (hn (snd_mem hm1)).elim
   ·exact ih h hm1 hm2
theorem oldOk_of {old : List Nat} (h : oldOk old σ = true) : ∀ n ∈ old, find n σ = some n ∧ Nat.ble nilN n = false := by
 induction old with
 | nil => intro n hn; cases hn
 | cons m l ih =>
  simp only [oldOk, Bool.and_eq_true] at h
  intro n hn
  rcases List.mem_cons.1 hn with rfl | hn
  ·have := h.1
   split at this
   ·rename_i q hq
    obtain ⟨rfl, h2⟩ := same_ok this
    exact ⟨hq, h2⟩
   ·cases this
  ·exact ih h.2 n hn
abbrev HownOk (E : Env) (own0 : Nat → Prop) (ρ0 : Nat → Option Value) : Prop := True
theorem DenL.set_free {R' : Nat → Prop} {ρ' : Nat → Option Value} (hR : ∀ b, R b → R' b) {x y : SVal} (hx : x.isArr = false) (hy : y.isArr = false) (f : ∀ u, Den C W R ρ x u → Den C W R' ρ' y u) :
  ∀ {L : List SVal} {i : Nat} {vs : List Value}, (∀ s ∈ L, plain s = true) → DenL C W R ρ (L.set i x) vs → DenL C W R' ρ' (L.set i y) vs
 | [], _, _, _, h => by cases h; exact .nil
 | z :: L, 0, vs, hL, h => by
  obtain ⟨v, us, rfl, h1, h2, h3⟩ := DenL.inv_one (l := L) h hx
  exact .one _ _ _ _ hy h1 (f v h2) (h3.free hR fun s hs => hL s (List.mem_cons_of_mem _ hs))
 | z :: L, i + 1, vs, hL, h => by
  have hz := hL z (List.mem_cons_self ..)
  have za : z.isArr = false := by cases z <;> first | rfl | cases hz
  obtain ⟨v, us, rfl, h1, h2, h3⟩ := DenL.inv_one (l := L.set i x) h za
  exact .one _ _ _ _ za h1 (h2.free hR hz) (DenL.set_free hR hx hy f (fun s hs => hL s (List.mem_cons_of_mem _ hs)) h3)
theorem rom_plain (k : FK) (t : RT) (l : List (Option (List (k.ty × t.ty)))) : ∀ s ∈ l.map (fun y => SVal.rom k t y), plain s = true := fun s hs => by obtain ⟨y, _, rfl⟩ := List.mem_map.1 hs; rfl
theorem recVs_plain {α : Type} (t : RT) (m : List (α × t.ty)) : ∀ s ∈ m.map (fun p => recV t p.2), plain s = true := fun s hs => by obtain ⟨p, _, rfl⟩ := List.mem_map.1 hs; exact recV_plain t p.2
theorem subC_ok (M : Mem C gl W R ρ (lookS s.hp)) {v : Value} {c c' : Cont} (hp : ∀ p ∈ subC C.tAt (lookS s.hp) σ (some c) (some c'), p) (hc : HoldC C W R ρ v c) :
  HoldC C W (RF σ (lookS s.hp) ρ R) (ρσ σ ρ) v c' := by
 unfold subC at hp
 split at hp
 ·rename_i h; cases h
 ·rename_i l l' h1 h2; cases h1; cases h2
  obtain ⟨b, vs, T, rfl, hh, hl⟩ := hc
  exact ⟨b, vs, T, rfl, hh, (sub_ok M deep).2.1 _ _ _ hl hp⟩
 ·rename_i t l t' l' h1 h2; cases h1; cases h2
  split at hp
  ·rename_i e heq
   subst e
   have e := hd1 hp
   simp only at e
   subst e
   obtain ⟨e, vs, ho, hl⟩ := hc
   exact ⟨e, vs, ho, hl.free (fun _ h => .inl h) (flat_plain t l)⟩
  ·exact no hp
 ·rename_i w l w' l' h1 h2; cases h1; cases h2
  split at hp
  ·rename_i hb
   have := Nat.eq_of_beq_eq_true hb; subst this
   obtain ⟨e, vs, n, ho, hl, h0⟩ := hc
   exact ⟨e, vs, n, ho, (sub_ok M deep).2.1 _ _ _ hl hp, h0⟩
  ·exact no hp
 ·rename_i m m' h1 h2; cases h1; cases h2
  have := hd1 hp; subst this; exact hc
 ·rename_i m m' h1 h2; cases h1; cases h2
  have := hd1 hp; subst this; exact hc
 ·-- maps
  rename_i k t m k' t' m' h1 h2; cases h1; cases h2
  split at hp
  ·rename_i e1 e2 _ _
   subst e1; subst e2
   have := hd1 hp
   unfold castM at this
   simp only [Option.some.injEq] at this
   subst this
   obtain ⟨b, es, cl, rfl, hh, hk, hx⟩ := hc
   exact ⟨b, es, cl, rfl, hh, hk, hx.free (fun _ h => .inl h) fun s hs => by obtain ⟨p, _, rfl⟩ := List.mem_map.1 hs; exact recV_plain _ p.2⟩
  ·exact no hp
 ·-- an open slice of maps is closed
  rename_i k t l i x k' t' l' h1 h2; cases h1; cases h2
  split at hp
  ·rename_i q e1 e2 _ _
   subst e1; subst e2
   split at hp
   ·rename_i k2 t2 m hr hh
    split at hp
    ·rename_i g1 g2 _ _
     subst g1; subst g2
     have := hd1 hp
     unfold castL castM at this
     simp only at this
     subst this
     obtain ⟨e, vs, ho, hd, ⟨i0, i1⟩, _⟩ := hc
     refine ⟨e, vs, by rw [List.length_set]; exact ho, ?_⟩
     rw [flat_rom, List.map_set]
     refine DenL.set_free (fun _ h => .inl h) (x := .map q) rfl rfl (fun u hu => ?_) (rom_plain _ _ l) hd
     cases hu with
     | map _ b hv =>
      obtain ⟨v, hv', b', es, cl, e, hb, hk, hx⟩ := M.at_ _ _ hh
      rw [hv] at hv'; cases hv'; cases e
      exact .rom _ _ _ _ es cl (.inr ⟨_, _, _, hr, hh, hv, rfl⟩) hb hk (hx.free (fun _ h => .inl h) fun s hs => by obtain ⟨p, _, rfl⟩ := List.mem_map.1 hs; exact recV_plain _ p.2)
    ·exact no hp
   ·exact no hp
  ·exact no hp
 ·-- an open slice of maps
  rename_i k t l i x k' t' l' i' x' h1 h2; cases h1; cases h2
  split at hp
  ·rename_i e1 e2 _ _
   subst e1; subst e2
   have h0 := hp _ (List.mem_append_left _ (List.mem_cons_self ..))
   have h1 := hp _ (List.mem_append_left _ (List.mem_cons_of_mem _ (List.mem_cons_self ..)))
   have h2 := fun p hm => hp p (List.mem_append_right _ hm)
   unfold castL at h0
   simp only at h0
   subst h0; subst h1
   split at h2
   ·rename_i q q'
    obtain ⟨e, vs, ho, hd, hi, _⟩ := hc
    exact ⟨e, vs, ho, DenL.set_free (fun _ h => .inl h) rfl rfl (fun u hu => (sub_ok M deep).1 _ _ _ hu h2) (rom_plain _ _ l) hd, hi, rfl⟩
   ·exact no h2
  ·exact no hp
 ·exact no hp
theorem holdNil (t : RT) : HoldC C W R ρ (.slice none 0 0) (.recs t []) := ⟨0, [], ⟨by simp, .inl ⟨rfl, rfl⟩⟩, .nil⟩
theorem Inv.sub (EO : EnvOk P C gl E) (I : Inv E C gl W0 R0 own0 ρ0 s a W R ρ) (hown : HownOk E own0 ρ0) (h : all (subSt E σ s t)) :
  ∃ R' ρ', Inv E C gl W0 R0 own0 ρ0 t a W R' ρ' := by
 have h := all_mem h
 unfold subSt at h
 rw [EO.tAt] at h
 have h1 := fun p hp => h p (List.mem_append_left _ (List.mem_append_left _ hp))
 have h2 := fun p hp => h p (List.mem_append_left _ (List.mem_append_right _ hp))
 have h3 := fun p hp => h p (List.mem_append_right _ hp)
 clear h
 have hb : (s.sz.beq t.sz && nodupB (sndN σ) && fstLt t.next σ && oldOk E.old σ) = true := by
  split at h3
  ·assumption
  ·exact no h3
 simp only [Bool.and_eq_true] at hb
 obtain ⟨⟨⟨b1, b2⟩, b3⟩, b4⟩ := hb
 have M := I.mem
 have old := oldOk_of b4
 have inj : ∀ {r r' q}, find r σ = some q → find r' σ = some q → r = r' := fun h h' => nodup_inj b2 (find_mem h) (find_mem h')
 -- what t knows
 have known : ∀ r c, lookS t.hp r = some c → (∃ q c0 v, find r σ = some q ∧ lookS s.hp q = some c0 ∧ ρ q = some v ∧ ρσ σ ρ r = some v ∧ HoldC C W (RF σ (lookS s.hp) ρ R) (ρσ σ ρ) v c) ∨
   (ρσ σ ρ r = some (.slice none 0 0) ∧ HoldC C W (RF σ (lookS s.hp) ρ R) (ρσ σ ρ) (.slice none 0 0) c) := fun r c hc => by
  unfold lookS at hc
  cases hf : find r t.hp with
  | none => rw [hf] at hc; cases hc
  | some c' =>
   rw [hf] at hc
   simp only [Option.getD_some] at hc
   subst hc
   have hp := flat_of h2 (find_mem hf)
   simp only at hp
   split at hp
   ·rename_i q hq
    split at hp
    ·rename_i hN
     unfold nilC at hp
     split at hp
     ·rename_i hc; cases hc
     ·rename_i t' l hc
      cases hc
      have := hd1 hp; subst this
      exact .inr ⟨ρσ_nil hq hN, holdNil _⟩
     ·exact no hp
    ·rename_i hN
     cases hcs : lookS s.hp q with
     | none => rw [hcs] at hp; simp only [subC] at hp; exact no hp
     | some c0 =>
      rw [hcs] at hp
      obtain ⟨v, hv, hh⟩ := M.at_ q c0 hcs
      exact .inl ⟨q, c0, v, hq, hcs, hv, by rw [ρσ_at hq hN]; exact hv, subC_ok M hp hh⟩
   ·exact no hp
 have fresh : ∀ b, RF σ (lookS s.hp) ρ R b → R0 b ∨ W0.heap.size ≤ b ∨ own0 b := fun b hb => by
  rcases hb with hb | ⟨n, c, v, hn, hc, hv, hbk⟩
  ·exact I.bt.Rn b hb
  ·rcases I.bt.owned b ⟨n, c, v, hc, hv, hbk⟩ with ho | ho
   ·exact .inr (.inr ho)
   ·exact .inr (.inl ho)
 refine ⟨RF σ (lookS s.hp) ρ R, ρσ σ ρ, fun d => ?_, ⟨?_, fun r c hc => ?_, fun r r' c c' v v' b k1 k2 k3 k4 k5 k6 => ?_, fun r c v b k1 k2 k3 k4 => ?_⟩, ?_, ⟨I.bt.os, I.bt.tape, I.bt.output, I.bt.size, fun b hb => .inl (I.bt.Rm b hb), fresh, I.bt.keep, fun b hb => ?_⟩, fun n hn => ?_, I.defers, fun n hn v hv => ?_⟩
 ·cases hf : find d t.fr with
  | none => exact .any _
  | some v => exact (sub_ok M deep).1 _ _ _ (I.slots d) (flat_of h1 (find_mem hf))
 ·refine M.base.mono (fun _ h => .inl h) (fun b hb => ?_) fun _ _ => rfl
  rcases hb with hb | ⟨n, c, v, hn, hc, hv, hbk⟩
  ·exact M.base.inR b hb
  ·obtain ⟨v', hv', hh⟩ := M.at_ n c hc
   rw [hv] at hv'; cases hv'
   exact hh.lt hbk
 ·rcases known r c hc with ⟨q, c0, v, q1, q2, q3, q4, q5⟩ | ⟨q1, q2⟩
  ·exact ⟨v, q4, q5⟩
  ·exact ⟨_, q1, q2⟩
 ·rcases known r c k1 with ⟨q, c0, u, q1, q2, q3, e1, q4⟩ | ⟨e1, _⟩
  ·rcases known r' c' k2 with ⟨q', c0', u', q1', q2', q3', e2, q4'⟩ | ⟨e2, _⟩
   ·rw [e1] at k3; cases k3
    rw [e2] at k4; cases k4
    have := M.apart q q' c0 c0' v v' b q2 q2' q3 q3' k5 k6
    subst this
    exact inj q1 q1'
   ·rw [e2] at k4; cases k4; cases k6
  ·rw [e1] at k3; cases k3; cases k5
 ·rcases known r c k1 with ⟨q, c0, u, q1, q2, q3, e1, q4⟩ | ⟨e1, _⟩
  ·rw [e1] at k2; cases k2
   rcases k4 with hb | ⟨n, c', v', hn, hc, hv, hbk⟩
   ·exact M.off q c0 v b q2 q3 k3 hb
   ·have := M.apart n q c' c0 v' v b hc q2 hv q3 hbk k3
    subst this
    rw [rng_find q1] at hn; cases hn
  ·rw [e1] at k2; cases k2; cases k3
 ·rw [I.size]; exact Nat.eq_of_beq_eq_true b1
 ·obtain ⟨r, c, v, k1, k2, k3⟩ := hb
  rcases known r c k1 with ⟨q, c0, u, q1, q2, q3, e1, q4⟩ | ⟨e1, _⟩
  ·rw [e1] at k2; cases k2
   exact I.bt.owned b ⟨q, c0, v, q2, q3, k3⟩
  ·rw [e1] at k2; cases k2; cases k3
 ·cases hf : find n σ with
  | none => unfold ρσ; rw [hf]; rfl
  | some q => have := fstLt_of b3 hf; omega
 ·obtain ⟨o1, o2⟩ := old n hn
  rw [ρσ_at o1 o2]; exact I.pins n hn v hv
end
end Go.Sy
