/- Words that the proofs use, part 11. -/
import Derived.Test.YtbdfibaljoedpaaDoorQE10
import Derived.Orders
set_option linter.unusedVariables false
set_option linter.unusedSimpArgs false
namespace Go.Sy
open Go.RowKit
section
variable {E : Env} {ops : List Oper} {fr : List (Nat × SVal)} {hp : List (Nat × Option Cont)} {sz next0 next1 : Nat} {recs : List Rec}
theorem isDst_iff {o : Option Nat} {d : Nat} : isDst o d = true ↔ o = some d := by
  cases o with
  | none => simp [isDst]
  | some e => exact ⟨fun h => congrArg some (Nat.eq_of_beq_eq_true h), fun h => by cases h; exact Nat.beq_refl _⟩
theorem Built.le (B : Built E ops fr hp sz next0 recs next1) : next0 ≤ next1 := by
  induction B with
  | nil => exact Nat.le_refl _
  | cons l r o next hB hA hn ih => omega
theorem Built.mem (B : Built E ops fr hp sz next0 recs next1) : ∀ r ∈ recs, r.idx < recs.length ∧ r.next + r.k ≤ next1 ∧ next0 ≤ r.next := by
  induction B with
  | nil => intro r h; cases h
  | cons l r o next hB hA hn ih =>
    intro r' hr'
    have hle := hB.le
    rcases List.mem_cons.1 hr' with rfl | hr'
    · have := hA.idx
      simp only [List.length_cons]; omega
    · have := ih r' hr'
      simp only [List.length_cons]; omega
theorem Built.inj (B : Built E ops fr hp sz next0 recs next1) : ∀ {r q}, r ∈ recs → q ∈ recs → r.idx = q.idx → r = q := by
  induction B with
  | nil => intro r q h; cases h
  | cons l r o next hB hA hn ih =>
    intro a b ha hb he
    have hi := hA.idx
    rcases List.mem_cons.1 ha with ea | ha' <;> rcases List.mem_cons.1 hb with eb | hb'
    · rw [ea, eb]
    · have := (hB.mem b hb').1; rw [ea] at he; omega
    · have := (hB.mem a ha').1; rw [eb] at he; omega
    · exact ih ha' hb' he
theorem Built.split (B : Built E ops fr hp sz next0 recs next1) : ∀ {r}, r ∈ recs → ∃ pre l o, recs = pre ++ r :: l ∧ Built E ops fr hp sz next0 l r.next ∧ Added E ops fr hp sz l r o ∧ (∀ q ∈ pre, r.idx < q.idx ∧ r.next + r.k ≤ q.next) ∧ r.next + r.k ≤ next1 := by
  induction B with
  | nil => intro r h; cases h
  | cons l r o next hB hA hn ih =>
    intro r' hr'
    rcases List.mem_cons.1 hr' with er | hr2
    · subst er
      exact ⟨[], l, o, rfl, (by rw [hn]; exact hB), hA, (fun q hq => by cases hq), (by omega)⟩
    · obtain ⟨pre, l', o', e, h1, h2, h3, h4⟩ := ih hr2
      refine ⟨r :: pre, l', o', (by rw [e]; rfl), h1, h2, fun q hq => ?_, (by omega)⟩
      rcases List.mem_cons.1 hq with eq | hq2
      · have := hA.idx; have := (hB.mem r' hr2); rw [eq]; omega
      · exact h3 q hq2
theorem lastOf_mem {l : List Rec} {d : Nat} {r : Rec} (h : lastOf l d = some r) : r ∈ l ∧ isDst r.dst d = true := by
  induction l with
  | nil => cases h
  | cons q l ih =>
    simp only [lastOf] at h
    split at h
    · rename_i hd; cases h; exact ⟨List.mem_cons_self .., hd⟩
    · exact ⟨List.mem_cons_of_mem _ (ih h).1, (ih h).2⟩
theorem Built.last (B : Built E ops fr hp sz next0 recs next1) : ∀ {r d}, r ∈ recs → isDst r.dst d = true → lastOf recs d = some r := by
  induction B with
  | nil => intro r d h; cases h
  | cons l r o next hB hA hn ih =>
    intro q d hq hd
    rcases List.mem_cons.1 hq with rfl | hq
    · simp only [lastOf, hd]
    · have hl := ih hq hd
      cases hrd : isDst r.dst d with
      | false => simp only [lastOf, hrd]; exact hl
      | true =>
        have e := isDst_iff.1 hrd
        have hf := hA.fit
        rw [← hA.dst, e] at hf
        simp only [dstFit, slotOf_last, hl, Option.map_some, Bool.and_false] at hf
        cases hf
theorem Built.dst_lt (B : Built E ops fr hp sz next0 recs next1) {r d} (hr : r ∈ recs) (hd : isDst r.dst d = true) : d < sz := by
  obtain ⟨pre, l, o, _, _, hA, _⟩ := B.split hr
  have hf := hA.fit
  rw [← hA.dst, isDst_iff.1 hd] at hf
  simp only [dstFit, Bool.and_eq_true] at hf
  exact Nat.le_of_ble_eq_true hf.1
theorem Built.before (B : Built E ops fr hp sz next0 recs next1) {r} {pre l : List Rec} (e : recs = pre ++ r :: l) (hp1 : ∀ q ∈ pre, r.idx < q.idx) (hl : ∀ q ∈ l, q.idx < r.idx) :
    recs.filter (fun q => decide (q.idx < r.idx)) = l := by
  rw [e, List.filter_append, List.filter_cons]
  have h1 : pre.filter (fun q => decide (q.idx < r.idx)) = [] := List.filter_eq_nil_iff.2 fun q hq => by have := hp1 q hq; simp; omega
  have h2 : l.filter (fun q => decide (q.idx < r.idx)) = l := List.filter_eq_self.2 fun q hq => by have := hl q hq; simpa using this
  rw [h1, h2]; simp
theorem andB_val (a b : SB) : (andB a b).val = (a.val && b.val) := by
  unfold andB
  split <;> simp [SB.val]
theorem recAt_mem {l : List Rec} {i : Nat} {r : Rec} (h : recAt l i = some r) : r ∈ l ∧ r.idx = i := by
  induction l with
  | nil => cases h
  | cons q l ih =>
    simp only [recAt] at h
    split at h
    · rename_i hd; cases h; exact ⟨List.mem_cons_self .., Nat.eq_of_beq_eq_true hd⟩
    · exact ⟨List.mem_cons_of_mem _ (ih h).1, (ih h).2⟩
theorem guard_truth {l : List Rec} {j : Nat} {b : Bool} {g : SB} (h : guardOf l (some (j, b)) = some g) :
    ∃ w ∈ l, w.idx = j ∧ (∃ d, w.dst = some d) ∧ (g.val = true ↔ w.g.val = true ∧ ∃ β, w.v = .bool β ∧ β.val = b) ∧ (w.g.val = true → ∃ β, w.v = .bool β) := by
  simp only [guardOf] at h
  split at h
  · rename_i w hw
    obtain ⟨hm, hi⟩ := recAt_mem hw
    refine ⟨w, hm, hi, ?_⟩
    split at h
    · cases h
    · rename_i hg hdn
      cases h
      refine ⟨?_, ?_, ?_⟩
      · cases hd : w.dst with
        | none => exact (hdn hd).elim
        | some d => exact ⟨d, rfl⟩
      · rw [hg]; simp [SB.val]
      · rw [hg]; simp [SB.val]
    · rename_i β hv hdn hgn
      cases h
      refine ⟨?_, ?_, fun _ => ⟨β, hv⟩⟩
      · cases hd : w.dst with
        | none => exact (hdn hd).elim
        | some d => exact ⟨d, rfl⟩
      · rw [andB_val, hv]
        cases b <;> simp [notB_val]
    · cases h
  · cases h
theorem keyEq_eq {κ κ' : Key} (h : keyEq κ κ' = true) : κ = κ' := by
  unfold keyEq at h
  split at h
  · rfl
  · rw [Nat.eq_of_beq_eq_true h]
  · rw [Nat.eq_of_beq_eq_true h]
  · cases h
theorem Added.key_none {l : List Rec} {r : Rec} {o : Oper} (A : Added E ops fr hp sz l r o) (h : r.key = none) : r.g.val = true ∨ (r.v = .any ∧ r.ws = []) := by
  rcases A.how with ⟨h1, h2, h3, h4, h5, _⟩ | ⟨res, h1, h2, h3, _⟩
  · exact .inr ⟨h4, h5⟩
  · left
    cases hg : r.g with
    | lit b => cases b with
      | true => rfl
      | false => exact (h2 hg).elim
    | sym b =>
      rw [hg] at h3
      rw [h] at h3
      simp only at h3
      rw [← h3, guardOf, hg] at h1
      cases h1
theorem Added.key_some {l : List Rec} {r : Rec} {o : Oper} (A : Added E ops fr hp sz l r o) {j : Nat} {b : Bool} (h : r.key = some (j, b)) : guardOf l (some (j, b)) = some r.g := by
  rcases A.how with ⟨h1, h2, h3, h4, h5, _⟩ | ⟨res, h1, h2, h3, _⟩
  · rw [h2] at h; cases h
  · cases hg : r.g with
    | lit b => rw [hg, h] at h3; cases h3
    | sym β => rw [hg, h] at h3; simp only at h3; rw [h3, h1, hg]
theorem Built.key_g (B : Built E ops fr hp sz next0 recs next1) {r q : Rec} (hr : r ∈ recs) (hq : q ∈ recs) (hk : readable r.key q.key = true) (hg : r.g.val = true) : q.g.val = true ∨ (q.v = .any ∧ q.ws = []) := by
  obtain ⟨pre, l, o, e, hB, hA, _⟩ := B.split hq
  obtain ⟨pre', l', o', e', hB', hA', _⟩ := B.split hr
  cases hqk : q.key with
  | none => exact hA.key_none hqk
  | some p =>
    obtain ⟨j, b⟩ := p
    rw [hqk] at hk
    have hrk := keyEq_eq hk
    obtain ⟨w, w1, w2, _, w4, _⟩ := guard_truth (hA.key_some hqk)
    obtain ⟨w', w1', w2', _, w4', _⟩ := guard_truth (hA'.key_some hrk)
    have hw : w ∈ recs := by rw [e]; simp [w1]
    have hw' : w' ∈ recs := by rw [e']; simp [w1']
    have := B.inj hw hw' (by rw [w2, w2'])
    subst this
    exact .inl (w4.2 (w4'.1 hg))
theorem contOf_T {l : List Rec} {κ κ' : Key} {n : Nat} {c : Option Cont} (hl : ∀ q ∈ l, readable κ q.key = true → q.g.val = true ∨ q.ws = []) (h : contOf hp l n = some (κ', c)) (hr : readable κ κ' = true) : contT hp l n = c := by
  induction l with
  | nil =>
    simp only [contOf] at h
    split at h
    · rename_i c' hc; cases h; simp [contT, hc]
    · cases h
  | cons q l ih =>
    simp only [contOf] at h
    split at h
    · rename_i c' hc
      cases h
      rcases hl q (List.mem_cons_self ..) hr with hg | hw
      · simp only [contT, hg, hc]
      · rw [hw] at hc; cases hc
    · rename_i hc
      have := ih (fun q hq => hl q (List.mem_cons_of_mem _ hq)) h
      simp only [contT, hc, this]
      split <;> rfl
theorem lookR_T {l : List Rec} {κ : Key} {n : Nat} {c : Cont} (hl : ∀ q ∈ l, readable κ q.key = true → q.g.val = true ∨ q.ws = []) (h : lookR hp l κ n = some c) : contT hp l n = some c := by
  unfold lookR at h
  split at h
  · rename_i κ' c' hc
    split at h
    · rename_i hr; subst h; exact contOf_T hl hc hr
    · cases h
  · cases h
theorem allKnown_of {look : Nat → Option Cont} {l : List Nat} (h : allKnown look l = true) : ∀ n ∈ l, ∃ c, look n = some c := by
  induction l with
  | nil => intro n hn; cases hn
  | cons r l ih =>
    simp only [allKnown] at h
    split at h
    · rename_i c hc
      intro n hn
      rcases List.mem_cons.1 hn with rfl | hn
      · exact ⟨c, hc⟩
      · exact ih h n hn
    · cases h
theorem memN_iff {n : Nat} {l : List Nat} : memN n l = true ↔ n ∈ l := by
  induction l with
  | nil => simp [memN]
  | cons q l ih =>
    simp only [memN, Bool.or_eq_true, ih, List.mem_cons]
    exact ⟨fun h => h.imp (fun h => (Nat.eq_of_beq_eq_true h).symm) id, fun h => h.imp (fun h => by subst h; exact Nat.beq_refl _) id⟩
theorem wsFit_of {tch : List Nat} {next k : Nat} {ws : List (Nat × Option Cont)} (h : wsFit tch next k ws = true) : ∀ n ∈ keys ws, n ∈ tch ∨ (next ≤ n ∧ n < next + k) := by
  induction ws with
  | nil => intro n hn; cases hn
  | cons p ws ih =>
    obtain ⟨r, c⟩ := p
    simp only [wsFit, Bool.and_eq_true, Bool.or_eq_true] at h
    intro n hn
    rcases List.mem_cons.1 hn with rfl | hn
    · rcases h.1 with h | h
      · exact .inl (memN_iff.1 h)
      · exact .inr ⟨Nat.le_of_ble_eq_true h.1, Nat.le_of_ble_eq_true h.2⟩
    · exact ih h.2 n hn
theorem contT_insert (p l : List Rec) (r : Rec) (h : ∀ q ∈ p, ∀ n c, find n r.ws = some c → find n q.ws = none) : contT hp (p ++ r :: l) = upd (contT hp (p ++ l)) (match r.g.val with | true => r.ws | false => []) := by
  funext n
  induction p with
  | nil =>
    simp only [List.nil_append, contT, upd]
    cases r.g.val with
    | false => rfl
    | true => cases find n r.ws <;> rfl
  | cons q p ih =>
    have ih := ih fun q hq => h q (List.mem_cons_of_mem _ hq)
    simp only [List.cons_append, contT, ih]
    unfold upd
    cases hg : r.g.val with
    | false => simp only [find]
    | true =>
      cases hf : find n r.ws with
      | none => simp only [hf]
      | some c =>
        have := h q (List.mem_cons_self ..) n c hf
        simp only [hf, this]
        split <;> rfl
end
section
variable {P : Program} {C : Ctx} {gl : List (Nat × SVal)} {E : Env} {ops : List Oper} {fr : List (Nat × SVal)} {hp : List (Nat × Option Cont)} {sz next0 next1 : Nat} {recs : List Rec}
variable {W0 : World} {R0 own0 : Nat → Prop} {ρs : Nat → Option Value} {L : Rec → Bool} {a : Act} {W W' : World} {R R' : Nat → Prop} {ρ ρ' : Nat → Option Value} {h : Nat → Option Cont} {Q : Exit → Act → World → Prop}
theorem Trans.den {ws : List (Nat × Option Cont)} (M : Mem C gl W R ρ h) (t : Trans C gl W R ρ h ws W' R' ρ') {s : SVal} {v : Value} (hd : Den C W R ρ s v) : Den C W' R' ρ' s v :=
  hd.mono t.Rm (fun b hb => t.keep b (M.base.inR b hb) fun r c v _ hc hv he => M.off r c v b hc hv he hb) t.ρm
structure Ready (E : Env) (fr : List (Nat × SVal)) (hp : List (Nat × Option Cont)) (sb : Option Nat) (ops : List Oper) (o : Oper) (recs : List Rec) (L : Rec → Bool) (r : Rec) : Prop where
  A : ∀ d ∈ readsOf ops o, ∀ q ∈ recs, isDst q.dst d = true → L q = decide (q.idx < r.idx)
  B : ∀ n ∈ r.tch, ∀ q ∈ recs, (∃ c, find n q.ws = some c) → L q = decide (q.idx < r.idx) ∨
    (sb = some q.idx ∧ r.idx < q.idx ∧ L q = true ∧ commP E fr hp (recs.filter fun x => decide (x.idx < r.idx)) r o q)
  C : ∀ n c, find n r.ws = some c → ∀ q ∈ recs, L q = true → (∃ c, find n q.ws = some c) → q.idx < r.idx
abbrev addL (L : Rec → Bool) (r : Rec) : Rec → Bool := fun q => L q || q.idx == r.idx
theorem eval_ok (EO : EnvOk P C gl E) (B : Built E ops fr hp sz next0 recs next1) (I : InvR C gl W0 R0 own0 ρs fr hp sz next1 recs L a W R ρ) {r : Rec} {l : List Rec} (hr : r ∈ recs) (hg : r.g.val = true)
    (hl : recs.filter (fun q => decide (q.idx < r.idx)) = l) {κx : Key} (hx : ∀ q ∈ recs, κx ≠ none → readable κx q.key = true → q.key ≠ none → q.g.val = true ∨ q.v = .any)
    (x : Operand) (hA : ∀ d, x = .tmp d → ∀ q ∈ recs, isDst q.dst d = true → L q = decide (q.idx < r.idx)) : Den C W R ρ (evR E fr l r.key κx x) (a.eval x) := by
  cases x with
  | tmp d =>
    have hs := I.slots d
    unfold slotIs at hs
    rw [lastOf_filter (hA d rfl), hl] at hs
    simp only [evR, slotOf_last]
    cases hq : lastOf l d with
    | none => rw [hq] at hs; exact hs
    | some q =>
      rw [hq] at hs
      simp only [Option.map_some]
      have hqm : q ∈ recs := by
        have := (lastOf_mem hq).1
        rw [← hl] at this
        exact (List.mem_filter.1 this).1
      split
      · rename_i hrd
        have : q.g.val = true ∨ q.v = .any := by
          rcases Bool.or_eq_true .. ▸ hrd with h1 | h1
          · exact (B.key_g hr hqm h1 hg).imp id fun h => h.1
          · cases hqk : q.key with
            | none => exact (B.key_g hr hqm (by rw [hqk]; rfl) hg).imp id fun h => h.1
            | some p =>
              refine hx q hqm ?_ h1 (by rw [hqk]; simp)
              intro hn
              rw [hn, hqk] at h1
              cases h1
        rcases this with h1 | h1
        · exact hs.1 h1
        · rw [h1]; exact .any _
      · exact .any _
  | const v => exact ofVal_den v
  | global g =>
    simp only [evR]
    cases hf : find g E.glob with
    | none => exact .any _
    | some s =>
      rw [EO.glob] at hf
      exact (I.mem.base.glob g s hf).mono (fun _ h => h) (fun _ _ => rfl) fun r v h => by cases h
  | func f => exact .func f [] [] .nil
end
end Go.Sy

set_option linter.unusedVariables false
set_option linter.unusedSimpArgs false
namespace Go.Sy
open Go.RowKit
section
variable {P : Program} {C : Ctx} {gl : List (Nat × SVal)} {E : Env} {ops : List Oper} {fr : List (Nat × SVal)} {hp : List (Nat × Option Cont)} {sz next0 next1 : Nat} {recs : List Rec}
variable {W0 : World} {R0 own0 : Nat → Prop} {ρs : Nat → Option Value} {L : Rec → Bool} {a : Act} {W W' : World} {R R' : Nat → Prop} {ρ ρ' : Nat → Option Value} {h : Nat → Option Cont} {Q : Exit → Act → World → Prop}
theorem Built.op (B : Built E ops fr hp sz next0 recs next1) {r : Rec} (hr : r ∈ recs) : ∃ o, ops[r.idx]? = some o ∧ r.dst = o.dst := by
  obtain ⟨pre, l, o, e, hB, hA, _⟩ := B.split hr
  exact ⟨o, by rw [hA.idx]; exact hA.op, hA.dst⟩
theorem Built.sides (B : Built E ops fr hp sz next0 recs next1) {r : Rec} {pre l : List Rec} (e : recs = pre ++ r :: l) (hB : Built E ops fr hp sz next0 l r.next) {o : Oper} (hA : Added E ops fr hp sz l r o) (hpre : ∀ q ∈ pre, r.idx < q.idx ∧ r.next + r.k ≤ q.next) :
    (∀ q ∈ l, q.idx < r.idx) ∧ recs.filter (fun q => decide (q.idx < r.idx)) = l := by
  have h1 : ∀ q ∈ l, q.idx < r.idx := fun q hq => by rw [hA.idx]; exact (hB.mem q hq).1
  exact ⟨h1, B.before e (fun q hq => (hpre q hq).1) h1⟩
theorem wanted_ok (EO : EnvOk P C gl E) (B : Built E ops fr hp sz next0 recs next1) (I : InvR C gl W0 R0 own0 ρs fr hp sz next1 recs L a W R ρ) {r : Rec} {pre l : List Rec} {o : Oper} (e : recs = pre ++ r :: l)
    (hB : Built E ops fr hp sz next0 l r.next) (hA : Added E ops fr hp sz l r o) (hpre : ∀ q ∈ pre, r.idx < q.idx ∧ r.next + r.k ≤ q.next) {sb : Option Nat} (RD : Ready E fr hp sb ops o recs L r) :
    Region.wanted o (yielded ops.toArray a.tmps) = r.g.val := by
  have hgo : guardOf l o.guard = some r.g := by
    rcases hA.how with ⟨h1, _, h3, _⟩ | ⟨res, h1, _⟩
    · rw [h1, h3]
    · exact h1
  obtain ⟨hs1, hs2⟩ := B.sides e hB hA hpre
  cases hgd : o.guard with
  | none =>
    rw [hgd] at hgo
    simp only [guardOf, Option.some.injEq] at hgo
    rw [← hgo]
    simp [Region.wanted, hgd, SB.val]
  | some p =>
    obtain ⟨j, b⟩ := p
    rw [hgd] at hgo
    obtain ⟨w, w1, w2, ⟨d, w3⟩, w4, w5⟩ := guard_truth hgo
    have hw : w ∈ recs := by rw [e]; simp [w1]
    obtain ⟨ow, how, hdst⟩ := B.op hw
    have hwd : isDst w.dst d = true := isDst_iff.2 w3
    rw [w2] at how
    have hrd : d ∈ readsOf ops o := by
      unfold readsOf
      rw [hgd]
      simp only [how, ← hdst, w3]
      simp
    have hsl := I.slots d
    unfold slotIs at hsl
    rw [lastOf_filter (RD.A d hrd), hs2] at hsl
    have hlast : lastOf l d = some w := hB.last w1 hwd
    rw [hlast] at hsl
    simp only at hsl
    have hd := B.dst_lt hw hwd
    rw [← I.size] at hd
    have hy : yielded ops.toArray a.tmps j = match a.tmps.getD d undef with | .bool b => some b | _ => none := by
      unfold yielded
      have : ops.toArray[j]? = some ow := by simpa using how
      simp only [this, Option.bind_some, ← hdst, w3, Array.getElem?_eq_getElem hd, Array.getD_eq_getD_getElem?, Option.getD_some]
      cases a.tmps[d] <;> rfl
    simp only [Region.wanted, hgd, hy]
    cases hwg : w.g.val with
    | false =>
      have : r.g.val = false := by
        cases hh : r.g.val with
        | false => rfl
        | true => have := (w4.1 hh).1; rw [hwg] at this; cases this
      rw [hsl.2 hwg, this]
      rfl
    | true =>
      obtain ⟨β, hβ⟩ := w5 hwg
      have hden := hsl.1 hwg
      rw [hβ] at hden
      rw [hden.bool_inv]
      simp only
      cases hh : r.g.val with
      | true =>
        obtain ⟨_, β', hβ', hb⟩ := w4.1 hh
        rw [hβ] at hβ'; cases hβ'
        rw [hb]; simp
      | false =>
        have : β.val ≠ b := fun hb => by
          have := w4.2 ⟨hwg, β, hβ, hb⟩
          rw [hh] at this; cases this
        simpa using this
theorem Built.cont_add (B : Built E ops fr hp sz next0 recs next1) {r : Rec} (hr : r ∈ recs) (hL : L r = false) (hC : ∀ n c, find n r.ws = some c → ∀ q ∈ recs, L q = true → (∃ c, find n q.ws = some c) → q.idx < r.idx) :
    contT hp (recs.filter (addL L r)) = upd (contT hp (recs.filter L)) (match r.g.val with | true => r.ws | false => []) := by
  obtain ⟨pre, l, o, e, hB, hA, hpre, hlast⟩ := B.split hr
  obtain ⟨hs1, hs2⟩ := B.sides e hB hA hpre
  have hpL : ∀ q ∈ pre, addL L r q = L q := fun q hq => by
    have := (hpre q hq).1
    have : (q.idx == r.idx) = false := by simp; omega
    simp [addL, this]
  have hlL : ∀ q ∈ l, addL L r q = L q := fun q hq => by
    have := hs1 q hq
    have : (q.idx == r.idx) = false := by simp; omega
    simp [addL, this]
  have e1 : recs.filter (addL L r) = pre.filter L ++ r :: l.filter L := by
    rw [e, List.filter_append, List.filter_cons, List.filter_congr hpL, List.filter_congr hlL]
    simp [addL]
  have e2 : recs.filter L = pre.filter L ++ l.filter L := by
    rw [e, List.filter_append, List.filter_cons]
    simp [hL]
  rw [e1, e2]
  refine contT_insert _ _ r fun q hq n c hc => ?_
  obtain ⟨hq1, hq2⟩ := List.mem_filter.1 hq
  cases hf : find n q.ws with
  | none => rfl
  | some c' =>
    have := hC n c hc q (by rw [e]; simp [hq1]) hq2 ⟨c', hf⟩
    have := (hpre q hq1).1
    omega
theorem InvR.add (B : Built E ops fr hp sz next0 recs next1) (I : InvR C gl W0 R0 own0 ρs fr hp sz next1 recs L a W R ρ) {r : Rec} {pre l : List Rec} {o : Oper} (e : recs = pre ++ r :: l)
    (hB : Built E ops fr hp sz next0 l r.next) (hA : Added E ops fr hp sz l r o) (hpre : ∀ q ∈ pre, r.idx < q.idx ∧ r.next + r.k ≤ q.next) (hlast : r.next + r.k ≤ next1) (hL : L r = false) (hC : ∀ n c, find n r.ws = some c → ∀ q ∈ recs, L q = true → (∃ c, find n q.ws = some c) → q.idx < r.idx)
    (hws : r.g.val = true → ∀ n ∈ keys r.ws, (∃ c, contT hp (recs.filter L) n = some c) ∨ (r.next ≤ n ∧ n < r.next + r.k))
    {v : Value} {W' : World} {R' : Nat → Prop} {ρ' : Nat → Option Value}
    (T : Trans C gl W R ρ (contT hp (recs.filter L)) (match r.g.val with | true => r.ws | false => []) W' R' ρ') (hv1 : r.g.val = true → Den C W' R' ρ' r.v v) (hv2 : r.g.val = false → v = undef) :
    InvR C gl W0 R0 own0 ρs fr hp sz next1 recs (addL L r) (a.put o.dst v) W' R' ρ' := by
  obtain ⟨hs1, hs2⟩ := B.sides e hB hA hpre
  have hr : r ∈ recs := by rw [e]; simp
  have hcont := B.cont_add (hp := hp) hr hL hC
  have hM := I.mem
  refine ⟨fun d => ?_, by rw [hcont]; exact T.mem, ?_, by rw [hcont]; exact I.bt.trans T.bt, fun q hq hqL j hj => ?_, fun n hn => ?_, ?_, fun n u hu => T.ρm _ _ (I.ext n u hu)⟩
  · cases hd : isDst r.dst d with
    | true =>
      have : lastOf (recs.filter (addL L r)) d = some r := by
        rw [lastOf_filter (q := fun _ => true), List.filter_eq_self.2 fun _ _ => rfl]
        · exact B.last hr hd
        · intro q hq hqd
          have h1 := B.last hq hqd
          rw [B.last hr hd] at h1
          cases h1
          simp [addL]
      unfold slotIs
      rw [this]
      simp only
      have hlt := B.dst_lt hr hd
      rw [← I.size] at hlt
      have hput : (a.put o.dst v).tmps.getD d undef = v := by
        rw [← hA.dst, isDst_iff.1 hd]
        simp [Act.put, Array.getD, hlt]
      rw [hput]
      exact ⟨hv1, hv2⟩
    | false =>
      have : lastOf (recs.filter (addL L r)) d = lastOf (recs.filter L) d := by
        refine lastOf_filter fun q hq hqd => ?_
        have : (q.idx == r.idx) = false := by
          simp only [beq_eq_false_iff_ne]
          intro he
          have := B.inj hq hr he
          subst this
          rw [hd] at hqd; cases hqd
        simp [addL, this]
      have hput : (a.put o.dst v).tmps.getD d undef = a.tmps.getD d undef := by
        rw [← hA.dst]
        cases hdd : r.dst with
        | none => rfl
        | some d' =>
          have : d' ≠ d := fun h => by subst h; rw [isDst_iff.2 hdd] at hd; cases hd
          simp [Act.put, Array.getD_eq_getD_getElem?, Array.getElem?_setIfInBounds, this]
      have hs := I.slots d
      unfold slotIs at hs ⊢
      rw [this, hput]
      split
      · rename_i q hq
        rw [hq] at hs
        exact ⟨fun hg => T.den hM (hs.1 hg), hs.2⟩
      · rename_i hq
        rw [hq] at hs
        exact T.den hM hs
  · rw [← I.size]
    cases hd : o.dst <;> simp [Act.put]
  · have hqL' : L q = false ∧ q.idx ≠ r.idx := by simpa [addL] using hqL
    cases hρ : ρ' (q.next + j) with
    | none => rfl
    | some v' =>
      exfalso
      rcases T.ρn _ _ hρ with h1 | ⟨h1, h2⟩
      · rw [I.fresh q hq hqL'.1 j hj] at h1; cases h1
      · cases hg : r.g.val with
        | false => rw [hg] at h2; cases h2
        | true =>
          rw [hg] at h2
          rcases hws hg _ h2 with h3 | h3
          · obtain ⟨c, hc⟩ := h3
            obtain ⟨v'', hv'', _⟩ := hM.at_ _ _ hc
            rw [h1] at hv''; cases hv''
          · have : q ∈ pre ∨ q ∈ l := by
              rw [e] at hq
              rcases List.mem_append.1 hq with h | h
              · exact .inl h
              · rcases List.mem_cons.1 h with rfl | h
                · exact (hqL'.2 rfl).elim
                · exact .inr h
            rcases this with h | h
            · have := (hpre q h).2; omega
            · have := (hB.mem q h).2.1; omega
  · cases hρ : ρ' n with
    | none => rfl
    | some v' =>
      exfalso
      rcases T.ρn _ _ hρ with h1 | ⟨h1, h2⟩
      · rw [I.above n hn] at h1; cases h1
      · cases hg : r.g.val with
        | false => rw [hg] at h2; cases h2
        | true =>
          rw [hg] at h2
          rcases hws hg _ h2 with h3 | h3
          · obtain ⟨c, hc⟩ := h3
            obtain ⟨v'', hv'', _⟩ := hM.at_ _ _ hc
            rw [h1] at hv''; cases hv''
          · omega
  · rw [← I.defers]
    cases hd : o.dst <;> rfl
theorem nilB_of {α : Type} {l : List α} (h : nilB l = true) : l = [] := by
  cases l with
  | nil => rfl
  | cons => cases h
theorem subN_of {l l' : List Nat} (h : subN l l' = true) : ∀ n ∈ l, n ∈ l' := by
  induction l with
  | nil => intro n hn; cases hn
  | cons m l ih =>
    simp only [subN, Bool.and_eq_true] at h
    intro n hn
    rcases List.mem_cons.1 hn with rfl | hn
    · exact memN_iff.1 h.1
    · exact ih h.2 n hn
theorem mem_reads {ops : List Oper} {o : Oper} {d : Nat} (h : Operand.tmp d ∈ o.op.operands.toList) : d ∈ readsOf ops o := by
  unfold readsOf
  exact List.mem_append_left _ (List.mem_filterMap.2 ⟨_, h, rfl⟩)
theorem writerOf_last (l : List Rec) (t : Nat) : writerOf l t = (lastOf l t).map (·.idx) := by
  induction l with
  | nil => rfl
  | cons q l ih => simp only [writerOf, lastOf]; split <;> simp_all
theorem step_ok (EO : EnvOk P C gl E) (B : Built E ops fr hp sz next0 recs next1) {r : Rec} (hr : r ∈ recs) {o : Oper} (ho : ops[r.idx]? = some o) (hL : L r = false) {sb : Option Nat} (RD : Ready E fr hp sb ops o recs L r)
    (I : InvR C gl W0 R0 own0 ρs fr hp sz next1 recs L a W R ρ) (K : Act → World → Prop)
    (hK : ∀ a W R ρ, InvR C gl W0 R0 own0 ρs fr hp sz next1 recs (addL L r) a W R ρ → K a W) : wpOp P ops.toArray Q r.idx K a W := by
  obtain ⟨pre, l, o', e, hB, hA, hpre, hlast⟩ := B.split hr
  have : o' = o := by
    have := hA.op
    rw [← hA.idx, ho] at this
    cases this; rfl
  subst this
  obtain ⟨hs1, hs2⟩ := B.sides e hB hA hpre
  have hM := I.mem
  have hw := wanted_ok EO B I e hB hA hpre RD
  have hoa : ops.toArray[r.idx]? = some o' := by simpa using ho
  unfold wpOp
  rw [hoa]
  simp only [hw]
  cases hg : r.g.val with
  | false =>
    simp only [Bool.false_eq_true, if_false]
    exact hK _ _ R ρ (InvR.add B I e hB hA hpre hlast hL RD.C (fun h => by rw [hg] at h; cases h) (v := undef) (by rw [hg]; exact Trans.refl hM) (fun h => by rw [hg] at h; cases h) fun _ => rfl)
  | true =>
    simp only [if_true]
    left
    rcases hA.how with ⟨h1, h2, h3, h4, h5, h6, h7⟩ | ⟨res, h1, h2, h3, h4, h5, h6, h7, h8⟩
    · rw [h3] at hg; cases hg
    have hev := fun (x : Operand) (hx : x ∈ o'.op.operands.toList) => eval_ok EO B I hr hg hs2 (κx := none) (fun q hq hn => (hn rfl).elim) x fun d hd => by subst hd; exact RD.A d (mem_reads hx)
    have hlk : ∀ n, ∀ c, lookR hp l r.key n = some c → contT hp l n = some c := fun n c hc =>
      lookR_T (fun q hq hk => (B.key_g hr (by rw [e]; simp [hq]) hk hg).imp id fun h => h.2) hc
    have fin : (∀ n ∈ keys r.ws, (∃ c, contT hp (recs.filter L) n = some c) ∨ (r.next ≤ n ∧ n < r.next + r.k)) →
        ∀ v W' R' ρ', Trans C gl W R ρ (contT hp (recs.filter L)) res.ws W' R' ρ' → Den C W' R' ρ' res.v v → K (a.put o'.dst v) W' := fun hws v W' R' ρ' T hd =>
      hK _ _ R' ρ' (InvR.add B I e hB hA hpre hlast hL RD.C (fun _ => hws) (v := v) (by rw [hg, h6]; exact T) (fun _ => by rw [h5]; exact hd) fun h => by rw [hg] at h; cases h)
    unfold stepR at h4
    split at h4
    · rename_i c x y hop
      split at h4
      · rename_i v hpk
        injection h4 with h4
        injection h4 with hres htn
        subst hres
        have hc := hev c (by rw [hop]; simp [Op.operands])
        have side : ∀ b, a.eval c = .bool b → ∀ q ∈ recs, keyOf l c b ≠ none → readable (keyOf l c b) q.key = true → q.key ≠ none → q.g.val = true ∨ q.v = .any := by
          intro b hb q hq hn hk hqn
          cases c with
          | tmp t =>
            simp only [keyOf] at hn hk
            rw [writerOf_last] at hn hk
            cases hlt : lastOf l t with
            | none => rw [hlt] at hn; exact (hn rfl).elim
            | some w =>
              rw [hlt] at hk
              simp only [Option.map_some] at hk
              cases hqk : q.key with
              | none => exact (hqn hqk).elim
              | some p =>
                obtain ⟨j, b'⟩ := p
                rw [hqk] at hk
                have hk := keyEq_eq hk
                cases hk
                obtain ⟨pq, lq, oq, eq, hBq, hAq, _⟩ := B.split hq
                obtain ⟨w', w1, w2, _, w4, _⟩ := guard_truth (hAq.key_some hqk)
                have hwm : w ∈ recs := by rw [e]; simp [(lastOf_mem hlt).1]
                have := B.inj (r := w') (q := w) (by rw [eq]; simp [w1]) hwm w2
                subst this
                have hsl := I.slots t
                unfold slotIs at hsl
                rw [lastOf_filter (RD.A t (mem_reads (by rw [hop]; simp [Op.operands]))), hs2, hlt] at hsl
                simp only at hsl
                have hb : a.tmps.getD t undef = .bool b := hb
                rw [hb] at hsl
                left
                refine w4.2 ?_
                cases hwg : w'.g.val with
                | false => have := hsl.2 hwg; cases this
                | true =>
                  refine ⟨rfl, ?_⟩
                  have hd := hsl.1 hwg
                  obtain ⟨w'', w1', w2', _, w4', w5'⟩ := guard_truth (hAq.key_some hqk)
                  have := B.inj (r := w'') (q := w') (by rw [eq]; simp [w1']) hwm (by rw [w2'])
                  subst this
                  obtain ⟨β, hβ⟩ := w5' hwg
                  rw [hβ] at hd
                  have := hd.bool_inv
                  exact ⟨β, hβ, by cases this; rfl⟩
          | const v => exact (hn rfl).elim
          | global g => exact (hn rfl).elim
          | func f => exact (hn rfl).elim
        obtain ⟨t, ht, hd⟩ := pickS_den (v := .nilIface) hpk hc (a.eval x) (a.eval y)
          (fun hb => eval_ok EO B I hr hg hs2 (side true hb) x fun d hd => by subst hd; exact RD.A d (mem_reads (by rw [hop]; simp [Op.operands])))
          (fun hb => eval_ok EO B I hr hg hs2 (side false hb) y fun d hd => by subst hd; exact RD.A d (mem_reads (by rw [hop]; simp [Op.operands])))
        refine Yields.value (r := { v := v }) hM (v := if t then a.eval x else a.eval y) ?_ hd rfl K Q (fin ?_)
        · unfold execOp; rw [hop]; simp [ht, asBool]
        · rw [h6]; intro n hn; cases hn
      · cases h4
    · rename_i hnp
      split at h4
      · cases h4
      · rename_i r' tch hrun
        split at h4
        · rename_i hok
          injection h4 with h4
          injection h4 with hres htn
          subst hres htn
          rw [Bool.and_eq_true] at hok
          have hall := allKnown_of hok.1
          have hwf := wsFit_of hok.2
          have hcongr : ∀ look, (sop E o' (fun x => open Classical in if x ∈ o'.op.operands.toList then evR E fr l r.key none x else .any) r.next).run look [] = (sop E o' (evR E fr l r.key none) r.next).run look [] := fun look => by
            congr 1
            exact sop_congr fun x hx => by simp only [hx, if_true]
          have hevA : ∀ x, Den C W R ρ (open Classical in if x ∈ o'.op.operands.toList then evR E fr l r.key none x else .any) (a.eval x) := fun x => by
            by_cases hx : x ∈ o'.op.operands.toList
            · simp only [hx, if_true]; exact hev x hx
            · simp only [hx, if_false]; exact .any _
          by_cases hs : ∃ q ∈ recs, q.g.val = true ∧ (sb = some q.idx ∧ r.idx < q.idx ∧ L q = true ∧ commP E fr hp (recs.filter fun x => decide (x.idx < r.idx)) r o' q)
          · -- another one has come first
            obtain ⟨q, hq, hqg, hsb, hlt, hLq, hcm⟩ := hs
            rw [hs2] at hcm
            have hP1 : decide (q.idx < r.idx) = false := decide_eq_false (by omega)
            have hcT : ∀ n ∈ r.tch, contT hp (recs.filter L) n = upd (contT hp l) q.ws n := fun n hn => by
              have hside : ∀ x ∈ recs, x.g.val = true → (∃ c, find n x.ws = some c) → L x = addL (fun x => decide (x.idx < r.idx)) q x := fun x hx hxg hxn => by
                by_cases hxq : x.idx = q.idx
                · have := B.inj hx hq hxq
                  subst this
                  rw [hLq]; simp [addL]
                · have hne : (x.idx == q.idx) = false := by simpa using hxq
                  rcases RD.B n hn x hx hxn with hB1 | ⟨hB1, _⟩
                  · rw [hB1]; simp [addL, hne]
                  · rw [hsb] at hB1
                    exact (hxq (by simpa using hB1.symm)).elim
              have hadd := B.cont_add (hp := hp) (L := fun x => decide (x.idx < r.idx)) hq hP1 (fun n c hc x hx hLx _ => by have := of_decide_eq_true hLx; omega)
              rw [contT_filter2 hside, hadd, hs2, hqg]
            unfold commP at hcm
            split at hcm
            · rename_i r2 tch2 hrun2
              obtain ⟨⟨c1, c2, c3, c4, c5⟩, c6⟩ := hcm
              replace c2 := nilB_of c2
              replace c3 := nilB_of c3
              obtain ⟨c6, c7⟩ := c6 hg
              have hrun2' := (Acc.run_look (look' := contT hp (recs.filter L)) hrun2 fun n hn => by
                have hn := subN_of c1 n hn
                rw [hcT n hn]
                unfold upd
                cases hf : find n q.ws with
                | some c => rfl
                | none =>
                  obtain ⟨c, hc⟩ := hall n hn
                  simp only
                  rw [hc]; exact hlk n c hc).1
              refine sop_ok (r := r2) (next := r.next) (l := []) (l' := tch2) (ev := fun x => open Classical in if x ∈ o'.op.operands.toList then evR E fr l r.key none x else .any) ⟨EO, hM, hevA, by rw [← hrun2']; exact hcongr _, fun p hp => by rw [hp] at c7; exact c7, fun j hj => by rw [c5] at hj; cases hj⟩ (fun c x y => hnp c x y) K Q fun v W' R' ρ' T hd => ?_
              exact hK _ _ R' ρ' (InvR.add B I e hB hA hpre hlast hL RD.C (fun _ n hn => by rw [c2] at hn; cases hn) (v := v) (by rw [hg, c2]; rw [c3] at T; exact T) (fun _ => by rw [← c6]; exact hd) fun h => by rw [hg] at h; cases h)
            · exact hcm.elim
          · have hcT : ∀ n ∈ r.tch, contT hp (recs.filter L) n = contT hp l n := fun n hn => by
              rw [contT_filter2 (q := fun x => decide (x.idx < r.idx)) fun x hx hxg hxn => ?_, hs2]
              rcases RD.B n hn x hx hxn with hB1 | hB1
              · exact hB1
              · exact (hs ⟨x, hx, hxg, hB1⟩).elim
            have hrun' := (Acc.run_look (look' := contT hp (recs.filter L)) hrun fun n hn => let ⟨c, hc⟩ := hall n hn; by rw [hc, hcT n hn]; exact hlk n c hc).1
            refine sop_ok (next := r.next) (l := []) (l' := r.tch) (ev := fun x => open Classical in if x ∈ o'.op.operands.toList then evR E fr l r.key none x else .any) ⟨EO, hM, hevA, by rw [← hrun']; exact hcongr _, fun q hq => h8 q hq hg, fun j hj => I.fresh r hr hL j (by rw [h7]; exact hj)⟩ (fun c x y => hnp c x y) K Q (fin ?_)
            rw [h6, h7]
            intro n hn
            rcases hwf n hn with hw | hw
            · obtain ⟨c, hc⟩ := hall n hw
              exact .inl ⟨c, by rw [hcT n hw]; exact hlk n c hc⟩
            · exact .inr hw
        · cases h4
end
end Go.Sy

set_option linter.unusedVariables false
set_option linter.unusedSimpArgs false
namespace Go.Sy
open Go.RowKit
section
variable {P : Program} {C : Ctx} {gl : List (Nat × SVal)} {E : Env} {ops : List Oper} {fr : List (Nat × SVal)} {hp : List (Nat × Option Cont)} {sz next0 next1 : Nat} {recs : List Rec}
variable {W0 : World} {R0 own0 : Nat → Prop} {ρs : Nat → Option Value} {L : Rec → Bool} {a : Act} {W W' : World} {R R' : Nat → Prop} {ρ ρ' : Nat → Option Value} {h : Nat → Option Cont} {Q : Exit → Act → World → Prop}
theorem Built.at (B : Built E ops fr hp sz next0 recs next1) : ∀ i, i < recs.length → ∃ r ∈ recs, r.idx = i := by
  induction B with
  | nil => intro i h; cases h
  | cons l r o next hB hA hn ih =>
    intro i hi
    simp only [List.length_cons] at hi
    by_cases h : i < l.length
    · obtain ⟨q, hq, e⟩ := ih i h
      exact ⟨q, List.mem_cons_of_mem _ hq, e⟩
    · exact ⟨r, List.mem_cons_self .., by have := hA.idx; omega⟩
theorem InvR.congr {L' : Rec → Bool} (I : InvR C gl W0 R0 own0 ρs fr hp sz next1 recs L a W R ρ) (h : ∀ q ∈ recs, L q = L' q) : InvR C gl W0 R0 own0 ρs fr hp sz next1 recs L' a W R ρ := by
  have e : recs.filter L = recs.filter L' := List.filter_congr h
  obtain ⟨h1, h2, h3, h4, h5, h6, h7, h8⟩ := I
  rw [e] at h2 h4
  exact ⟨fun d => by have := h1 d; rwa [e] at this, h2, h3, h4, fun r hr hL => h5 r hr (by rw [h r hr]; exact hL), h6, h7, h8⟩
theorem region_seq (EO : EnvOk P C gl E) (B : Built E ops fr hp sz next0 recs next1) (hlen : recs.length = ops.length)
    (hQ : ∀ a W R ρ, InvR C gl W0 R0 own0 ρs fr hp sz next1 recs (fun _ => true) a W R ρ → Q .normal a W) :
    ∀ (n i : Nat) {a : Act} {W : World} {R : Nat → Prop} {ρ : Nat → Option Value}, i + n = ops.length → InvR C gl W0 R0 own0 ρs fr hp sz next1 recs (fun q => decide (q.idx < i)) a W R ρ → wpOps P ops.toArray Q (List.range' i n) a W := by
  intro n
  induction n with
  | zero =>
    intro i a W R ρ hi I
    refine hQ a W R ρ (I.congr fun q hq => ?_)
    have := (B.mem q hq).1
    simp; omega
  | succ n ih =>
    intro i a W R ρ hi I
    rw [List.range'_succ, wpOps_cons]
    obtain ⟨r, hr, rfl⟩ := B.at i (by omega)
    obtain ⟨o, ho, _⟩ := B.op hr
    refine step_ok EO B hr ho (by simp) ⟨fun d _ q _ _ => rfl, fun n _ q _ _ => .inl rfl, fun n c _ q _ hq _ => by simpa using hq⟩ (sb := none) I _ fun a W R ρ I => ?_
    refine ih (r.idx + 1) (by omega) (I.congr fun q hq => ?_)
    simp only [addL]
    by_cases h1 : q.idx < r.idx
    · have : q.idx < r.idx + 1 := by omega
      simp [h1, this]
    · by_cases h2 : q.idx = r.idx
      · simp [h2]
      · have : ¬ q.idx < r.idx + 1 := by omega
        simp [h1, h2, this]
def ReadyS (ops : List Oper) (S : Nat → Prop) (i : Nat) : Prop := ∀ o, ops[i]? = some o → ∀ e ∈ o.after.toList, bindsB e.ground = true → S e.on
def ClosedS (ops : List Oper) (S : Nat → Prop) : Prop := ∀ i, S i → ReadyS ops S i
theorem fold_bit (f : Edge → Nat) (l : List Edge) : ∀ (m j : Nat), (l.foldl (fun m e => match bindsB e.ground with | true => Nat.lor m (f e) | false => m) m).testBit j = true →
    m.testBit j = true ∨ ∃ e ∈ l, bindsB e.ground = true ∧ (f e).testBit j = true := by
  induction l with
  | nil => intro m j h; exact .inl h
  | cons e l ih =>
    intro m j h
    simp only [List.foldl_cons] at h
    rcases ih _ _ h with h1 | ⟨e', h1, h2, h3⟩
    · split at h1
      · rename_i hb
        have : (m ||| f e).testBit j = true := h1
        rw [Nat.testBit_or, Bool.or_eq_true] at this
        rcases this with h | h
        · exact .inl h
        · exact .inr ⟨e, List.mem_cons_self .., hb, h⟩
      · exact .inl h1
    · exact .inr ⟨e', List.mem_cons_of_mem _ h1, h2, h3⟩
theorem masks_ok {S : Nat → Prop} (hS : ClosedS ops S) : ∀ (l : List Oper) (n : Nat) (acc : List Nat), ops.drop n = l → n ≤ ops.length → (∀ i j, ReadyS ops S i → (maskAt acc n i).testBit j = true → S j) →
    ∀ i j, ReadyS ops S i → (maskAt (masks l n acc) ops.length i).testBit j = true → S j := by
  intro l
  induction l with
  | nil =>
    intro n acc hd hn h i j
    have := List.drop_eq_nil_iff.1 hd
    have : n = ops.length := by omega
    subst this
    exact h i j
  | cons o l ih =>
    intro n acc hd hn h
    have hlt : n < ops.length := by
      apply Nat.lt_of_not_le; intro hc
      rw [List.drop_eq_nil_of_le hc] at hd; cases hd
    have ho : ops[n]? = some o := by
      have := congrArg (·[0]?) hd
      simpa using this
    have hd' : ops.drop (n + 1) = l := by rw [← List.drop_drop, hd]; rfl
    refine ih (n + 1) _ hd' hlt fun i j hi hj => ?_
    simp only [maskAt, Nat.add_sub_cancel] at hj
    split at hj
    · rename_i hb
      have hb : n + 1 = i + 1 := Nat.eq_of_beq_eq_true hb
      have hb : n = i := by omega
      subst hb
      rcases fold_bit (fun e => Nat.lor (Nat.pow 2 e.on) (maskAt acc n e.on)) _ _ _ hj with h1 | ⟨e, he, hb, h1⟩
      · simp at h1
      · have hSe := hi o ho e he hb
        have : (2 ^ e.on ||| maskAt acc n e.on).testBit j = true := h1
        rw [Nat.testBit_or, Bool.or_eq_true] at this
        rcases this with h2 | h2
        · rw [Nat.testBit_two_pow] at h2
          have : e.on = j := by simpa using h2
          rw [← this]; exact hSe
        · exact h e.on j (hS _ hSe) h2
    · exact h i j hi hj
theorem orderedAll_ok {ms : List Nat} {n : Nat} {sb : Option Nat} : ∀ {l : List (Rec × List Nat)}, orderedAll ops ms n sb l = true → ∀ pre b rb post, l = pre ++ (b, rb) :: post → ∀ a ra, (a, ra) ∈ post →
    (hard a b ra rb = true → (maskAt ms n b.idx).testBit a.idx = true) ∧ (soft a b = true → (maskAt ms n b.idx).testBit a.idx = true ∨ isNext sb b.idx = true) := by
  intro l
  induction l with
  | nil => intro _ pre b rb post e; simp at e
  | cons p l ih =>
    intro h pre b rb post e a ra hm
    obtain ⟨b', rb'⟩ := p
    simp only [orderedAll, Bool.and_eq_true] at h
    cases pre with
    | nil =>
      simp only [List.nil_append, List.cons.injEq, Prod.mk.injEq] at e
      obtain ⟨⟨rfl, rfl⟩, rfl⟩ := e
      have := List.all_eq_true.1 h.1 (a, ra) hm
      simp only at this
      cases hh : hard a b' ra rb' with
      | true =>
        rw [hh] at this
        exact ⟨fun _ => this, fun _ => .inl this⟩
      | false =>
        rw [hh] at this
        refine ⟨(fun h => by cases h), fun hs => ?_⟩
        rw [hs] at this
        simpa using this
    | cons q pre =>
      simp only [List.cons_append, List.cons.injEq] at e
      exact ih h.2 pre b rb post e.2 a ra hm
theorem Built.ordered (B : Built E ops fr hp sz next0 recs next1) (hd : drawOk ops recs = true) {S : Nat → Prop} (hS : ClosedS ops S) {a b : Rec} {oa ob : Oper} (ha : a ∈ recs) (hb : b ∈ recs) (hlt : a.idx < b.idx)
    (hoa : ops[a.idx]? = some oa) (hob : ops[b.idx]? = some ob) (hr : ReadyS ops S b.idx) :
    (hard a b (readsOf ops oa) (readsOf ops ob) = true → S a.idx) ∧ (soft a b = true → S a.idx ∨ ((maskAt (masks ops 0 []) ops.length b.idx).testBit a.idx = false ∧ softIdx (masks ops 0 []) ops.length recs = some b.idx)) := by
  unfold drawOk at hd
  rw [Bool.and_eq_true] at hd
  obtain ⟨pre, l, o, e, hB, hA, hpre, _⟩ := B.split hb
  have hal : a ∈ l := by
    rw [e] at ha
    rcases List.mem_append.1 ha with h | h
    · have := (hpre a h).1; omega
    · rcases List.mem_cons.1 h with rfl | h
      · omega
      · exact h
  have hmk := fun h => masks_ok hS ops 0 [] rfl (Nat.zero_le _) (fun i j _ h => by simp [maskAt] at h) b.idx a.idx hr h
  have := orderedAll_ok hd.2 (pre.map _) b _ (l.map _) (by rw [show recs.map _ = _ from congrArg _ e, List.map_append, List.map_cons]) a _ (List.mem_map.2 ⟨a, hal, rfl⟩)
  simp only [hoa, hob] at this
  refine ⟨fun h => hmk (this.1 h), fun h => ?_⟩
  cases ht : (maskAt (masks ops 0 []) ops.length b.idx).testBit a.idx with
  | true => exact .inl (hmk ht)
  | false =>
    rcases this.2 h with h1 | h1
    · rw [ht] at h1; cases h1
    · refine .inr ⟨rfl, ?_⟩
      unfold isNext at h1
      split at h1
      · rename_i j hj; rw [hj, Nat.eq_of_beq_eq_true h1]
      · cases h1
theorem Built.rec_at (B : Built E ops fr hp sz next0 recs next1) {r : Rec} (hr : r ∈ recs) : recAt recs r.idx = some r := by
  have : ∀ l : List Rec, r ∈ l → (∀ q ∈ l, q ∈ recs) → recAt l r.idx = some r := by
    intro l
    induction l with
    | nil => intro h; cases h
    | cons q l ih =>
      intro h hs
      simp only [recAt]
      cases hb : q.idx.beq r.idx with
      | true => rw [B.inj (hs q (List.mem_cons_self ..)) hr (Nat.eq_of_beq_eq_true hb)]
      | false =>
        rcases List.mem_cons.1 h with rfl | h
        · rw [Nat.beq_refl] at hb; cases hb
        · exact ih h fun q hq => hs q (List.mem_cons_of_mem _ hq)
  exact this recs hr fun _ h => h
theorem commsAt_mem {ms : List Nat} {b r : Rec} {o : Oper} {l : List Rec} : ∀ {pre : List Rec}, r.idx < b.idx → soft r b = true → (maskAt ms ops.length b.idx).testBit r.idx = false → ops[r.idx]? = some o → commP E fr hp l r o b ∈ commsAt E fr hp ops ms b (pre ++ r :: l) := by
  intro pre
  induction pre with
  | nil =>
    intro h0 h1 h2 h3
    have h0 : Nat.ble (r.idx + 1) b.idx = true := Nat.ble_eq_true_of_le h0
    simp only [List.nil_append, commsAt, h0, h1, h2, h3, Bool.not_false, Bool.and_self]
    exact List.mem_append_left _ (List.mem_cons_self ..)
  | cons q pre ih =>
    intro h0 h1 h2 h3
    simp only [List.cons_append, commsAt]
    exact List.mem_append_right _ (ih h0 h1 h2 h3)
theorem meets_of {a b : List Nat} {x : Nat} (h1 : x ∈ a) (h2 : x ∈ b) : meets a b = true := List.any_eq_true.2 ⟨x, h1, memN_iff.2 h2⟩
theorem keysN_eq (ws : List (Nat × Option Cont)) : keysN ws = keys ws := by
  induction ws with
  | nil => rfl
  | cons p ws ih => obtain ⟨r, c⟩ := p; simp only [keysN, keys, List.map_cons, ih]
theorem memD_of {o : Option Nat} {d : Nat} {l : List Nat} (h : isDst o d = true) (hd : d ∈ l) : memD o l = true := by
  rw [isDst_iff.1 h]; exact memN_iff.2 hd
theorem ready_draw (B : Built E ops fr hp sz next0 recs next1) (hd : drawOk ops recs = true) (hcm : ∀ p ∈ comms E fr hp ops recs, p) {S : Nat → Prop} (hS : ClosedS ops S) (hSL : ∀ q ∈ recs, L q = true ↔ S q.idx) {r : Rec} (hr : r ∈ recs) {o : Oper} (ho : ops[r.idx]? = some o)
    (hrs : ReadyS ops S r.idx) (hL : L r = false) : Ready E fr hp (softIdx (masks ops 0 []) ops.length recs) ops o recs L r := by
  have hnS : ¬ S r.idx := fun h => by have := (hSL r hr).2 h; rw [hL] at this; cases this
  have lo : ∀ q ∈ recs, ∀ oq, ops[q.idx]? = some oq → q.idx < r.idx → hard q r (readsOf ops oq) (readsOf ops o) = true → L q = true := fun q hq oq hoq hlt hc =>
    (hSL q hq).2 ((B.ordered hd hS hq hr hlt hoq ho hrs).1 hc)
  have hi : ∀ q ∈ recs, ∀ oq, ops[q.idx]? = some oq → r.idx < q.idx → hard r q (readsOf ops o) (readsOf ops oq) = true → L q = false := fun q hq oq hoq hlt hc => by
    cases hLq : L q with
    | false => rfl
    | true => exact (hnS ((B.ordered hd hS hr hq hlt ho hoq (hS _ ((hSL q hq).1 hLq))).1 hc)).elim
  refine ⟨fun d hdr q hq hqd => ?_, fun n hn q hq hqn => ?_, fun n c hc q hq hLq hqn => ?_⟩
  · obtain ⟨oq, hoq, _⟩ := B.op hq
    have hmd := memD_of hqd hdr
    rcases Nat.lt_trichotomy q.idx r.idx with h | h | h
    · rw [lo q hq oq hoq h (by simp [hard, hmd])]; simp [h]
    · have := B.inj hq hr h
      subst this
      rw [hL]; simp
    · rw [hi q hq oq hoq h (by simp [hard, hmd])]; have : ¬ q.idx < r.idx := by omega
      simp [this]
  · obtain ⟨oq, hoq, _⟩ := B.op hq
    obtain ⟨c, hc⟩ := hqn
    have hmt := meets_of (a := keysN q.ws) (b := r.tch) (x := n) (by rw [keysN_eq]; exact find_key hc) hn
    rcases Nat.lt_trichotomy q.idx r.idx with h | h | h
    · left
      rw [lo q hq oq hoq h (by simp [hard, hmt])]; simp [h]
    · left
      have := B.inj hq hr h
      subst this
      rw [hL]; simp
    · cases hLq : L q with
      | false =>
        left
        have : ¬ q.idx < r.idx := by omega
        simp [this]
      | true =>
        right
        rcases (B.ordered hd hS hr hq h ho hoq (hS _ ((hSL q hq).1 hLq))).2 hmt with h1 | ⟨h1, h2⟩
        · exact (hnS h1).elim
        · refine ⟨h2, h, rfl, ?_⟩
          obtain ⟨pre, l, o', e, hB, hA, hpre, _⟩ := B.split hr
          rw [(B.sides e hB hA hpre).2]
          refine hcm _ ?_
          unfold comms
          rw [h2]
          simp only [B.rec_at hq]
          have := commsAt_mem (E := E) (fr := fr) (hp := hp) (ops := ops) (l := l) (pre := pre) h hmt h1 ho
          rw [← e] at this
          exact this
  · obtain ⟨c', hc'⟩ := hqn
    obtain ⟨oq, hoq, _⟩ := B.op hq
    rcases Nat.lt_trichotomy q.idx r.idx with h | h | h
    · exact h
    · have := B.inj hq hr h
      subst this
      rw [hL] at hLq; cases hLq
    · have := meets_of (a := keysN r.ws) (b := keysN q.ws) (x := n) (by rw [keysN_eq]; exact find_key hc) (by rw [keysN_eq]; exact find_key hc')
      have := hi q hq oq hoq h (by simp [hard, this])
      rw [this] at hLq; cases hLq
theorem edgesOk_ok : ∀ {l : List Oper} {n : Nat}, edgesOk l n = true → ∀ i o, l[i]? = some o → ∀ e ∈ o.after.toList, bindsB e.ground = true → e.on < n + i := by
  intro l
  induction l with
  | nil => intro n _ i o h; simp at h
  | cons o l ih =>
    intro n h i o' hi e he hb
    simp only [edgesOk, Bool.and_eq_true] at h
    cases i with
    | zero =>
      simp at hi; subst hi
      have := List.all_eq_true.1 h.1 e he
      simp only [hb] at this
      exact Nat.le_of_ble_eq_true this
    | succ i =>
      have := ih h.2 i o' (by simpa using hi) e he hb
      omega
theorem binds_any (e : Edge) : Region.binds .any e = bindsB e.ground := by
  unfold Region.binds bindsB
  cases e.ground <;> rfl
theorem ready_iff {listed : Array Bool} {i : Nat} (hsz : listed.size = ops.length) : i ∈ Region.ready .any ops.toArray listed ↔ i < ops.length ∧ listed.getD i false = false ∧ ReadyS ops (fun i => listed.getD i false = true) i := by
  unfold Region.ready
  rw [List.mem_filter]
  simp only [List.mem_range, List.size_toArray, Bool.and_eq_true]
  constructor
  · rintro ⟨h1, h2, h3⟩
    refine ⟨h1, ?_, ?_⟩
    · have hlt : i < listed.size := by omega
      simpa [Array.getD, hlt] using h2
    · intro o ho e he hb
      have : ops.toArray[i]? = some o := by simpa using ho
      rw [this] at h3
      simp only [Option.map_some, Option.getD_some, Array.all_eq_true'] at h3
      have := h3 e (by simpa using he)
      rw [binds_any, hb] at this
      simpa using this
  · rintro ⟨h1, h2, h3⟩
    refine ⟨h1, ?_, ?_⟩
    · have hlt : i < listed.size := by omega
      simpa [Array.getD, hlt] using h2
    · have ho : ops[i]? = some ops[i] := List.getElem?_eq_getElem h1
      have hoa : ops.toArray[i]? = some ops[i] := by simp [h1]
      rw [hoa]
      simp only [Option.map_some, Option.getD_some, Array.all_eq_true']
      intro e he
      rw [binds_any]
      cases hb : bindsB e.ground with
      | false => rfl
      | true => simpa using h3 _ ho e (by simpa using he) hb
theorem region_any (EO : EnvOk P C gl E) (B : Built E ops fr hp sz next0 recs next1) (hlen : recs.length = ops.length) (hd : drawOk ops recs = true) (hcm : ∀ p ∈ comms E fr hp ops recs, p)
    (hQ : ∀ a W R ρ, InvR C gl W0 R0 own0 ρs fr hp sz next1 recs (fun _ => true) a W R ρ → Q .normal a W) :
    ∀ (fuel : Nat) (listed : Array Bool) {a : Act} {W : World} {R : Nat → Prop} {ρ : Nat → Option Value}, listed.size = ops.length → ClosedS ops (fun i => listed.getD i false = true) →
      (recs.filter fun q => !listed.getD q.idx false).length ≤ fuel → InvR C gl W0 R0 own0 ρs fr hp sz next1 recs (fun q => listed.getD q.idx false) a W R ρ → wpAny P .any ops.toArray Q fuel listed a W := by
  have hed : edgesOk ops 0 = true := by unfold drawOk at hd; rw [Bool.and_eq_true] at hd; exact hd.1
  intro fuel
  induction fuel with
  | zero =>
    intro listed a W R ρ hsz hcl hn I
    have hall : ∀ q ∈ recs, listed.getD q.idx false = true := fun q hq => by
      have := List.filter_eq_nil_iff.1 (List.eq_nil_of_length_eq_zero (Nat.le_zero.1 hn)) q hq
      simpa using this
    refine ⟨?_, hQ a W R ρ (I.congr fun q hq => hall q hq)⟩
    apply List.eq_nil_iff_forall_not_mem.2
    intro i hi
    obtain ⟨h1, h2, _⟩ := (ready_iff hsz).1 hi
    obtain ⟨r, hr, rfl⟩ := B.at i (by omega)
    rw [hall r hr] at h2; cases h2
  | succ fuel ih =>
    intro listed a W R ρ hsz hcl hn I
    refine ⟨fun hnil => ?_, fun i hi => ?_⟩
    · have hall : ∀ i, i < ops.length → listed.getD i false = true := by
        intro i
        induction i using Nat.strongRecOn with
        | _ i ihi =>
          intro hlt
          cases hli : listed.getD i false with
          | true => rfl
          | false =>
            have : i ∈ Region.ready .any ops.toArray listed := (ready_iff hsz).2 ⟨hlt, hli, fun o ho e he hb => by
              have := edgesOk_ok hed i o ho e he hb
              exact ihi e.on (by omega) (by omega)⟩
            rw [hnil] at this; cases this
      exact hQ a W R ρ (I.congr fun q hq => hall _ (by have := (B.mem q hq).1; omega))
    · obtain ⟨h1, h2, h3⟩ := (ready_iff hsz).1 hi
      obtain ⟨r, hr, rfl⟩ := B.at i (by omega)
      obtain ⟨o, ho, _⟩ := B.op hr
      have hlt : r.idx < listed.size := by omega
      have hset : ∀ j, (listed.setIfInBounds r.idx true).getD j false = (listed.getD j false || j == r.idx) := fun j => by
        by_cases hj : r.idx = j
        · subst hj; simp [Array.getD_eq_getD_getElem?, Array.getElem?_setIfInBounds, hlt]
        · have : (j == r.idx) = false := by simpa using fun h => hj h.symm
          simp [Array.getD_eq_getD_getElem?, Array.getElem?_setIfInBounds, hj, this]
      refine step_ok EO B hr ho h2 (ready_draw B hd hcm hcl (fun q hq => Iff.rfl) hr ho h3 h2) I _ fun a W R ρ I => ?_
      refine ih _ (by simpa using hsz) ?_ ?_ (I.congr fun q hq => (hset q.idx).symm)
      · intro i hi o' ho' e he hb
        rw [hset] at hi ⊢
        rw [Bool.or_eq_true] at hi ⊢
        rcases hi with hi | hi
        · exact .inl (hcl i hi o' ho' e he hb)
        · have : i = r.idx := by simpa using hi
          subst this
          exact .inl (h3 o' ho' e he hb)
      · have e : (recs.filter fun q => !(listed.setIfInBounds r.idx true).getD q.idx false) = (recs.filter fun q => !listed.getD q.idx false).filter fun q => !(q.idx == r.idx) := by
          rw [List.filter_filter]
          refine List.filter_congr fun q hq => ?_
          rw [hset, Bool.not_or, Bool.and_comm]
        have hlt' : ((recs.filter fun q => !listed.getD q.idx false).filter fun q => !(q.idx == r.idx)).length < (recs.filter fun q => !listed.getD q.idx false).length := by
          rw [List.length_filter_lt_length_iff_exists]
          exact ⟨r, List.mem_filter.2 ⟨hr, by rw [h2]; rfl⟩, by simp⟩
        rw [e]; omega
end
end Go.Sy

set_option linter.unusedVariables false
set_option linter.unusedSimpArgs false
namespace Go.Sy
open Go.RowKit
def ρσ (σ : List (Nat × Nat)) (ρ : Nat → Option Value) : Nat → Option Value := fun r => (find r σ).bind fun q => match Nat.ble nilN q with
  | true => some (.slice none 0 0)
  | false => ρ q
def RF (σ : List (Nat × Nat)) (h : Nat → Option Cont) (ρ : Nat → Option Value) (R : Nat → Prop) : Nat → Prop := fun b => R b ∨ ∃ n c v, rng σ n = false ∧ h n = some c ∧ ρ n = some v ∧ blk v = some b
section
variable {C : Ctx} {gl : List (Nat × SVal)} {W : World} {R : Nat → Prop} {ρ : Nat → Option Value} {h : Nat → Option Cont} {σ : List (Nat × Nat)}
theorem same_ok {q r : Nat} (h : same q r = true) : q = r ∧ Nat.ble nilN q = false := by
  unfold same at h
  split at h
  · cases h
  · rename_i hb; exact ⟨Nat.eq_of_beq_eq_true h, hb⟩
theorem ρσ_at {r q : Nat} (hf : find r σ = some q) (hb : Nat.ble nilN q = false) : ρσ σ ρ r = ρ q := by unfold ρσ; rw [hf]; simp only [Option.bind_some, hb]
theorem ρσ_nil {r q : Nat} (hf : find r σ = some q) (hb : Nat.ble nilN q = true) : ρσ σ ρ r = some (.slice none 0 0) := by unfold ρσ; rw [hf]; simp only [Option.bind_some, hb]
theorem rng_find {r q : Nat} (hf : find r σ = some q) : rng σ q = true := by
  induction σ with
  | nil => cases hf
  | cons p σ ih =>
    obtain ⟨m, x⟩ := p
    simp only [find] at hf
    split at hf
    · cases hf; simp [rng]
    · simp [rng, ih hf]
theorem kEq_ok {k k' : IntKind} (hk : kEq k k' = true) : k = k' := by cases k <;> cases k' <;> first | rfl | cases hk
theorem subI_ok {k : IntKind} {a b : SI} (hp : ∀ p ∈ subI k a b, p) (hi : InI k a) : a.val = b.val ∧ InI k b := by
  unfold subI at hp
  split at hp
  · have := hp _ (List.mem_cons_self ..)
    rename_i n
    have e : SI.val (.lit n) = n := rfl
    refine ⟨this, ?_⟩
    have h1 := hi.lo; have h2 := hi.hi
    rw [this] at h1 h2
    exact ⟨h1, h2, Int.le_refl _, Int.le_refl _⟩
  · have := hp _ (List.mem_cons_self ..)
    have h1 := hi.lo; have h2 := hi.hi
    rw [this] at h1 h2
    exact ⟨this, h1, h2, h1, h2⟩
  · rename_i n lo hi'
    split at hp
    · rename_i hb
      have := hp _ (List.mem_cons_self ..)
      rw [Bool.and_eq_true] at hb
      have h1 := hi.lo; have h2 := hi.hi; have h3 := hi.lo'; have h4 := hi.hi'
      rw [this] at h1 h2 h3 h4
      exact ⟨this, h1, h2, Int.le_trans (leB_iff.1 hb.1) h3, Int.le_trans h4 (leB_iff.1 hb.2)⟩
    · have h0 := hp _ (List.mem_cons_self ..)
      have h5 := hp _ (List.mem_cons_of_mem _ (List.mem_cons_self ..))
      have h1 := hi.lo; have h2 := hi.hi
      rw [h0] at h1 h2
      exact ⟨h0, h1, h2, h5.1, h5.2⟩
theorem no {α : Prop} {l : List Prop} (hp : ∀ p ∈ False :: l, p) : α := (hp _ (List.mem_cons_self ..)).elim
theorem hd1 {p : Prop} {l : List Prop} (hp : ∀ q ∈ p :: l, q) : p := hp _ (List.mem_cons_self ..)
theorem hd2 {p p' : Prop} {l : List Prop} (hp : ∀ q ∈ p :: p' :: l, q) : p' := hp _ (List.mem_cons_of_mem _ (List.mem_cons_self ..))
theorem hd3 {p p' p'' : Prop} {l : List Prop} (hp : ∀ q ∈ p :: p' :: p'' :: l, q) : p'' := hp _ (List.mem_cons_of_mem _ (List.mem_cons_of_mem _ (List.mem_cons_self ..)))
theorem cells_at {b : Nat} {vs : List Value} {T : Nat} {z : Nat × Nat} (hh : W.heap[b]? = some (.cells vs.toArray T z)) : CellsAt W b 0 vs := fun j v hv => by
  unfold World.cell?
  simp only [hh, Option.isSome_none, Bool.false_eq_true, if_false, Nat.zero_add]
  simpa using hv
theorem eqB_ok {a b : Bool} (he : eqB a b = true) : a = b := by cases a <;> cases b <;> first | rfl | cases he
def plain : SVal → Bool
  | .int .. | .bool _ | .str _ | .err _ => true
  | _ => false
theorem Den.free {R' : Nat → Prop} {ρ' : Nat → Option Value} (hR : ∀ b, R b → R' b) {s : SVal} {v : Value} (hd : Den C W R ρ s v) (hp : plain s = true) : Den C W R' ρ' s v := by
  cases hd <;> first | (cases hp; done) | skip
  · exact .int _ _ (by assumption)
  · exact .bool _
  · exact .str _ (by assumption)
  · exact .fine
  · exact .bare _ (by assumption)
  · rename_i n p b off h1 h2 h3 h4 h5
    exact .placed n p b off h1 (hR _ h2) h3 h4 h5
theorem DenL.free {R' : Nat → Prop} {ρ' : Nat → Option Value} (hR : ∀ b, R b → R' b) {l : List SVal} {vs : List Value} (hd : DenL C W R ρ l vs) (hp : ∀ s ∈ l, plain s = true) : DenL C W R' ρ' l vs := by
  induction l generalizing vs with
  | nil => cases hd; exact .nil
  | cons s l ih =>
    have hs := hp s (List.mem_cons_self ..)
    have harr : s.isArr = false := by cases s <;> first | rfl | cases hs
    obtain ⟨v, us, rfl, h1, h2, h3⟩ := hd.inv_one harr
    exact .one _ _ _ _ harr h1 (h2.free hR hs) (ih h3 fun s hs => hp s (List.mem_cons_of_mem _ hs))
theorem enc_plain (t : RT) (x : t.ty) : ∀ s ∈ t.enc x, plain s = true := by
  cases t <;> simp [RT.enc, In5.enc, plain]
theorem flat_plain (t : RT) (l : List t.ty) : ∀ s ∈ l.flatMap t.enc, plain s = true := by
  intro s hs
  obtain ⟨x, _, hx⟩ := List.mem_flatMap.1 hs
  exact enc_plain t x s hx
theorem frozen_row (M : Mem C gl W R ρ h) {r : Nat} {t : RT} {l : List t.ty} (hr : rng σ r = false) (hh : h r = some (.recs t l)) {A : Option Addr} {n cap : Nat} (hv : ρ r = some (.slice A n cap)) :
    n = l.length ∧ l.length ≤ cap ∧ cap ≤ maxLen ∧ ∃ vs, DenL C W R ρ (l.flatMap t.enc) vs ∧ (l ≠ [] → ∃ b, A = some ⟨b, 0, none⟩ ∧ RF σ h ρ R b ∧ CellsAt W b 0 vs) ∧ (A = none → cap = 0) := by
  obtain ⟨v, hv', e, vs, ho, hd⟩ := M.at_ r _ hh
  rw [hv] at hv'; cases hv'
  obtain ⟨hlen, ⟨he, hn⟩ | ⟨g, cap', cur, he, hb, hg, h1, h2, h3, h4⟩⟩ := ho
  · cases he
    exact ⟨hn.symm, by omega, by unfold maxLen; omega, vs, hd, fun hl => (by have : l = [] := List.eq_nil_of_length_eq_zero hn; exact (hl this).elim), fun _ => rfl⟩
  · cases he
    refine ⟨rfl, h1, h2, vs, hd, fun _ => ⟨g, rfl, .inr ⟨r, _, _, hr, hh, hv, rfl⟩, fun j v hj => ?_⟩, fun h => by cases h⟩
    unfold World.cell?
    simp only [hg, Option.isSome_none, Bool.false_eq_true, if_false, Nat.zero_add]
    rw [← h4] at hj
    rw [List.getElem?_take] at hj
    split at hj
    · simpa using hj
    · cases hj
theorem sub_ok (M : Mem C gl W R ρ h) : ∀ n,
    (∀ s t v, Den C W R ρ s v → (∀ p ∈ sub C.tAt h σ n s t, p) → Den C W (RF σ h ρ R) (ρσ σ ρ) t v) ∧
    (∀ l l' vs, DenL C W R ρ l vs → (∀ p ∈ subL C.tAt h σ n l l', p) → DenL C W (RF σ h ρ R) (ρσ σ ρ) l' vs) ∧
    (∀ l l' vs, DenA C W R ρ l vs → (∀ p ∈ subL C.tAt h σ n l l', p) → DenA C W (RF σ h ρ R) (ρσ σ ρ) l' vs) := by
  have flatL : ∀ (t : RT) (l : List t.ty) (vs : List Value), DenL C W R ρ (l.flatMap t.enc) vs → DenL C W (RF σ h ρ R) (ρσ σ ρ) (l.flatMap t.enc) vs := fun t l vs hd => hd.free (fun _ h => .inl h) (flat_plain t l)
  have nm : ∀ {r q r' : Nat} {v : Value}, find r' σ = some q → same q r = true → ρ r = some v → ρσ σ ρ r' = some v := fun hf hb hv => by
    obtain ⟨rfl, h2⟩ := same_ok hb
    rw [ρσ_at hf h2]; exact hv
  intro n
  induction n using Nat.strongRecOn with
  | _ n ih =>
  have hS : ∀ s t v, Den C W R ρ s v → (∀ p ∈ sub C.tAt h σ n s t, p) → Den C W (RF σ h ρ R) (ρσ σ ρ) t v := by
    intro s t v hd hp
    unfold sub at hp
    split at hp
    · exact .any _
    · -- int
      split at hp
      · rename_i hk
        have := kEq_ok hk; subst this
        cases hd with
        | int _ _ hi =>
          obtain ⟨e, hi'⟩ := subI_ok hp hi
          rw [e]; exact .int _ _ hi'
      · exact no hp
    · cases hd; rw [hd1 hp]; exact .bool _
    · have := hd1 hp; subst this; cases hd; exact .str _ (by assumption)
    · cases hd; exact .nilptr
    · -- ptr
      split at hp
      · rename_i q hf
        split at hp
        · rename_i hb
          rw [Bool.and_eq_true] at hb
          cases hd with
          | ptr _ _ b hv =>
            have := Nat.eq_of_beq_eq_true hb.2; subst this
            exact .ptr _ _ b (nm hf hb.1 hv)
        · exact no hp
      · exact no hp
    · -- freeze a box
      split at hp
      · rename_i l hr hh
        cases hd with
        | ptr _ _ b hv =>
          obtain ⟨v, hv', b', vs, T, e, hb, hl⟩ := M.at_ _ _ hh
          rw [hv] at hv'; cases hv'; cases e
          exact .rop _ vs b 0 (.inr ⟨_, _, _, hr, hh, hv, rfl⟩) ((ih _ (Nat.lt_succ_self _)).2.1 _ _ _ hl hp) (cells_at hb)
      · exact no hp
    · -- own
      split at hp
      · rename_i q hf
        split at hp
        · rename_i hb
          cases hd with
          | own _ A m cap hv => exact .own _ A m cap (nm hf hb hv)
        · exact no hp
      · exact no hp
    · -- nil
      split at hp
      · rename_i q hf
        split at hp
        · rename_i hb
          cases hd; exact .own _ _ _ _ (ρσ_nil hf hb)
        · exact no hp
      · exact no hp
    · -- freeze a slice
      split at hp
      · rename_i t' l' hr hh
        split at hp
        · rename_i e heq
          subst e
          have e := hd1 hp
          simp only at e
          subst e
          cases hd with
          | own _ A m cap hv =>
            obtain ⟨rfl, h1, h2, vs, h3, h4, h5⟩ := frozen_row M hr hh hv
            exact .ro _ _ A cap vs h1 h2 (flatL _ _ _ h3) (fun hl => let ⟨b, e1, e2, e3⟩ := h4 hl; ⟨b, 0, e1, e2, e3⟩) h5
        · exact no hp
      · exact no hp
    · -- view
      split at hp
      · rename_i q hf ht
        split at hp
        · rename_i hb
          have ht := of_decide_eq_true ht
          have e1 := hd1 hp
          have e2 := hd2 hp
          subst ht e1 e2
          cases hd with
          | view _ _ _ _ A A' m cap cap' hv h1 h2 h3 h4 h5 => exact .view _ _ _ _ A A' m cap cap' (nm hf hb hv) h1 h2 h3 h4 h5
        · exact no hp
      · exact no hp
    · -- ro
      split at hp
      · rename_i e heq
        subst e
        have e := hd1 hp
        simp only at e
        subst e
        cases hd with
        | ro _ _ A cap vs h1 h2 h3 h4 h5 => exact .ro _ _ A cap vs h1 h2 (flatL _ _ _ h3) (fun hl => let ⟨b, off, e1, e2, e3⟩ := h4 hl; ⟨b, off, e1, .inl e2, e3⟩) h5
      · exact no hp
    · cases hd; exact .nilslice
    · have := hd1 hp; subst this; cases hd
      exact .ro _ [] none 0 [] (Nat.le_refl _) (Nat.zero_le _) .nil (fun h => (h rfl).elim) (fun _ => rfl)
    · cases hd; exact .nilmap
    · -- map
      split at hp
      · rename_i q hf
        split at hp
        · rename_i hb
          cases hd with
          | map _ b hv => exact .map _ b (nm hf hb hv)
        · exact no hp
      · exact no hp
    · cases hd; exact .nilFunc
    · -- func
      split at hp
      · rename_i hb
        have := Nat.eq_of_beq_eq_true hb; subst this
        cases hd with
        | func _ _ vs hl => exact .func _ _ vs ((ih _ (Nat.lt_succ_self _)).2.2 _ _ _ hl hp)
      · exact no hp
    · cases hd; exact .nilIface
    · have := hd1 hp; subst this; exact hd.free (fun _ h => .inl h) rfl
    · have := hd1 hp; subst this; cases hd; exact .fine
    · -- freeze an error
      split at hp
      · rename_i p e' hta hr hh
        have := Nat.eq_of_beq_eq_true hta; subst this
        have e1 := hd1 hp; have e2 := hd2 hp; have e3 := hd3 hp
        cases hd with
        | iface _ _ v hd =>
          cases hd with
          | ptr _ _ b hv =>
            obtain ⟨v, hv', b', vs, T, e, hb, hl⟩ := M.at_ _ _ hh
            rw [hv] at hv'; cases hv'; cases e
            obtain ⟨v1, us, rfl, o1, d1, hl⟩ := hl.inv_one rfl
            obtain ⟨v2, us, rfl, o2, d2, hl⟩ := hl.inv_one rfl
            cases hl
            cases d1 with
            | int _ _ hi =>
              cases e' with
              | fine => cases e2
              | placed n q => cases e3
              | bare n =>
                cases d2 with
                | bare _ hn =>
                  rw [e1]
                  exact .placed n _ b 0 hn (.inr ⟨_, _, _, hr, hh, hv, rfl⟩) hi.lo hi.hi (cells_at hb)
      · exact no hp
    · -- iface
      split at hp
      · rename_i hb
        have := Nat.eq_of_beq_eq_true hb; subst this
        cases hd with
        | iface _ _ v hd => exact .iface _ _ v ((ih _ (Nat.lt_succ_self _)).1 _ _ _ hd hp)
      · exact no hp
    · cases hd with
      | agg _ vs hl => exact .agg _ vs ((ih _ (Nat.lt_succ_self _)).2.1 _ _ _ hl hp)
    · cases hd with
      | tuple _ vs hl => exact .tuple _ vs ((ih _ (Nat.lt_succ_self _)).2.2 _ _ _ hl hp)
    · cases hd with
      | rop _ vs b off h1 hl h2 => exact .rop _ vs b off (.inl h1) ((ih _ (Nat.lt_succ_self _)).2.1 _ _ _ hl hp) h2
    · -- arr
      split at hp
      · rename_i e heq hn
        subst e
        have hn := Nat.eq_of_beq_eq_true hn
        subst hn
        have e := hd1 hp
        simp only at e
        subst e
        cases hd with
        | arr _ _ _ vs h1 h2 => exact .arr _ _ _ vs h1 (flatL _ _ _ h2)
      · exact no hp
    · -- eptr
      split at hp
      · rename_i q hf
        split at hp
        · rename_i hb
          rw [Bool.and_eq_true, Bool.and_eq_true] at hb
          have e := hd1 hp
          subst e
          have := Nat.eq_of_beq_eq_true hb.1.2; subst this
          have := Nat.eq_of_beq_eq_true hb.2; subst this
          cases hd with
          | eptr _ _ _ _ b m cap hv h1 h2 => exact .eptr _ _ _ _ b m cap (nm hf hb.1.1 hv) h1 h2
        · exact no hp
      · exact no hp
    · exact no hp
  refine ⟨hS, fun l l' vs hd hp => ?_, fun l l' vs hd hp => ?_⟩
  · unfold subL at hp
    split at hp
    · cases hd; exact .nil
    · rename_i m a l b l'
      split at hp
      · rename_i hb
        have hb := eqB_ok hb
        have ih := ih _ (Nat.lt_succ_self m)
        have h1 := fun p hm => hp p (List.mem_append_left _ hm)
        have h2 := fun p hm => hp p (List.mem_append_right _ hm)
        cases ha : a.isArr with
        | false =>
          obtain ⟨v, us, rfl, o1, d1, hl⟩ := hd.inv_one ha
          exact .one _ _ _ _ (by rw [← hb, ha]) o1 (ih.1 _ _ _ d1 h1) (ih.2.1 _ _ _ hl h2)
        | true =>
          cases hd with
          | one _ _ _ _ h => rw [ha] at h; cases h
          | arr t n xs us _ vs' e1 e2 e3 =>
            have hbv := ih.1 (.arr t n xs) b (.agg us.toArray) (.arr _ _ _ _ e1 e2) h1
            rw [ha] at hb
            cases b <;> simp [SVal.isArr] at hb
            rename_i t' n' xs'
            cases hbv with
            | arr _ _ _ us' f1 f2 =>
              rename_i hus
              exact .arr _ _ _ _ _ _ f1 f2 (ih.2.1 _ _ _ e3 h2)
      · exact no hp
    · exact no hp
  · unfold subL at hp
    split at hp
    · cases hd; exact .nil
    · rename_i m a l b l'
      split at hp
      · have ih := ih _ (Nat.lt_succ_self m)
        have h1 := fun p hm => hp p (List.mem_append_left _ hm)
        have h2 := fun p hm => hp p (List.mem_append_right _ hm)
        cases hd with
        | cons _ v _ us d1 hl => exact .cons _ _ _ _ (ih.1 _ _ _ d1 h1) (ih.2.2 _ _ _ hl h2)
      · exact no hp
    · exact no hp
end
end Go.Sy

set_option linter.unusedVariables false
set_option linter.unusedSimpArgs false
namespace Go.Sy
open Go.RowKit
structure Inv (E : Env) (C : Ctx) (gl : List (Nat × SVal)) (W0 : World) (R0 own0 : Nat → Prop) (ρ0 : Nat → Option Value) (s : SState) (a : Act) (W : World) (R : Nat → Prop) (ρ : Nat → Option Value) : Prop where
  slots : ∀ d, Den C W R ρ ((find d s.fr).getD .any) (a.tmps.getD d undef)
  mem : Mem C gl W R ρ (lookS s.hp)
  size : a.tmps.size = s.sz
  bt : Bt W0 R0 own0 W R (ownOf ρ (lookS s.hp))
  above : ∀ n, s.next ≤ n → ρ n = none
  defers : a.defers = []
  pins : ∀ n ∈ E.old, ∀ v, ρ0 n = some v → ρ n = some v
section
variable {P : Program} {C : Ctx} {gl : List (Nat × SVal)} {E : Env} {W0 : World} {R0 own0 : Nat → Prop} {ρ0 : Nat → Option Value}
variable {s t : SState} {a : Act} {W W' : World} {R R' : Nat → Prop} {ρ ρ' : Nat → Option Value} {σ : List (Nat × Nat)}
theorem flat_of {α : Type} {f : α → List Prop} {l : List α} (h : ∀ p ∈ l.flatMap f, p) {x : α} (hx : x ∈ l) : ∀ p ∈ f x, p := fun p hp => h p (List.mem_flatMap.2 ⟨x, hx, hp⟩)
theorem all_mem {l : List Prop} (h : all l) : ∀ p ∈ l, p := by
  induction l with
  | nil => intro p hp; cases hp
  | cons q l ih =>
    intro p hp
    cases l with
    | nil =>
      rcases List.mem_cons.1 hp with rfl | hp
      · exact h
      · cases hp
    | cons q' l =>
      rcases List.mem_cons.1 hp with rfl | hp
      · exact h.1
      · exact ih h.2 p hp
theorem fstLt_of {next : Nat} (h : fstLt next σ = true) {r q : Nat} (hf : find r σ = some q) : r < next := by
  have hm := find_mem hf
  clear hf
  induction σ with
  | nil => cases hm
  | cons p σ ih =>
    obtain ⟨r', q'⟩ := p
    simp only [fstLt, Bool.and_eq_true] at h
    rcases List.mem_cons.1 hm with e | hm
    · cases e; exact Nat.le_of_ble_eq_true h.1
    · exact ih h.2 hm
theorem snd_mem {r q : Nat} (hm : (r, q) ∈ σ) : q ∈ sndN σ := by
  induction σ with
  | nil => cases hm
  | cons p σ ih =>
    obtain ⟨r', q'⟩ := p
    rcases List.mem_cons.1 hm with e | hm
    · cases e; exact List.mem_cons_self ..
    · exact List.mem_cons_of_mem _ (ih hm)
theorem nodup_inj (h : nodupB (sndN σ) = true) {r r' q : Nat} (hm : (r, q) ∈ σ) (hm' : (r', q) ∈ σ) : r = r' := by
  induction σ with
  | nil => cases hm
  | cons p σ ih =>
    obtain ⟨x, y⟩ := p
    simp only [sndN, nodupB] at h
    split at h
    · cases h
    · rename_i hn
      have hn : y ∉ sndN σ := fun hm => by rw [memN_iff.2 hm] at hn; cases hn
      rcases List.mem_cons.1 hm with e | hm1 <;> rcases List.mem_cons.1 hm' with e' | hm2
      · cases e; cases e'; rfl
      · cases e; exact (hn (snd_mem hm2)).elim
      · cases e'; exact (hn (snd_mem hm1)).elim
      · exact ih h hm1 hm2
theorem oldOk_of {old : List Nat} (h : oldOk old σ = true) : ∀ n ∈ old, find n σ = some n ∧ Nat.ble nilN n = false := by
  induction old with
  | nil => intro n hn; cases hn
  | cons m l ih =>
    simp only [oldOk, Bool.and_eq_true] at h
    intro n hn
    rcases List.mem_cons.1 hn with rfl | hn
    · have := h.1
      split at this
      · rename_i q hq
        obtain ⟨rfl, h2⟩ := same_ok this
        exact ⟨hq, h2⟩
      · cases this
    · exact ih h.2 n hn
abbrev HownOk (E : Env) (own0 : Nat → Prop) (ρ0 : Nat → Option Value) : Prop := True
theorem subC_ok (M : Mem C gl W R ρ (lookS s.hp)) {v : Value} {c c' : Cont} (hp : ∀ p ∈ subC C.tAt (lookS s.hp) σ (some c) (some c'), p) (hc : HoldC C W R ρ v c) :
    HoldC C W (RF σ (lookS s.hp) ρ R) (ρσ σ ρ) v c' := by
  unfold subC at hp
  split at hp
  · rename_i h; cases h
  · rename_i l l' h1 h2; cases h1; cases h2
    obtain ⟨b, vs, T, rfl, hh, hl⟩ := hc
    exact ⟨b, vs, T, rfl, hh, (sub_ok M deep).2.1 _ _ _ hl hp⟩
  · rename_i t l t' l' h1 h2; cases h1; cases h2
    split at hp
    · rename_i e heq
      subst e
      have e := hd1 hp
      simp only at e
      subst e
      obtain ⟨e, vs, ho, hl⟩ := hc
      exact ⟨e, vs, ho, hl.free (fun _ h => .inl h) (flat_plain t l)⟩
    · exact no hp
  · rename_i w l w' l' h1 h2; cases h1; cases h2
    split at hp
    · rename_i hb
      have := Nat.eq_of_beq_eq_true hb; subst this
      obtain ⟨e, vs, n, ho, hl, h0⟩ := hc
      exact ⟨e, vs, n, ho, (sub_ok M deep).2.1 _ _ _ hl hp, h0⟩
    · exact no hp
  · rename_i m m' h1 h2; cases h1; cases h2
    have := hd1 hp; subst this; exact hc
  · rename_i m m' h1 h2; cases h1; cases h2
    have := hd1 hp; subst this; exact hc
  · exact no hp
theorem holdNil (t : RT) : HoldC C W R ρ (.slice none 0 0) (.recs t []) := ⟨0, [], ⟨by simp, .inl ⟨rfl, rfl⟩⟩, .nil⟩
theorem Inv.sub (EO : EnvOk P C gl E) (I : Inv E C gl W0 R0 own0 ρ0 s a W R ρ) (hown : HownOk E own0 ρ0) (h : all (subSt E σ s t)) :
    ∃ R' ρ', Inv E C gl W0 R0 own0 ρ0 t a W R' ρ' := by
  have h := all_mem h
  unfold subSt at h
  rw [EO.tAt] at h
  have h1 := fun p hp => h p (List.mem_append_left _ (List.mem_append_left _ hp))
  have h2 := fun p hp => h p (List.mem_append_left _ (List.mem_append_right _ hp))
  have h3 := fun p hp => h p (List.mem_append_right _ hp)
  clear h
  have hb : (s.sz.beq t.sz && nodupB (sndN σ) && fstLt t.next σ && oldOk E.old σ) = true := by
    split at h3
    · assumption
    · exact no h3
  simp only [Bool.and_eq_true] at hb
  obtain ⟨⟨⟨b1, b2⟩, b3⟩, b4⟩ := hb
  have M := I.mem
  have old := oldOk_of b4
  have inj : ∀ {r r' q}, find r σ = some q → find r' σ = some q → r = r' := fun h h' => nodup_inj b2 (find_mem h) (find_mem h')
  -- what t knows
  have known : ∀ r c, lookS t.hp r = some c → (∃ q c0 v, find r σ = some q ∧ lookS s.hp q = some c0 ∧ ρ q = some v ∧ ρσ σ ρ r = some v ∧ HoldC C W (RF σ (lookS s.hp) ρ R) (ρσ σ ρ) v c) ∨
      (ρσ σ ρ r = some (.slice none 0 0) ∧ HoldC C W (RF σ (lookS s.hp) ρ R) (ρσ σ ρ) (.slice none 0 0) c) := fun r c hc => by
    unfold lookS at hc
    cases hf : find r t.hp with
    | none => rw [hf] at hc; cases hc
    | some c' =>
      rw [hf] at hc
      simp only [Option.getD_some] at hc
      subst hc
      have hp := flat_of h2 (find_mem hf)
      simp only at hp
      split at hp
      · rename_i q hq
        split at hp
        · rename_i hN
          unfold nilC at hp
          split at hp
          · rename_i hc; cases hc
          · rename_i t' l hc
            cases hc
            have := hd1 hp; subst this
            exact .inr ⟨ρσ_nil hq hN, holdNil _⟩
          · exact no hp
        · rename_i hN
          cases hcs : lookS s.hp q with
          | none => rw [hcs] at hp; simp only [subC] at hp; exact no hp
          | some c0 =>
            rw [hcs] at hp
            obtain ⟨v, hv, hh⟩ := M.at_ q c0 hcs
            exact .inl ⟨q, c0, v, hq, hcs, hv, by rw [ρσ_at hq hN]; exact hv, subC_ok M hp hh⟩
      · exact no hp
  have fresh : ∀ b, RF σ (lookS s.hp) ρ R b → R0 b ∨ W0.heap.size ≤ b ∨ own0 b := fun b hb => by
    rcases hb with hb | ⟨n, c, v, hn, hc, hv, hbk⟩
    · exact I.bt.Rn b hb
    · rcases I.bt.owned b ⟨n, c, v, hc, hv, hbk⟩ with ho | ho
      · exact .inr (.inr ho)
      · exact .inr (.inl ho)
  refine ⟨RF σ (lookS s.hp) ρ R, ρσ σ ρ, fun d => ?_, ⟨?_, fun r c hc => ?_, fun r r' c c' v v' b k1 k2 k3 k4 k5 k6 => ?_, fun r c v b k1 k2 k3 k4 => ?_⟩, ?_, ⟨I.bt.os, I.bt.tape, I.bt.output, I.bt.size, fun b hb => .inl (I.bt.Rm b hb), fresh, I.bt.keep, fun b hb => ?_⟩, fun n hn => ?_, I.defers, fun n hn v hv => ?_⟩
  · cases hf : find d t.fr with
    | none => exact .any _
    | some v => exact (sub_ok M deep).1 _ _ _ (I.slots d) (flat_of h1 (find_mem hf))
  · refine M.base.mono (fun _ h => .inl h) (fun b hb => ?_) fun _ _ => rfl
    rcases hb with hb | ⟨n, c, v, hn, hc, hv, hbk⟩
    · exact M.base.inR b hb
    · obtain ⟨v', hv', hh⟩ := M.at_ n c hc
      rw [hv] at hv'; cases hv'
      exact hh.lt hbk
  · rcases known r c hc with ⟨q, c0, v, q1, q2, q3, q4, q5⟩ | ⟨q1, q2⟩
    · exact ⟨v, q4, q5⟩
    · exact ⟨_, q1, q2⟩
  · rcases known r c k1 with ⟨q, c0, u, q1, q2, q3, e1, q4⟩ | ⟨e1, _⟩
    · rcases known r' c' k2 with ⟨q', c0', u', q1', q2', q3', e2, q4'⟩ | ⟨e2, _⟩
      · rw [e1] at k3; cases k3
        rw [e2] at k4; cases k4
        have := M.apart q q' c0 c0' v v' b q2 q2' q3 q3' k5 k6
        subst this
        exact inj q1 q1'
      · rw [e2] at k4; cases k4; cases k6
    · rw [e1] at k3; cases k3; cases k5
  · rcases known r c k1 with ⟨q, c0, u, q1, q2, q3, e1, q4⟩ | ⟨e1, _⟩
    · rw [e1] at k2; cases k2
      rcases k4 with hb | ⟨n, c', v', hn, hc, hv, hbk⟩
      · exact M.off q c0 v b q2 q3 k3 hb
      · have := M.apart n q c' c0 v' v b hc q2 hv q3 hbk k3
        subst this
        rw [rng_find q1] at hn; cases hn
    · rw [e1] at k2; cases k2; cases k3
  · rw [I.size]; exact Nat.eq_of_beq_eq_true b1
  · obtain ⟨r, c, v, k1, k2, k3⟩ := hb
    rcases known r c k1 with ⟨q, c0, u, q1, q2, q3, e1, q4⟩ | ⟨e1, _⟩
    · rw [e1] at k2; cases k2
      exact I.bt.owned b ⟨q, c0, v, q2, q3, k3⟩
    · rw [e1] at k2; cases k2; cases k3
  · cases hf : find n σ with
    | none => unfold ρσ; rw [hf]; rfl
    | some q => have := fstLt_of b3 hf; omega
  · obtain ⟨o1, o2⟩ := old n hn
    rw [ρσ_at o1 o2]; exact I.pins n hn v hv
end
end Go.Sy

set_option linter.unusedVariables false
set_option linter.unusedSimpArgs false
namespace Go.Sy
open Go.RowKit
section
variable {P : Program} {C : Ctx} {gl : List (Nat × SVal)} {E : Env} {W0 : World} {R0 own0 : Nat → Prop} {ρ0 : Nat → Option Value}
variable {s t : SState} {a : Act} {W W' : World} {R R' : Nat → Prop} {ρ ρ' : Nat → Option Value} {σ : List (Nat × Nat)}
theorem leaveF_find (fr : List (Nat × SVal)) (l : List Rec) (d : Nat) : find d (leaveF fr l) = match lastOf l d with
    | some r => some (keyed .any r.v r.key)
    | none => find d fr := by
  induction l with
  | nil => rfl
  | cons r l ih =>
    simp only [leaveF, lastOf]
    cases hd : r.dst with
    | none => simp only [isDst]; exact ih
    | some d' =>
      simp only [find, isDst]
      cases d'.beq d with
      | true => rfl
      | false => exact ih
theorem find_append {α : Type} {n : Nat} {l l' : List (Nat × α)} : find n (l ++ l') = match find n l with
    | some a => some a
    | none => find n l' := by
  induction l with
  | nil => rfl
  | cons p l ih =>
    obtain ⟨m, x⟩ := p
    simp only [List.cons_append, find]
    cases m.beq n with
    | true => rfl
    | false => exact ih
theorem find_map {α β : Type} {f : α → β} {n : Nat} {l : List (Nat × α)} : find n (l.map fun x => (x.1, f x.2)) = (find n l).map f := by
  induction l with
  | nil => rfl
  | cons p l ih =>
    obtain ⟨m, x⟩ := p
    simp only [List.map_cons, find]
    cases m.beq n with
    | true => rfl
    | false => exact ih
theorem leaveH_known {hp : List (Nat × Option Cont)} : ∀ {l : List Rec}, (∀ r ∈ l, r.key = none → r.g.val = true ∨ r.ws = []) → ∀ n c, lookS (leaveH hp l) n = some c → contT hp l n = some c := by
  intro l
  induction l with
  | nil => intro _ n c h; exact h
  | cons r l ih =>
    intro hk n c h
    have ih := ih (fun q hq => hk q (List.mem_cons_of_mem _ hq)) n c
    unfold lookS at h ih
    simp only [leaveH] at h
    rw [find_append] at h
    have hm := find_map (f := fun c => keyed none c r.key) (n := n) (l := r.ws)
    rw [hm] at h
    simp only [contT]
    cases hf : find n r.ws with
    | none =>
      rw [hf] at h
      have := ih h
      cases r.g.val <;> exact this
    | some c0 =>
      rw [hf] at h
      simp only [Option.map_some, Option.getD_some] at h
      cases hkey : r.key with
      | some p => rw [hkey] at h; cases h
      | none =>
        rw [hkey] at h
        rcases hk r (List.mem_cons_self ..) hkey with hg | hw
        · rw [hg]; exact h
        · rw [hw] at hf; cases hf
theorem Mem.world {h : Nat → Option Cont} (M : Mem C gl W R ρ h) (e : W'.heap = W.heap) : Mem C gl W' R ρ h where
  base := M.base.mono (fun _ h => h) (fun b hb => by rw [e]; exact M.base.inR b hb) fun _ _ => by rw [e]
  at_ r c hc := let ⟨v, hv, hh⟩ := M.at_ r c hc; ⟨v, hv, hh.mono (fun _ h => h) (fun _ _ => by rw [e]) (fun _ _ h => h) fun _ _ => by rw [e]⟩
  apart := M.apart
  off := M.off
theorem Inv.start {recs : List Rec} {next1 : Nat} (I : Inv E C gl W0 R0 own0 ρ0 s a W R ρ) (e : W'.os = W.os ∧ W'.tape = W.tape ∧ W'.output = W.output ∧ W'.heap = W.heap) {ops : List Oper} (B : Built E ops s.fr s.hp s.sz s.next recs next1) {L : Rec → Bool} (hL : ∀ q ∈ recs, L q = false) :
    InvR C gl W0 R0 own0 ρ s.fr s.hp s.sz next1 recs L a W' R ρ := by
  have hf : recs.filter L = [] := List.filter_eq_nil_iff.2 fun q hq => by rw [hL q hq]; simp
  refine ⟨fun d => ?_, ?_, I.size, ?_, fun r hr _ j hj => ?_, fun n hn => ?_, I.defers, fun _ _ h => h⟩
  · rw [hf]
    exact (I.slots d).mono (fun _ h => h) (fun _ _ => by rw [e.2.2.2]) fun _ _ h => h
  · rw [hf]; exact I.mem.world e.2.2.2
  · rw [hf]; exact I.bt.world e
  · exact I.above _ (Nat.le_trans (B.mem r hr).2.2 (Nat.le_add_right _ _))
  · exact I.above _ (Nat.le_trans B.le hn)
theorem Built.keys {ops : List Oper} {fr : List (Nat × SVal)} {hp : List (Nat × Option Cont)} {sz next0 next1 : Nat} {recs : List Rec} (B : Built E ops fr hp sz next0 recs next1) : ∀ r ∈ recs, r.key = none → r.g.val = true ∨ (r.v = .any ∧ r.ws = []) := fun r hr hk => by
  obtain ⟨pre, l, o, e, hB, hA, _⟩ := B.split hr
  exact hA.key_none hk
theorem Inv.leave {recs : List Rec} {next1 : Nat} (I : Inv E C gl W0 R0 own0 ρ0 s a W R ρ) {ops : List Oper} (B : Built E ops s.fr s.hp s.sz s.next recs next1) {a' : Act} {W' : World} {R' : Nat → Prop} {ρ' : Nat → Option Value}
    (J : InvR C gl W0 R0 own0 ρ s.fr s.hp s.sz next1 recs (fun _ => true) a' W' R' ρ') : Inv E C gl W0 R0 own0 ρ0 { fr := leaveF s.fr recs, hp := leaveH s.hp recs, next := next1, sz := s.sz } a' W' R' ρ' := by
  have hf : recs.filter (fun _ => true) = recs := List.filter_eq_self.2 fun _ _ => rfl
  have hw := leaveH_known (hp := s.hp) fun r hr hk => (B.keys r hr hk).imp id fun h => h.2
  refine ⟨fun d => ?_, ?_, J.size, ?_, J.above, J.defers, fun n hn v hv => J.ext n v (I.pins n hn v hv)⟩
  · have := J.slots d
    unfold slotIs at this
    rw [hf] at this
    simp only [leaveF_find]
    cases hl : lastOf recs d with
    | none => rw [hl] at this; exact this
    | some r =>
      rw [hl] at this
      simp only [Option.getD_some]
      cases hk : r.key with
      | some p => exact .any _
      | none =>
        simp only [keyed]
        rcases B.keys r (lastOf_mem hl).1 hk with hg | ⟨hv, _⟩
        · exact this.1 hg
        · rw [hv]; exact .any _
  · have := J.mem; rw [hf] at this; exact this.weaken hw
  · have := J.bt; rw [hf] at this; exact this.weaken (ownOf.weaken hw)
theorem reqs_sat {Q : Exi → SState → Prop} : ∀ {l : List Prop} {t : Tr}, (reqs l t).sat Q → (∀ p ∈ l, p) ∧ t.sat Q := by
  intro l
  induction l with
  | nil => intro t h; exact ⟨(fun p hp => by cases hp), h⟩
  | cons p l ih =>
    intro t h
    obtain ⟨h1, h2⟩ := ih (t := .req p t) h
    exact ⟨fun q hq => (List.mem_cons.1 hq).elim (fun e => by subst e; exact h2.1) fun hq => h1 q hq, h2.2 h2.1⟩
theorem all_of {l : List Prop} (h : ∀ p ∈ l, p) : all l := by
  induction l with
  | nil => trivial
  | cons p l ih =>
    have ih := ih fun q hq => h q (List.mem_cons_of_mem _ hq)
    have hp := h p (List.mem_cons_self ..)
    cases l with
    | nil => exact hp
    | cons q l => exact ⟨hp, ih⟩
def exitOf : Exi → Exit
  | .normal => .normal
  | .ret => .ret
  | .exit id => .exit id
theorem region_ok (EO : EnvOk P C gl E) (I : Inv E C gl W0 R0 own0 ρ0 s a W R ρ) {ops : Array Oper} {rs : RS} (hr : runR E s.fr s.hp s.sz ops.toList 0 { next := s.next, recs := [], vc := [] } = .ok rs) (hv : ∀ p ∈ rs.vc, p)
    {draw : Bool} (hd : draw = true → drawOk ops.toList rs.recs = true ∧ ∀ p ∈ comms E s.fr s.hp ops.toList rs.recs, p) {Q : Exit → Act → World → Prop} {id : Nat}
    (hQ : ∀ a W R ρ, Inv E C gl W0 R0 own0 ρ0 { fr := leaveF s.fr rs.recs, hp := leaveH s.hp rs.recs, next := rs.next, sz := s.sz } a W R ρ → Q .normal a W) : (Code.region id ops draw).wp P Q a W := by
  obtain ⟨_, B, hlen⟩ := runR_built (next0 := s.next) hr hv rfl rfl (Nat.zero_le _) fun _ => .nil
  have hQ' : ∀ a W R ρ', InvR C gl W0 R0 own0 ρ s.fr s.hp s.sz rs.next rs.recs (fun _ => true) a W R ρ' → Q .normal a W := fun a W R ρ' J => hQ a W R ρ' (I.leave B J)
  cases draw with
  | false =>
    refine wp_region ?_
    rw [List.range_eq_range']
    have := region_seq (P := P) (Q := Q) EO B hlen hQ' ops.size 0 (by simp) (I.start ⟨rfl, rfl, rfl, rfl⟩ B (fun q _ => by simp))
    simpa using this
  | true =>
    have rep : ∀ i, (Array.replicate ops.size false).getD i false = false := fun i => by
      simp only [Array.getD_eq_getD_getElem?, Array.getElem?_replicate]; split <;> rfl
    refine wp_region_any EO.mixed ?_
    have := region_any (P := P) (Q := Q) EO B hlen (hd rfl).1 (hd rfl).2 hQ' ops.size (Array.replicate ops.size false) (by simp) (fun i hi => by have hi : (Array.replicate ops.size false).getD i false = true := hi; rw [rep] at hi; cases hi) ?_
      (I.start (W' := { W with drawn := W.drawn + 1 }) ⟨rfl, rfl, rfl, rfl⟩ B fun q hq => rep _)
    · simpa using this
    · refine Nat.le_trans (List.length_filter_le ..) ?_
      rw [hlen]; simp
def loopsOf : Code → List Code
  | .seq a b => loopsOf a ++ loopsOf b
  | .cond _ a b => loopsOf a ++ loopsOf b
  | .block _ b => loopsOf b
  | .loop b => [b]
  | _ => []
def LOk (P : Program) (E : Env) (C : Ctx) (gl : List (Nat × SVal)) (W0 : World) (R0 own0 : Nat → Prop) (ρ0 : Nat → Option Value) (b : Code) (L : LSum) : Prop :=
  ∀ {Q : Exi → SState → Prop} {k : Exi → SState → Tr} {post : Exit → Act → World → Prop} {a : Act} {W : World} {R : Nat → Prop} {ρ : Nat → Option Value},
    L.pre → Inv E C gl W0 R0 own0 ρ0 L.head a W R ρ → (L.out k).sat Q → (∀ e s a W R ρ, Inv E C gl W0 R0 own0 ρ0 s a W R ρ → (k e s).sat Q → post (exitOf e) a W) → (Code.loop b).wp P post a W
theorem eval0 (EO : EnvOk P C gl E) (I : Inv E C gl W0 R0 own0 ρ0 s a W R ρ) (x : Operand) : Den C W R ρ (evR E s.fr [] none none x) (a.eval x) := by
  cases x with
  | tmp d => exact I.slots d
  | const v => exact ofVal_den v
  | global g =>
    simp only [evR]
    cases hf : find g E.glob with
    | none => exact .any _
    | some s =>
      rw [EO.glob] at hf
      exact (I.mem.base.glob g s hf).mono (fun _ h => h) (fun _ _ => rfl) fun r v h => by cases h
  | func f => exact .func f [] [] .nil
theorem Inv.known (I : Inv E C gl W0 R0 own0 ρ0 s a W R ρ) {c : Operand} {b : Bool} (h : a.eval c = .bool b) : Inv E C gl W0 R0 own0 ρ0 (s.known c b) a W R ρ := by
  cases c with
  | tmp t =>
    obtain ⟨h1, h2, h3, h4, h5, h6, h7⟩ := I
    refine ⟨fun d => ?_, h2, h3, h4, h5, h6, h7⟩
    simp only [SState.known, find]
    cases hb : t.beq d with
    | false => exact h1 d
    | true =>
      have := Nat.eq_of_beq_eq_true hb
      subst this
      have : a.tmps.getD t undef = .bool b := h
      rw [this]
      exact .bool (.lit b)
  | _ => exact I
theorem run_sound (EO : EnvOk P C gl E) (hown : HownOk E own0 ρ0) {ls : List (Nat × LSum)} {Q : Exi → SState → Prop} :
    ∀ (c : Code) (HL : ∀ b ∈ loopsOf c, ∀ L, find (headId b) ls = some L → LOk P E C gl W0 R0 own0 ρ0 b L) (s : SState) (k : Exi → SState → Tr) (post : Exit → Act → World → Prop) (a : Act) (W : World) (R : Nat → Prop) (ρ : Nat → Option Value),
      Inv E C gl W0 R0 own0 ρ0 s a W R ρ → (run E ls c s k).sat Q → (∀ e s a W R ρ, Inv E C gl W0 R0 own0 ρ0 s a W R ρ → (k e s).sat Q → post (exitOf e) a W) → c.wp P post a W := by
  intro c
  induction c with
  | skip => intro _ s k post a W R ρ I h hk; exact wp_skip (hk _ _ _ _ _ _ I h)
  | label l => intro _ s k post a W R ρ I h hk; exact wp_label (hk .normal _ _ _ _ _ I h)
  | ret => intro _ s k post a W R ρ I h hk; exact wp_ret (hk .ret _ _ _ _ _ I h)
  | exit id => intro _ s k post a W R ρ I h hk; exact wp_exit (hk (.exit id) _ _ _ _ _ I h)
  | region id ops draw =>
    intro _ s k post a W R ρ I h hk
    have hcut : ∀ s', (cut E ls id s' k).sat Q → ∀ a W R ρ, Inv E C gl W0 R0 own0 ρ0 s' a W R ρ → post .normal a W := fun s' h a W R ρ J => by
      unfold cut at h
      split at h
      · obtain ⟨R', ρ', J'⟩ := J.sub EO hown h.1
        exact hk .normal _ _ _ _ _ J' (h.2 h.1)
      · exact hk .normal _ _ _ _ _ J h
    simp only [run] at h
    split at h
    · exact h.elim
    · rename_i rs hr
      split at h
      · obtain ⟨hv, h⟩ := reqs_sat h
        exact region_ok EO I hr hv (fun h => by cases h) fun a W R ρ J => hcut _ h a W R ρ J
      · split at h
        · rename_i hd
          obtain ⟨hv, h⟩ := reqs_sat h
          exact region_ok EO I hr (fun p hp => hv p (List.mem_append_right _ hp)) (fun _ => ⟨hd, fun p hp => hv p (List.mem_append_left _ hp)⟩) fun a W R ρ J => hcut _ h a W R ρ J
        · exact h.elim
  | seq x y ihx ihy =>
    intro HL s k post a W R ρ I h hk
    have hLx := fun b hb => HL b (List.mem_append_left _ hb)
    have hLy := fun b hb => HL b (List.mem_append_right _ hb)
    simp only [run] at h
    split at h
    · refine wp_seq (ihx hLx s _ _ a W R ρ I h fun e s' a' W' R' ρ' J hs => ?_)
      cases e with
      | normal => exact ihy hLy s' k post a' W' R' ρ' J hs hk
      | ret => exact hk .ret _ _ _ _ _ J hs
      | exit id => exact hk (.exit id) _ _ _ _ _ J hs
    · obtain ⟨h1, h2⟩ := h
      refine wp_seq (ihx hLx s _ _ a W R ρ I h1 fun e s' a' W' R' ρ' J hs => ?_)
      cases e with
      | normal =>
        obtain ⟨R2, ρ2, J2⟩ := J.sub EO hown hs
        exact ihy hLy _ k post a' W' R2 ρ2 J2 h2 hk
      | ret => exact hk .ret _ _ _ _ _ J hs
      | exit id => exact hk (.exit id) _ _ _ _ _ J hs
  | cond c x y ihx ihy =>
    intro HL s k post a W R ρ I h hk
    have hL := fun b hb => HL b (List.mem_append_left _ hb)
    have hR := fun b hb => HL b (List.mem_append_right _ hb)
    have hc := eval0 EO I c
    simp only [run] at h
    split at h
    · rename_i e; rw [e] at hc
      exact wp_cond_true hc.bool_inv (ihx hL s k post a W R ρ I h hk)
    · rename_i e; rw [e] at hc
      exact wp_cond_false hc.bool_inv (ihy hR s k post a W R ρ I h hk)
    · rename_i β e; rw [e] at hc
      have hv := hc.bool_inv
      cases hb : β with
      | true =>
        rw [hb] at hv
        exact wp_cond_true hv (ihx hL _ k post a W R ρ (I.known hv) (h.1 hb) hk)
      | false =>
        rw [hb] at hv
        exact wp_cond_false hv (ihy hR _ k post a W R ρ (I.known hv) (h.2 hb) hk)
    · exact h.elim
  | block id b ih =>
    intro HL s k post a W R ρ I h hk
    simp only [run] at h
    refine wp_block (ih HL s _ _ a W R ρ I h fun e s' a' W' R' ρ' J hs => ?_)
    cases e with
    | normal => exact hk .normal _ _ _ _ _ J hs
    | ret => exact hk .ret _ _ _ _ _ J hs
    | exit id' =>
      simp only at hs
      show (if id' = id then post .normal a' W' else post (.exit id') a' W')
      split at hs
      · rename_i hb
        rw [if_pos (Nat.eq_of_beq_eq_true hb)]
        exact hk .normal _ _ _ _ _ J hs
      · rename_i hb
        rw [if_neg (Nat.ne_of_beq_eq_false hb)]
        exact hk (.exit id') _ _ _ _ _ J hs
  | loop b ih =>
    intro HL s k post a W R ρ I h hk
    simp only [run] at h
    split at h
    · rename_i L hL
      have hm := all_mem h.1
      obtain ⟨R', ρ', J⟩ := I.sub EO hown (all_of fun p hp => hm p (List.mem_cons_of_mem _ hp))
      exact HL b (List.mem_cons_self ..) L hL (hm _ (List.mem_cons_self ..)) J (h.2 h.1) hk
    · exact h.elim
  | rangeFunc f ps x y => intro _ s k post a W R ρ I h hk; exact h.elim
  | scope b => intro _ s k post a W R ρ I h hk; exact h.elim
  | goto l => intro _ s k post a W R ρ I h hk; exact h.elim
  | refuse w => intro _ s k post a W R ρ I h hk; exact h.elim
theorem least_ex {S : Nat → Prop} (h : ∃ m, S m) : ∃ m, S m ∧ ∀ k, S k → m ≤ k := by
  obtain ⟨m, hm⟩ := h
  induction m using Nat.strongRecOn with
  | _ m ih =>
    by_cases h : ∃ k, k < m ∧ S k
    · obtain ⟨k, hk, hs⟩ := h; exact ih k hk hs
    · exact ⟨m, hm, fun k hk => Nat.le_of_not_lt fun hl => h ⟨k, hl, hk⟩⟩
open Classical in
noncomputable def leastN (S : Nat → Prop) : Nat := if h : ∃ m, S m then Classical.choose (least_ex h) else 0
theorem leastN_ok {S : Nat → Prop} (h : ∃ m, S m) : S (leastN S) ∧ ∀ k, S k → leastN S ≤ k := by
  unfold leastN
  rw [dif_pos h]
  exact Classical.choose_spec (least_ex h)
theorem loop_ok (EO : EnvOk P C gl E) (hown : HownOk E own0 ρ0) {b : Code} {ι : Type} {ls : ι → List (Nat × LSum)} (HL : ∀ i, ∀ c ∈ loopsOf b, ∀ L, find (headId c) (ls i) = some L → LOk P E C gl W0 R0 own0 ρ0 c L)
    (H : ι → SState) (μ : ι → Nat) (Post : ι → Exi → SState → Prop)
    {L : LSum} (body : L.pre → ∀ i, (run E (ls i) b (H i) .leaf).sat fun e s => match e with
      | .normal => ∃ j σ, μ j < μ i ∧ all (subSt E σ s (H j)) ∧ ∀ e t, Post j e t → Post i e t
      | e => ∃ t σ, Post i e t ∧ all (subSt E σ s t))
    (i : L.pre → ι) (hh : ∀ h, L.head = H (i h)) (ho : ∀ h, ∀ {Q : Exi → SState → Prop} {k}, (L.out k).sat Q → ∀ e t, Post (i h) e t → (k e t).sat Q) : LOk P E C gl W0 R0 own0 ρ0 b L := by
  intro Q k post a W R ρ hpre I h hk
  rw [hh hpre] at I
  have hp := ho hpre h
  clear hh ho h
  let S : Act → World → Nat → Prop := fun a W m => ∃ j R ρ, Inv E C gl W0 R0 own0 ρ0 (H j) a W R ρ ∧ (∀ e t, Post j e t → (k e t).sat Q) ∧ μ j = m
  have least : ∀ a W (h : ∃ m, S a W m), S a W (leastN (S a W)) ∧ ∀ m, S a W m → leastN (S a W) ≤ m := fun a W h => leastN_ok h
  refine wp_loop (fun a W => ∃ m, S a W m) (fun a W => leastN (S a W)) ⟨_, i hpre, R, ρ, I, hp, rfl⟩ fun a W hI => ?_
  obtain ⟨⟨j, R, ρ, I, hp, hj⟩, _⟩ := least a W hI
  refine run_sound EO hown b (HL j) (H j) .leaf _ a W R ρ I (body hpre j) fun e s a' W' R' ρ' J hs => ?_
  cases e with
  | normal =>
    obtain ⟨j', σ, h1, h2, h3⟩ := hs
    obtain ⟨R'', ρ'', J'⟩ := J.sub EO hown h2
    have hS : S a' W' (μ j') := ⟨j', R'', ρ'', J', fun e t h => hp e t (h3 e t h), rfl⟩
    exact ⟨⟨_, hS⟩, Nat.lt_of_le_of_lt ((least a' W' ⟨_, hS⟩).2 _ hS) (by rw [← hj]; exact h1)⟩
  | ret =>
    obtain ⟨t, σ, h1, h2⟩ := hs
    obtain ⟨R'', ρ'', J'⟩ := J.sub EO hown h2
    exact hk .ret _ _ _ _ _ J' (hp _ _ h1)
  | exit id =>
    obtain ⟨t, σ, h1, h2⟩ := hs
    obtain ⟨R'', ρ'', J'⟩ := J.sub EO hown h2
    exact hk (.exit id) _ _ _ _ _ J' (hp _ _ h1)
end
end Go.Sy

set_option linter.unusedVariables false
set_option linter.unusedSimpArgs false
namespace Go.Sy
open Go.RowKit
section
variable {P : Program} {C : Ctx} {gl : List (Nat × SVal)} {E : Env} {W0 : World} {R0 own0 : Nat → Prop} {ρ0 : Nat → Option Value}
variable {s t : SState} {a : Act} {W W' : World} {R R' : Nat → Prop} {ρ ρ' : Nat → Option Value} {σ : List (Nat × Nat)} {h : Nat → Option Cont}
theorem resVs_ok (EO : EnvOk P C gl E) (I : Inv E C gl W0 R0 own0 ρ0 s a W R ρ) : ∀ {rv : List ResultVar} {vs : List SVal}, resVs E s rv = some vs → ∃ us : List Value, (rv.mapM (m := Sem) fun
    | .tmp t => pure (a.tmps.getD t undef)
    | .cell x t => do loadVar t (← asAddr (a.tmps.getD x undef))).run P W = .ok us W ∧ DenA C W R ρ vs us := by
  intro rv
  induction rv with
  | nil => intro vs h; simp only [resVs, Option.some.injEq] at h; subst h; exact ⟨[], rfl, .nil⟩
  | cons r rv ih =>
    intro vs h
    simp only [resVs] at h
    split at h
    · rename_i v vs' h1 h2
      cases h
      obtain ⟨us, h3, h4⟩ := ih h2
      cases r with
      | cell x t =>
        simp only [resV] at h1
        split at h1
        · rename_i r ti hx ht
          split at h1
          · rename_i l hl
            split at h1
            · rename_i w l' hw
              cases h1
              have hd := I.slots x
              rw [hx] at hd
              simp only [Option.getD_some] at hd
              generalize hu : a.tmps.getD x undef = u at hd
              cases hd with
              | ptr _ _ b hv =>
                obtain ⟨v', hv', b', cs, T, e, hb, hc⟩ := I.mem.at_ r _ hl
                rw [hv] at hv'; cases hv'; cases e
                obtain ⟨y, y1, y2⟩ := load_ok (EO.tab _ _ ht) hc (cells_at hb) hw
                refine ⟨y :: us, ?_, .cons _ _ _ _ y2 h4⟩
                have ha : (asAddr (.pointer (some ⟨b, 0, none⟩))).run P W = .ok ⟨b, 0, none⟩ W := rfl
                simp only [List.mapM_cons, Sem.run_bind, Sem.run_pure, Result.andThen_ok, h3, hu, ha, y1]
            · cases h1
          · cases h1
        · cases h1
      | tmp t =>
        simp only [resV, Option.some.injEq] at h1
        subst h1
        refine ⟨_ :: us, ?_, .cons _ _ _ _ (I.slots t) h4⟩
        simp only [List.mapM_cons, Sem.run_bind, Sem.run_pure, Result.andThen_ok, h3]
    · cases h
theorem results_ok (EO : EnvOk P C gl E) (I : Inv E C gl W0 R0 own0 ρ0 s a W R ρ) {fn : Func} {vs : List SVal} (hr : resVs E s fn.results.toList = some vs) : ∃ v, (results fn a.tmps).run P W = .ok v W ∧ Den C W R ρ (oneOf vs) v := by
  obtain ⟨us, h1, h2⟩ := resVs_ok EO I hr
  have e : (results fn a.tmps).run P W = .ok (if h : us.toArray.size = 1 then us.toArray[0] else .tuple us.toArray) W := by
    unfold results
    rw [Array.mapM_eq_mapM_toList]
    have hm : ∀ {α β : Type} (f : α → β) (x : Sem α) (y : α), x.run P W = .ok y W → (f <$> x).run P W = .ok (f y) W := fun f x y hx => by
      rw [← bind_pure_comp]; simp only [Sem.run_bind, hx, Result.andThen_ok, Sem.run_pure]
    rw [Sem.run_bind]
    refine (congrArg (fun r => Result.andThen r _) (hm List.toArray _ us ?_)).trans rfl
    refine Eq.trans ?_ h1
    congr 1
  refine ⟨_, e, ?_⟩
  unfold oneOf
  cases h2 with
  | nil => exact .tuple _ _ .nil
  | cons s v l us d1 d2 =>
    cases d2 with
    | nil => simpa using d1
    | cons s' v' l us d3 d4 =>
      have : ¬ (v :: v' :: us).toArray.size = 1 := by simp
      rw [dif_neg this]
      exact .tuple _ _ (.cons _ _ _ _ d1 (.cons _ _ _ _ d3 d4))
theorem find_pick {f : Nat → Option Cont} {l : List Nat} {n : Nat} {c : Cont} (h : lookS (l.map fun r => (r, f r)) n = some c) : f n = some c := by
  unfold lookS at h
  induction l with
  | nil => cases h
  | cons m l ih =>
    simp only [List.map_cons, find] at h
    cases hb : m.beq n with
    | true => rw [hb] at h; have := Nat.eq_of_beq_eq_true hb; subst this; exact h
    | false => rw [hb] at h; exact ih h
theorem ends_ok (EO : EnvOk P C gl E) (I : Inv E C gl W0 R0 own0 ρ0 s a W R ρ) {fn : Func} {e : Exi} {Q : Exi → SState → Prop} (h : (ends E fn.results.toList e s).sat Q) :
    (e = .normal ∨ e = .ret) ∧ ∃ v s', (results fn a.tmps).run P W = .ok v W ∧ Q .ret s' ∧ Inv E C gl W0 R0 own0 ρ0 s' ⟨#[v], []⟩ W R ρ := by
  have key : (match resVs E s fn.results.toList with
      | some vs => Tr.leaf .ret { fr := [(0, oneOf vs)], hp := (reach s.hp deep (E.old ++ names deep (oneOf vs)) []).map fun r => (r, lookS s.hp r), next := s.next, sz := 1 }
      | none => .fail "results").sat Q → ∃ v s', (results fn a.tmps).run P W = .ok v W ∧ Q .ret s' ∧ Inv E C gl W0 R0 own0 ρ0 s' ⟨#[v], []⟩ W R ρ := fun h => by
    split at h
    · rename_i vs hvs
      obtain ⟨v, h1, h2⟩ := results_ok EO I hvs
      have hw : ∀ n c, lookS ((reach s.hp deep (E.old ++ names deep (oneOf vs)) []).map fun r => (r, lookS s.hp r)) n = some c → lookS s.hp n = some c := fun n c hc => find_pick hc
      refine ⟨v, _, h1, h, ⟨fun d => ?_, I.mem.weaken hw, rfl, I.bt.weaken (ownOf.weaken hw), I.above, rfl, I.pins⟩⟩
      cases d with
      | zero => exact h2
      | succ d => exact .any _
    · exact h.elim
  cases e with
  | normal => exact ⟨.inl rfl, key h⟩
  | ret => exact ⟨.inr rfl, key h⟩
  | exit id => exact h.elim
theorem call_run (EO : EnvOk P C gl E) (hown : HownOk E own0 ρ0) {f : Nat} {fn : Func} {c : Code} (hf : P.funcs[f]? = some fn) (hb : fn.body = some c)
    {ls : List (Nat × LSum)} (HL : ∀ b ∈ loopsOf c, ∀ L, find (headId b) ls = some L → LOk P E C gl W0 R0 own0 ρ0 b L) {vs : List Value}
    (I : Inv E C gl W0 R0 own0 ρ0 s ⟨vs.toArray ++ Array.replicate (fn.ntmps - vs.toArray.size) undef, []⟩ W R ρ) {Q : Exi → SState → Prop} (h : (run E ls c s (ends E fn.results.toList)).sat Q)
    {Z : Ending → World → Prop} (hZ : ∀ s' v W R ρ, Q .ret s' → Inv E C gl W0 R0 own0 ρ0 s' ⟨#[v], []⟩ W R ρ → Z (.returned v) W) : Calls P f vs.toArray W Z := by
  refine calls_of_wp hf hb (run_sound EO hown c HL s _ _ _ W R ρ I h fun e s' a' W' R' ρ' J hs => ?_)
  obtain ⟨he, v, s'', h1, h2, h3⟩ := ends_ok EO J hs
  rcases he with rfl | rfl
  · exact ⟨J.defers, v, h1, hZ _ _ _ _ _ h2 h3⟩
  · exact ⟨J.defers, v, h1, hZ _ _ _ _ _ h2 h3⟩
end
end Go.Sy

set_option linter.unusedVariables false
set_option linter.unusedSimpArgs false
namespace Go.Sy
open Go.RowKit
section
variable {P : Program} {C : Ctx} {gl : List (Nat × SVal)} {E : Env} {W W' : World} {R R' : Nat → Prop} {ρ ρ' : Nat → Option Value} {σ : List (Nat × Nat)} {h : Nat → Option Cont}
abbrev none' : Nat → Option Cont := fun _ => none
theorem Mem.blank (M : Mem C gl W R ρ h) : Mem C gl W R ρ none' := M.weaken fun _ _ h => by cases h
theorem RF_blank : ∀ b, RF σ none' ρ R b → R b := fun b hb => by
  rcases hb with hb | ⟨_, _, _, _, hc, _⟩
  · exact hb
  · cases hc
theorem Den.ren (M : Mem C gl W R ρ h) {s t : SVal} {v : Value} {n : Nat} (hd : Den C W R ρ s v) (hp : ∀ p ∈ sub C.tAt none' σ n s t, p) : Den C W R (ρσ σ ρ) t v :=
  ((sub_ok M.blank n).1 _ _ _ hd hp).mono RF_blank (fun _ _ => rfl) fun _ _ h => h
theorem DenA.ren (M : Mem C gl W R ρ h) {l l' : List SVal} {vs : List Value} {n : Nat} (hd : DenA C W R ρ l vs) (hp : ∀ p ∈ subL C.tAt none' σ n l l', p) : DenA C W R (ρσ σ ρ) l' vs :=
  ((sub_ok M.blank n).2.2 _ _ _ hd hp).mono RF_blank (fun _ _ => rfl) fun _ _ h => h
theorem HoldC.ren (M : Mem C gl W R ρ h) {c c' : Cont} {v : Value} (hc : HoldC C W R ρ v c) (hp : ∀ p ∈ subC C.tAt none' σ (some c) (some c'), p) : HoldC C W R (ρσ σ ρ) v c' := by
  have M0 := M.blank
  have hb := RF_blank (σ := σ) (ρ := ρ) (R := R)
  unfold subC at hp
  split at hp
  · rename_i h; cases h
  · rename_i l l' h1 h2; cases h1; cases h2
    obtain ⟨b, vs, T, rfl, hh, hl⟩ := hc
    exact ⟨b, vs, T, rfl, hh, ((sub_ok M0 deep).2.1 _ _ _ hl hp).mono hb (fun _ _ => rfl) fun _ _ h => h⟩
  · rename_i t l t' l' h1 h2; cases h1; cases h2
    split at hp
    · rename_i e heq
      subst e
      have e := hd1 hp
      simp only at e
      subst e
      obtain ⟨e, vs, ho, hl⟩ := hc
      exact ⟨e, vs, ho, hl.free (fun _ h => h) (flat_plain t l)⟩
    · exact no hp
  · rename_i w l w' l' h1 h2; cases h1; cases h2
    split at hp
    · rename_i hbq
      have := Nat.eq_of_beq_eq_true hbq; subst this
      obtain ⟨e, vs, n, ho, hl, h0⟩ := hc
      exact ⟨e, vs, n, ho, ((sub_ok M0 deep).2.1 _ _ _ hl hp).mono hb (fun _ _ => rfl) (fun _ _ h => h), h0⟩
    · exact no hp
  · rename_i m m' h1 h2; cases h1; cases h2
    have := hd1 hp; subst this; exact hc
  · rename_i m m' h1 h2; cases h1; cases h2
    have := hd1 hp; subst this; exact hc
  · exact no hp
def numb : Nat → List SVal → List (Nat × SVal)
  | _, [] => []
  | n, v :: l => (n, v) :: numb (n + 1) l
theorem numb_find : ∀ {l : List SVal} {n d : Nat} {v : SVal}, find d (numb n l) = some v → n ≤ d ∧ l[d - n]? = some v := by
  intro l
  induction l with
  | nil => intro n d v h; cases h
  | cons x l ih =>
    intro n d v h
    simp only [numb, find] at h
    split at h
    · rename_i hb
      have := Nat.eq_of_beq_eq_true hb; subst this
      cases h; simp
    · have := ih h
      refine ⟨by omega, ?_⟩
      rw [show d - n = (d - (n + 1)) + 1 by omega]
      exact this.2
structure FitsS (C : Ctx) (gl : List (Nat × SVal)) (old : List Nat) (ρ ρ0 : Nat → Option Value) (τ : List (Nat × Nat)) (t : SState) (r : ORes) (next : Nat) : Prop where
  v : ∀ W R ρ2 ρ3 u, Mem C gl W R ρ2 (lookS t.hp) → (∀ n, t.next ≤ n → ρ2 n = none) → (∀ n q, find n τ = some q → ρ3 n = ρ2 q) → (∀ q ∈ old, ∀ v, ρ0 q = some v → ρ2 q = some v) → (∀ n v, ρ n = some v → ρ3 n = some v) → Den C W R ρ2 ((find 0 t.fr).getD .any) u → Den C W R ρ3 r.v u
  ws : ∀ n c, find n r.ws = some c → c = none ∨ ∃ q c0 c', find n τ = some q ∧ c = some c' ∧ lookS t.hp q = some c0 ∧
    ∀ W R ρ2 ρ3 u, Mem C gl W R ρ2 (lookS t.hp) → (∀ n, t.next ≤ n → ρ2 n = none) → (∀ n q, find n τ = some q → ρ3 n = ρ2 q) → (∀ q ∈ old, ∀ v, ρ0 q = some v → ρ2 q = some v) → (∀ n v, ρ n = some v → ρ3 n = some v) → HoldC C W R ρ2 u c0 → HoldC C W R ρ3 u c'
  keys : ∀ n q, find n τ = some q → (q ∈ old ∧ ρ0 q = ρ n ∧ ρ n ≠ none) ∨ (n ∈ keys r.ws ∧ next ≤ n ∧ n < next + r.k)
  inj : nodupB (sndN τ) = true
theorem mem_find {α : Type} {n : Nat} {l : List (Nat × α)} (hm : n ∈ keys l) : ∃ c, find n l = some c := by
  induction l with
  | nil => cases hm
  | cons p l ih =>
    obtain ⟨m, x⟩ := p
    simp only [find]
    cases hb : m.beq n with
    | true => exact ⟨x, rfl⟩
    | false =>
      rcases List.mem_cons.1 hm with rfl | hm
      · rw [Nat.beq_refl] at hb; cases hb
      · exact ih hm
theorem DenA.lenA {args : List SVal} {vs : List Value} (h : DenA C W R ρ args vs) : vs.length = args.length := by
  induction args generalizing vs with
  | nil => cases h; rfl
  | cons s l ih => cases h with | cons _ v _ us h1 h2 => simp [ih h2]
structure Enters (C : Ctx) (gl : List (Nat × SVal)) (W : World) (R : Nat → Prop) (ρ : Nat → Option Value) (h : Nat → Option Cont) (r : ORes) (R1 own0 : Nat → Prop) (ρ0 : Nat → Option Value) (hp0 : List (Nat × Option Cont)) (n0 : Nat) (args' : List SVal) (vs : List Value) : Prop where
  args : DenA C W R1 ρ0 args' vs
  mem : Mem C gl W R1 ρ0 (lookS hp0)
  above : ∀ n, n0 ≤ n → ρ0 n = none
  Rm : ∀ b, R b → R1 b
  Rn : ∀ b, R1 b → R b ∨ own0 b
  owned : ∀ b, ownOf ρ0 (lookS hp0) b → own0 b
  own : ∀ b, own0 b → ∃ n c v, n ∈ keys r.ws ∧ h n = some c ∧ ρ n = some v ∧ blk v = some b
theorem con_core (EO : EnvOk P C gl E) {f : Nat} {fn : Func} {c : Code} (hf : P.funcs[f]? = some fn) (hb : fn.body = some c) {ls : List (Nat × LSum)}
    (M : Mem C gl W R ρ h) {args' : List SVal} {vs : List Value} {next : Nat} {r : ORes} (hn : ∀ j, j < r.k → ρ (next + j) = none)
    {R1 own0 : Nat → Prop} {ρ0 : Nat → Option Value} {hp0 : List (Nat × Option Cont)} {n0 : Nat} (S : Enters C gl W R ρ h r R1 own0 ρ0 hp0 n0 args' vs) (hlen : Nat.ble args'.length fn.ntmps = true)
    (HL : ∀ W R ρ0 own0, HownOk E own0 ρ0 → ∀ b ∈ loopsOf c, ∀ L, find (headId b) ls = some L → LOk P E C gl W R own0 ρ0 b L)
    (hrun0 : ∀ {a : Act}, Inv E C gl W R own0 ρ0 { fr := numb 0 args', hp := hp0, next := n0, sz := fn.ntmps } a W R1 ρ0 → ∃ s1 R2 ρ2, Inv E C gl W R own0 ρ0 s1 a W R2 ρ2 ∧ (run E ls c s1 (ends E fn.results.toList)).sat fun _ s => ∃ t σ τ, all (subSt E σ s t) ∧ FitsS C gl E.old ρ ρ0 τ t r next) :
    Calls P f vs.toArray W fun e W' => ∃ v R' ρ', e = .returned v ∧ Trans C gl W R ρ h r.ws W' R' ρ' ∧ Den C W' R' ρ' r.v v := by
  have hlen := Nat.le_of_ble_eq_true hlen
  have hsz : vs.toArray.size = args'.length := by simpa using S.args.lenA
  have I : Inv E C gl W R own0 ρ0 { fr := numb 0 args', hp := hp0, next := n0, sz := fn.ntmps } ⟨vs.toArray ++ Array.replicate (fn.ntmps - vs.toArray.size) undef, []⟩ W R1 ρ0 := by
    refine ⟨fun d => ?_, S.mem, ?_, ⟨rfl, rfl, rfl, Nat.le_refl _, S.Rm, fun b hb => (S.Rn b hb).imp id .inr, fun _ _ _ => rfl, fun b hb => .inl (S.owned b hb)⟩, S.above, rfl, fun _ _ _ h => h⟩
    · cases hf : find d (numb 0 args') with
      | none => exact .any _
      | some s =>
        obtain ⟨_, hs⟩ := numb_find hf
        obtain ⟨v, hv, hd⟩ := S.args.get (by simpa using hs)
        have : (vs.toArray ++ Array.replicate (fn.ntmps - vs.toArray.size) undef).getD d undef = v := by
          have hlt : d < vs.length := (List.getElem?_eq_some_iff.1 hv).1
          rw [Array.getD_eq_getD_getElem?, Array.getElem?_append_left (by simpa using hlt)]
          simp [hv]
        rw [this]; exact hd
    · show (vs.toArray ++ Array.replicate (fn.ntmps - vs.toArray.size) undef).size = fn.ntmps
      rw [Array.size_append, Array.size_replicate, hsz]; omega
  obtain ⟨s1, R2, ρ2, I2, hrun⟩ := hrun0 I
  refine call_run EO trivial hf hb (HL _ _ _ _ trivial) I2 hrun fun s' v W' R1 ρ1 hQ J => ?_
  obtain ⟨t, σ, τ, hsub, F⟩ := hQ
  obtain ⟨R2, ρ2, J⟩ := J.sub EO trivial hsub
  have M2 := J.mem
  -- a block of the caller's that the callee could touch is one that is handed over
  have hframe : ∀ {n c u b}, h n = some c → ρ n = some u → blk u = some b → own0 b → n ∈ keys r.ws := fun {n c u b} k1 k2 k3 ho => by
    obtain ⟨n', c', u', h1, h3, h4, h5⟩ := S.own b ho
    have := M.apart n n' c c' u u' b k1 h3 k2 h4 k3 h5
    subst this
    exact h1
  have hkeepR : ∀ b, R b → W'.heap[b]? = W.heap[b]? := fun b hb => J.bt.keep b (M.base.inR b hb) fun ho => by
    obtain ⟨n', c', u', h1, h3, h4, h5⟩ := S.own b ho
    exact M.off n' c' u' b h3 h4 h5 hb
  let ρ3 : Nat → Option Value := fun n => match find n τ with
    | some q => ρ2 q
    | none => ρ n
  have e3 : ∀ {n q}, find n τ = some q → ρ3 n = ρ2 q := fun {n q} hq => by show (match find n τ with | some q => ρ2 q | none => ρ n) = _; rw [hq]
  have e3' : ∀ {n}, find n τ = none → ρ3 n = ρ n := fun {n} hq => by show (match find n τ with | some q => ρ2 q | none => ρ n) = _; rw [hq]
  have hm : ∀ n v, ρ n = some v → ρ3 n = some v := fun n v hv => by
    cases hq : find n τ with
    | none => rw [e3' hq]; exact hv
    | some q =>
      rcases F.keys n q hq with ⟨ho, hs, _⟩ | ⟨_, h1, h2⟩
      · rw [e3 hq]; exact J.pins q ho v (by rw [hs]; exact hv)
      · have := hn (n - next) (by omega)
        rw [show next + (n - next) = n by omega, hv] at this; cases this
  have hDen : Den C W' R2 ρ3 r.v v := F.v _ _ _ ρ3 _ M2 J.above (fun n q hq => e3 hq) J.pins hm (J.slots 0)
  have stay : ∀ {n c u}, h n = some c → ρ3 n = some u → ρ n = some u := fun {n c u} hc hu => by
    obtain ⟨v, hv, _⟩ := M.at_ n c hc
    rw [hm n v hv] at hu; cases hu; exact hv
  have split : ∀ {n c}, upd h r.ws n = some c → (∃ q c0 v, find n τ = some q ∧ lookS t.hp q = some c0 ∧ ρ2 q = some v ∧ ρ3 n = some v ∧ HoldC C W' R2 ρ3 v c) ∨ (find n r.ws = none ∧ h n = some c) := fun {n c} hu => by
    unfold upd at hu
    cases hf : find n r.ws with
    | some c0 =>
      rw [hf] at hu; simp only at hu; subst hu
      rcases F.ws n _ hf with hc | ⟨q, c0, c', h1, h2, h3, h4⟩
      · cases hc
      · cases h2
        obtain ⟨v, hv, hh⟩ := M2.at_ q c0 h3
        exact .inl ⟨q, c0, v, h1, h3, hv, by rw [e3 h1]; exact hv, h4 _ _ _ ρ3 _ M2 J.above (fun n q hq => e3 hq) J.pins hm hh⟩
    | none =>
      rw [hf] at hu
      exact .inr ⟨rfl, hu⟩
  refine ⟨v, R2, ρ3, rfl, ⟨⟨M2.base, fun n c hu => ?_, fun n n' c c' u u' b k1 k2 k3 k4 k5 k6 => ?_, fun n c u b k1 k2 k3 k4 => ?_⟩, J.bt.os, J.bt.tape, J.bt.output, J.bt.size, J.bt.Rm, fun b hb => ?_, hm, fun n u hu => ?_, fun k hk hx => ?_, fun n c u b k1 k2 k3 => ?_⟩, hDen⟩
  · rcases split hu with ⟨q, c0, v, h1, h2, h3, h4, h5⟩ | ⟨h1, h3⟩
    · exact ⟨v, h4, h5⟩
    · obtain ⟨v, hv, hh⟩ := M.at_ n c h3
      refine ⟨v, hm _ _ hv, hh.mono J.bt.Rm hkeepR hm fun b hb => J.bt.keep b (hh.lt hb) fun ho => ?_⟩
      exact find_none h1 (hframe h3 hv hb ho)
  · have one : ∀ {n n' c' u u' b q c0}, find n τ = some q → lookS t.hp q = some c0 → ρ2 q = some u → ρ3 n = some u → blk u = some b → find n' r.ws = none → h n' = some c' → ρ3 n' = some u' → blk u' = some b → False := fun {n n' c' u u' b q c0} g1 g2 g3 g4 g5 g6 g7 g8 g9 => by
      replace g8 := stay g7 g8
      rcases J.bt.owned b ⟨q, c0, u, g2, g3, g5⟩ with ho | ho
      · exact find_none g6 (hframe g7 g8 g9 ho)
      · obtain ⟨v', hv', hh⟩ := M.at_ n' c' g7
        rw [g8] at hv'; cases hv'
        have := hh.lt g9; omega
    rcases split k1 with ⟨q, c0, v, h1, h2, h3, h4, h5⟩ | ⟨h1, h3⟩ <;> rcases split k2 with ⟨q', c0', v', h1', h2', h3', h4', h5'⟩ | ⟨h1', h3'⟩
    · rw [h4] at k3; cases k3
      rw [h4'] at k4; cases k4
      have := M2.apart q q' c0 c0' u u' b h2 h2' h3 h3' k5 k6
      subst this
      exact nodup_inj F.inj (find_mem h1) (find_mem h1')
    · rw [h4] at k3; cases k3
      exact (one h1 h2 h3 h4 k5 h1' h3' k4 k6).elim
    · rw [h4'] at k4; cases k4
      exact (one h1' h2' h3' h4' k6 h1 h3 k3 k5).elim
    · exact M.apart n n' c c' u u' b h3 h3' (stay h3 k3) (stay h3' k4) k5 k6
  · rcases split k1 with ⟨q, c0, v, h1, h2, h3, h4, h5⟩ | ⟨h1, h3⟩
    · rw [h4] at k2; cases k2
      exact M2.off q c0 u b h2 h3 k3 k4
    · replace k2 := stay h3 k2
      rcases J.bt.Rn b k4 with hb | hb | hb
      · exact M.off n c u b h3 k2 k3 hb
      · obtain ⟨v', hv', hh⟩ := M.at_ n c h3
        rw [k2] at hv'; cases hv'
        have := hh.lt k3; omega
      · exact find_none h1 (hframe h3 k2 k3 hb)
  · exact (J.bt.Rn b hb).imp id fun g => g.imp id fun g => S.own b g
  · cases hq : find n τ with
    | none => rw [e3' hq] at hu; exact .inl hu
    | some q =>
      rw [e3 hq] at hu
      rcases F.keys n q hq with ⟨ho, hs, hne⟩ | ⟨g1, h1, h2⟩
      · cases hρ : ρ n with
        | none => exact (hne hρ).elim
        | some w =>
          have := J.pins q ho w (by rw [hs]; exact hρ)
          rw [hu] at this; cases this
          exact .inl rfl
      · have := hn (n - next) (by omega)
        rw [show next + (n - next) = n by omega] at this
        exact .inr ⟨this, g1⟩
  · refine J.bt.keep k hk fun ho => ?_
    obtain ⟨n', c', u', h1, h3, h4, h5⟩ := S.own k ho
    exact hx n' c' u' h1 h3 h4 h5
  · rcases split k1 with ⟨q, c0, v, h1, h2, h3, h4, h5⟩ | ⟨h1, h3⟩
    · rw [h4] at k2; cases k2
      rcases J.bt.owned b ⟨q, c0, u, h2, h3, k3⟩ with ho | ho
      · obtain ⟨n', c', u', g1, g3, g4, g5⟩ := S.own b ho
        exact .inl ⟨n', c', u', .inr g1, g3, g4, g5⟩
      · exact .inr ho
    · exact .inl ⟨n, c, u, .inl rfl, h3, stay h3 k2, k3⟩
theorem con_run (EO : EnvOk P C gl E) {f : Nat} {fn : Func} {c : Code} (hf : P.funcs[f]? = some fn) (hb : fn.body = some c) {ls : List (Nat × LSum)}
    (M : Mem C gl W R ρ h) {args' : List SVal} {vs : List Value} {next : Nat} {r : ORes} (hn : ∀ j, j < r.k → ρ (next + j) = none)
    {R1 own0 : Nat → Prop} {ρ0 : Nat → Option Value} {hp0 : List (Nat × Option Cont)} {n0 : Nat} (S : Enters C gl W R ρ h r R1 own0 ρ0 hp0 n0 args' vs) (hlen : Nat.ble args'.length fn.ntmps = true)
    (HL : ∀ W R ρ0 own0, HownOk E own0 ρ0 → ∀ b ∈ loopsOf c, ∀ L, find (headId b) ls = some L → LOk P E C gl W R own0 ρ0 b L)
    (hrun : (run E ls c { fr := numb 0 args', hp := hp0, next := n0, sz := fn.ntmps } (ends E fn.results.toList)).sat fun _ s => ∃ t σ τ, all (subSt E σ s t) ∧ FitsS C gl E.old ρ ρ0 τ t r next) :
    Calls P f vs.toArray W fun e W' => ∃ v R' ρ', e = .returned v ∧ Trans C gl W R ρ h r.ws W' R' ρ' ∧ Den C W' R' ρ' r.v v :=
  con_core EO hf hb M hn S hlen HL fun I => ⟨_, _, _, I, hrun⟩
theorem Enters.bare (M : Mem C gl W R ρ h) {r : ORes} {args args' : List SVal} {vs : List Value} (hA : DenA C W R ρ args vs) (hargs : ∀ p ∈ subL C.tAt none' [] deep args args', p) :
    Enters C gl W R ρ h r R (fun _ => False) (fun _ => none) [] 0 args' vs where
  args := (hA.ren M hargs).mono (fun _ h => h) (fun _ _ => rfl) fun r v hv => by cases hv
  mem := ⟨M.base, (fun r c hc => by cases hc), (fun r r' c c' v v' b h1 => by cases h1), (fun r c v b h1 => by cases h1)⟩
  above _ _ := rfl
  Rm _ h := h
  Rn _ h := .inl h
  owned b hb := by obtain ⟨r, c, v, h1, _⟩ := hb; cases h1
  own b hb := hb.elim
theorem Enters.last (M : Mem C gl W R ρ h) {r : ORes} {t : RT} {x : List t.ty} {l l' : List SVal} {vs : List Value} (hA : DenA C W R ρ (l ++ [.ro t x]) vs) (hp : ∀ p ∈ subL C.tAt none' [] deep l l', p) :
    Enters C gl W R ρ h r R (fun _ => False) (fun _ => none) [] 0 (l' ++ [.ro t x]) vs := by
  have main : ∀ {n : Nat} {l l' : List SVal} {vs : List Value}, DenA C W R ρ (l ++ [.ro t x]) vs → (∀ p ∈ subL C.tAt none' [] n l l', p) → DenA C W R (fun _ => none) (l' ++ [.ro t x]) vs := by
    intro n l
    induction l generalizing n with
    | nil =>
      intro l' vs hA hp
      cases l' with
      | nil =>
        cases hA with
        | cons _ v _ us h1 h2 =>
          cases h2
          refine .cons _ _ _ _ ?_ .nil
          cases h1 with
          | ro _ _ A cap vs h1 h2 h3 h4 h5 => exact .ro _ _ A cap vs h1 h2 (h3.free (fun _ h => h) (flat_plain t x)) h4 h5
      | cons b l' => cases n <;> (unfold subL at hp; exact no hp)
    | cons a l ih =>
      intro l' vs hA hp
      cases l' with
      | nil => cases n <;> (unfold subL at hp; exact no hp)
      | cons b l' =>
        cases n with
        | zero => unfold subL at hp; exact no hp
        | succ n =>
          unfold subL at hp
          split at hp
          · cases hA with
            | cons _ v _ us h1 h2 =>
              refine .cons _ _ _ _ ?_ (ih h2 fun p hm => hp p (List.mem_append_right _ hm))
              exact (h1.ren M fun p hm => hp p (List.mem_append_left _ hm)).mono (fun _ h => h) (fun _ _ => rfl) fun r v hv => by cases hv
          · exact no hp
  exact ⟨main hA hp, ⟨M.base, (fun r c hc => by cases hc), (fun r r' c c' v v' b h1 => by cases h1), (fun r c v b h1 => by cases h1)⟩, fun _ _ => rfl, fun _ h => h, fun _ h => .inl h, (fun b hb => by obtain ⟨r, c, v, h1, _⟩ := hb; cases h1), fun b hb => hb.elim⟩
theorem Enters.frozen (M : Mem C gl W R ρ h) {r : ORes} {q : Nat} {t : RT} {x : List t.ty} (hq : h q = some (.recs t x)) (hk : q ∈ keys r.ws) : ∀ {l l' : List SVal} {vs : List Value}, DenA C W R ρ (l ++ [.own q]) vs → (∀ p ∈ subL C.tAt none' [] deep l l', p) →
    ∃ R1 own0, Enters C gl W R ρ h r R1 own0 (fun _ => none) [] 0 (l' ++ [.ro t x]) vs := by
  intro l l' vs hA hp
  obtain ⟨v0, hv0, hh0⟩ := M.at_ q _ hq
  have main : ∀ {n : Nat} {l l' : List SVal} {vs : List Value}, DenA C W R ρ (l ++ [.own q]) vs → (∀ p ∈ subL C.tAt none' [] n l l', p) → DenA C W (fun b => R b ∨ blk v0 = some b) (fun _ => none) (l' ++ [.ro t x]) vs := by
    intro n l
    induction l generalizing n with
    | nil =>
      intro l' vs hA hp
      cases l' with
      | nil =>
        cases hA with
        | cons _ v _ us h1 h2 =>
          cases h2
          refine .cons _ _ _ _ ?_ .nil
          cases h1 with
          | own _ A m cap hv =>
            obtain ⟨rfl, g1, g2, vs, g3, g4, g5⟩ := frozen_row (σ := []) M rfl hq hv
            rw [hv0] at hv; cases hv
            refine .ro _ _ A cap vs g1 g2 (g3.free (fun _ h => .inl h) (flat_plain t x)) (fun hl => ?_) g5
            obtain ⟨b, e1, _, e3⟩ := g4 hl
            exact ⟨b, 0, e1, .inr (by rw [e1]; rfl), e3⟩
      | cons b l' => cases n <;> (unfold subL at hp; exact no hp)
    | cons a l ih =>
      intro l' vs hA hp
      cases l' with
      | nil => cases n <;> (unfold subL at hp; exact no hp)
      | cons b l' =>
        cases n with
        | zero => unfold subL at hp; exact no hp
        | succ n =>
          unfold subL at hp
          split at hp
          · cases hA with
            | cons _ v _ us h1 h2 =>
              refine .cons _ _ _ _ ?_ (ih h2 fun p hm => hp p (List.mem_append_right _ hm))
              exact (h1.ren M fun p hm => hp p (List.mem_append_left _ hm)).mono (fun _ h => .inl h) (fun _ _ => rfl) fun r v hv => by cases hv
          · exact no hp
  refine ⟨_, fun b => blk v0 = some b, main hA hp, ⟨M.base.mono (fun _ h => .inl h) (fun b hb => hb.elim (M.base.inR b) fun hb => hh0.lt hb) fun _ _ => rfl, fun r c hc => (by cases hc), fun r r' c c' v v' b h1 => (by cases h1), fun r c v b h1 => (by cases h1)⟩, fun _ _ => rfl, fun _ h => .inl h, fun _ h => h, fun b hb => ?_, fun b hb => ⟨q, _, v0, hk, hq, hv0, hb⟩⟩
  obtain ⟨r, c, v, h1, _⟩ := hb; cases h1
theorem sat_mono {Q Q' : Exi → SState → Prop} (hq : ∀ e s, Q e s → Q' e s) : ∀ {t : Tr}, t.sat Q → t.sat Q' := by
  intro t
  induction t with
  | leaf e s => intro hs; exact hq _ _ hs
  | ite b t f iht ihf => intro hs; exact ⟨fun hb => iht (hs.1 hb), fun hb => ihf (hs.2 hb)⟩
  | req p t ih => intro hs; exact ⟨hs.1, fun hp => ih (hs.2 hp)⟩
  | prop p => intro hs; exact hs
  | both t u iht ihu => intro hs; exact ⟨iht hs.1, ihu hs.2⟩
  | fail w => intro hs; exact hs.elim
theorem noks {ws : List (Nat × Option Cont)} (h : ∀ p ∈ ws, p.2 = none) : ∀ n c, find n ws = some c → c = none := fun n c hc => h _ (find_mem hc)
theorem con_plain (EO : EnvOk P C gl E) {f : Nat} {fn : Func} {c : Code} (hf : P.funcs[f]? = some fn) (hb : fn.body = some c) {ls : List (Nat × LSum)} {n : Nat}
    (M : Mem C gl W R ρ h) {args' : List SVal} {vs : List Value} {r : ORes} {rv : SVal} {R1 own0 : Nat → Prop} (S : Enters C gl W R ρ h r R1 own0 (fun _ => none) [] 0 args' vs) (hr : r.v = rv ∧ (∀ p ∈ r.ws, p.2 = none) ∧ r.k = 0) (hold : E.old = []) (hnt : fn.ntmps = n)
    (hlen : Nat.ble args'.length n = true)
    (HL : ∀ W R ρ0 own0, HownOk E own0 ρ0 → ∀ b ∈ loopsOf c, ∀ L, find (headId b) ls = some L → LOk P E C gl W R own0 ρ0 b L)
    (hrun : (run E ls c { fr := numb 0 args', hp := [], next := 0, sz := n } (ends E fn.results.toList)).sat fun _ s => all (sub E.tAt (lookS s.hp) [] deep ((find 0 s.fr).getD .any) rv)) :
    Calls P f vs.toArray W fun e W' => ∃ v R' ρ', e = .returned v ∧ Trans C gl W R ρ h r.ws W' R' ρ' ∧ Den C W' R' ρ' r.v v := by
  subst hnt
  obtain ⟨h1, h2, h3⟩ := hr
  refine con_run EO hf hb M (next := 0) (fun j hj => by rw [h3] at hj; cases hj) S hlen HL ?_
  refine sat_mono (fun e s hs => ?_) hrun
  refine ⟨{ fr := [(0, rv)], hp := [], next := 0, sz := s.sz }, [], [], all_of fun p hp => ?_, fun W R ρ2 ρ3 u M2 ha he _ _ hd => ?_, fun n c hc => .inl (noks h2 n c hc), (fun n q hq => by cases hq), rfl⟩
  · unfold subSt at hp
    rw [hold] at hp
    simp only [List.flatMap_cons, List.flatMap_nil, List.append_nil, sndN, nodupB, fstLt, oldOk, Nat.beq_refl, Bool.and_self, Bool.and_true, List.append_nil] at hp
    exact all_mem hs p hp
  · rw [h1]
    exact hd.mono (fun _ h => h) (fun _ _ => rfl) fun n u hu => by rw [ha n (Nat.zero_le _)] at hu; cases hu
end
theorem enters {P : Program} {f : Nat} {fn : Func} {c : Code} (hf : P.funcs[f]? = some fn) (hb : fn.body = some c) (hname : (fn.name == "runtime.NumGoroutine") = false) (args : Array Value) (w : World) :
    (callFunc f args).run P w = .ok (.enter f args) w := by
  unfold callFunc
  have hn : ¬ fn.name = "runtime.NumGoroutine" := by simpa using hname
  simp [hf, hb, hn]
end Go.Sy

set_option linter.unusedVariables false
set_option linter.unusedSimpArgs false
namespace Go.Sy
open Go.RowKit
abbrev fits (E : Env) (s t : SState) : Prop := all (subSt E (mtch E.old s t) s t)
def loopN (c : Code) (n : Nat) : Code := (loopsOf c).getD n .skip
def rnd1 (E : Env) (J : Nat → Prop) (N : Nat) (H : Nat → SState) (id : Nat) (X : SState) (i : Nat) : Exi → SState → Prop
  | .normal, s => i < N ∧ J (i + 1) ∧ fits E s (H (i + 1))
  | .exit n, s => n.beq id = true ∧ fits E s X
  | .ret, _ => False
def rnd2 (E : Env) (J : Nat → Prop) (N : Nat) (H : Nat → SState) (id : Nat) (b : Bool) (X Y : SState) (i : Nat) : Exi → SState → Prop
  | .normal, s => i < N ∧ J (i + 1) ∧ fits E s (H (i + 1))
  | .exit n, s => n.beq id = true ∧ b = true ∧ fits E s X
  | .ret, s => b = false ∧ fits E s Y
section
variable {P : Program} {C : Ctx} {gl : List (Nat × SVal)} {E : Env} {W0 : World} {R0 own0 : Nat → Prop} {ρ0 : Nat → Option Value}
theorem loop1_ok (EO : EnvOk P C gl E) (hown : HownOk E own0 ρ0) {ls : Nat → List (Nat × LSum)} {b : Code} (HL : ∀ i, ∀ c ∈ loopsOf b, ∀ L, find (headId c) (ls i) = some L → LOk P E C gl W0 R0 own0 ρ0 c L)
    {J : Nat → Prop} {N : Nat} {H : Nat → SState} {id : Nat} {X : SState} {pre : Prop} (body : pre → ∀ i, i ≤ N → J i → (run E (ls i) b (H i) .leaf).sat (rnd1 E J N H id X i)) (i0 : Nat) (h0 : pre → i0 ≤ N) (j0 : pre → J i0) :
    LOk P E C gl W0 R0 own0 ρ0 b ⟨H i0, fun k => k (.exit id) X, pre⟩ := by
  refine loop_ok EO hown (ls := fun i => ls i.1) (fun i => HL i.1) (ι := { i // i ≤ N ∧ J i }) (fun i => H i.1) (fun i => N - i.1) (fun _ e t => e = .exit id ∧ t = X) (fun hp i => sat_mono (fun e s hs => ?_) (body hp i.1 i.2.1 i.2.2)) (fun hp => ⟨i0, h0 hp, j0 hp⟩) (fun _ => rfl) (fun _ _ _ h e t ht => by rw [ht.1, ht.2]; exact h)
  cases e with
  | normal => exact ⟨⟨i.1 + 1, hs.1, hs.2.1⟩, _, by have := hs.1; show N - (i.1 + 1) < N - i.1; omega, hs.2.2, fun e t h => h⟩
  | ret => exact hs.elim
  | exit n => exact ⟨X, _, ⟨by rw [Nat.eq_of_beq_eq_true hs.1], rfl⟩, hs.2⟩
theorem loop2_ok (EO : EnvOk P C gl E) (hown : HownOk E own0 ρ0) {ls : Nat → List (Nat × LSum)} {b : Code} (HL : ∀ i, ∀ c ∈ loopsOf b, ∀ L, find (headId c) (ls i) = some L → LOk P E C gl W0 R0 own0 ρ0 c L)
    {J : Nat → Prop} {N : Nat} {H : Nat → SState} {id : Nat} {t : Bool} {X Y : SState} {pre : Prop} (body : pre → ∀ i, i ≤ N → J i → (run E (ls i) b (H i) .leaf).sat (rnd2 E J N H id t X Y i)) (i0 : Nat) (h0 : pre → i0 ≤ N) (j0 : pre → J i0) :
    LOk P E C gl W0 R0 own0 ρ0 b ⟨H i0, fun k => .ite t (k (.exit id) X) (k .ret Y), pre⟩ := by
  refine loop_ok EO hown (ls := fun i => ls i.1) (fun i => HL i.1) (ι := { i // i ≤ N ∧ J i }) (fun i => H i.1) (fun i => N - i.1) (fun _ e s => (e = .exit id ∧ t = true ∧ s = X) ∨ (e = .ret ∧ t = false ∧ s = Y)) (fun hp i => sat_mono (fun e s hs => ?_) (body hp i.1 i.2.1 i.2.2)) (fun hp => ⟨i0, h0 hp, j0 hp⟩) (fun _ => rfl)
    (fun _ _ _ h e s ht => by
      rcases ht with ⟨rfl, h1, rfl⟩ | ⟨rfl, h1, rfl⟩
      · exact h.1 h1
      · exact h.2 h1)
  cases e with
  | normal => exact ⟨⟨i.1 + 1, hs.1, hs.2.1⟩, _, by have := hs.1; show N - (i.1 + 1) < N - i.1; omega, hs.2.2, fun e t h => h⟩
  | ret => exact ⟨Y, _, .inr ⟨rfl, hs.1, rfl⟩, hs.2⟩
  | exit n => exact ⟨X, _, .inl ⟨by rw [Nat.eq_of_beq_eq_true hs.1], hs.2.1, rfl⟩, hs.2.2⟩
def cutL (s : SState) : LSum := ⟨s, fun k => k .normal s, True⟩
theorem hl1 {c b : Code} {ls : List (Nat × LSum)} {L0 : LSum} {Z : Code → LSum → Prop} (hc : loopsOf c = [b]) (hf : find (headId b) ls = some L0) (hz : Z b L0) : ∀ b ∈ loopsOf c, ∀ L, find (headId b) ls = some L → Z b L := by
  intro b' hb L hL
  rw [hc] at hb
  simp only [List.mem_singleton] at hb
  subst hb
  rw [hf] at hL; cases hL; exact hz
theorem hlN {c : Code} {bs : List Code} {ls : List (Nat × LSum)} {Z : Code → LSum → Prop} (hc : loopsOf c = bs) (hz : ∀ b ∈ bs, ∃ L0, find (headId b) ls = some L0 ∧ Z b L0) : ∀ b ∈ loopsOf c, ∀ L, find (headId b) ls = some L → Z b L := by
  intro b hb L hL
  rw [hc] at hb
  obtain ⟨L0, h1, h2⟩ := hz b hb
  rw [h1] at hL; cases hL; exact h2
end
end Go.Sy

set_option linter.unusedVariables false
set_option linter.unusedSimpArgs false
namespace Go.Sy
open Go.RowKit
mutual
def shV (d : Nat) : SVal → SVal
  | .ptr r off => .ptr (Nat.add d r) off
  | .eptr r w i j => .eptr (Nat.add d r) w i j
  | .aptr r off w n i j => .aptr (Nat.add d r) off w n i j
  | .rop l => .rop (shL d l)
  | .own r => .own (Nat.add d r)
  | .view t r k n => .view t (Nat.add d r) k n
  | .map r => .map (Nat.add d r)
  | .func f l => .func f (shL d l)
  | .iface t v => .iface t (shV d v)
  | .agg l => .agg (shL d l)
  | .tuple l => .tuple (shL d l)
  | v => v
def shL (d : Nat) : List SVal → List SVal
  | [] => []
  | a :: l => shV d a :: shL d l
end
def shC (d : Nat) : Cont → Cont
  | .cells l => .cells (shL d l)
  | .row w l => .row w (shL d l)
  | c => c
def shH (d : Nat) : List (Nat × Cont) → List (Nat × Option Cont)
  | [] => []
  | (n, c) :: l => (Nat.add d n, some (shC d c)) :: shH d l
def optH : List (Nat × Cont) → List (Nat × Option Cont)
  | [] => []
  | (n, c) :: l => (n, some c) :: optH l
def newR (next : Nat) (v : SVal) (hp : List (Nat × Cont)) (m : Nat) (vc : Option Prop := none) : ORes := { v := shV next v, ws := shH next hp, k := m, vc := vc }
section
variable {C : Ctx} {gl : List (Nat × SVal)} {W : World} {R : Nat → Prop} {ρ ρ' : Nat → Option Value} {d : Nat}
theorem shV_arr (s : SVal) : (shV d s).isArr = s.isArr := by cases s <;> (unfold shV; rfl)
mutual
theorem Den.shift (hρ : ∀ r v, ρ r = some v → ρ' (d + r) = some v) : ∀ {s v}, Den C W R ρ s v → Den C W R ρ' (shV d s) v
  | _, _, .any v => by unfold shV; exact .any v
  | _, _, .int k n h => by unfold shV; exact .int k n h
  | _, _, .bool b => by unfold shV; exact .bool b
  | _, _, .str s h => by unfold shV; exact .str s h
  | _, _, .nilptr => by unfold shV; exact .nilptr
  | _, _, .ptr r off b h => by unfold shV; exact .ptr _ off b (hρ _ _ h)
  | _, _, .eptr r w i j b n cap h h1 h2 => by unfold shV; exact .eptr _ w i j b n cap (hρ _ _ h) h1 h2
  | _, _, .aptr r off w n i j b h h1 h2 => by unfold shV; exact .aptr _ off w n i j b (hρ _ _ h) h1 h2
  | _, _, .rop l vs b off h1 h2 h3 => by unfold shV; exact .rop _ vs b off h1 (DenL.shift hρ h2) h3
  | _, _, .nilslice => by unfold shV; exact .nilslice
  | _, _, .own r A n cap h => by unfold shV; exact .own _ A n cap (hρ _ _ h)
  | _, _, .view t r k n A A' m cap cap' h h1 h2 h3 h4 h5 => by unfold shV; exact .view t _ k n A A' m cap cap' (hρ _ _ h) h1 h2 h3 h4 h5
  | _, _, .ro t l A cap vs h1 h2 h3 h4 h5 => by unfold shV; exact .ro t l A cap vs h1 h2 (h3.free (fun _ h => h) (flat_plain t l)) h4 h5
  | _, _, .roN t l A cap vs h1 h2 h3 h4 => by unfold shV; exact .roN t l A cap vs h1 h2 (h3.free (fun _ h => h) (flat_plain t l)) h4
  | _, _, .nilmap => by unfold shV; exact .nilmap
  | _, _, .map r b h => by unfold shV; exact .map _ b (hρ _ _ h)
  | _, _, .nilFunc => by unfold shV; exact .nilFunc
  | _, _, .func f l vs h => by unfold shV; exact .func f _ vs (DenA.shift hρ h)
  | _, _, .nilIface => by unfold shV; exact .nilIface
  | _, _, .iface t s v h => by unfold shV; exact .iface t _ v (Den.shift hρ h)
  | _, _, .fine => by unfold shV; exact .fine
  | _, _, .bare n h => by unfold shV; exact .bare n h
  | _, _, .placed n p b off h1 h2 h3 h4 h5 => by unfold shV; exact .placed n p b off h1 h2 h3 h4 h5
  | _, _, .atp n p b off h1 h2 h3 h4 h5 => by unfold shV; exact .atp n p b off h1 h2 h3 h4 h5
  | _, _, .atnil e h => by unfold shV; exact .atnil e h
  | _, _, .agg l vs h => by unfold shV; exact .agg _ vs (DenL.shift hρ h)
  | _, _, .arr t n xs vs h1 h2 => by unfold shV; exact .arr t n xs vs h1 (h2.free (fun _ h => h) (flat_plain t xs))
  | _, _, .tuple l vs h => by unfold shV; exact .tuple _ vs (DenA.shift hρ h)
theorem DenL.shift (hρ : ∀ r v, ρ r = some v → ρ' (d + r) = some v) : ∀ {l vs}, DenL C W R ρ l vs → DenL C W R ρ' (shL d l) vs
  | _, _, .nil => by unfold shL; exact .nil
  | _, _, .one s v l vs h1 h2 h3 h4 => by unfold shL; exact .one _ v _ vs (by rw [shV_arr]; exact h1) h2 (Den.shift hρ h3) (DenL.shift hρ h4)
  | _, _, .arr t n xs us l vs h1 h2 h3 => by
    unfold shL
    have : shV d (.arr t n xs) = .arr t n xs := by unfold shV; rfl
    rw [this]; exact .arr t n xs us _ vs h1 (h2.free (fun _ h => h) (flat_plain t xs)) (DenL.shift hρ h3)
theorem DenA.shift (hρ : ∀ r v, ρ r = some v → ρ' (d + r) = some v) : ∀ {l vs}, DenA C W R ρ l vs → DenA C W R ρ' (shL d l) vs
  | _, _, .nil => by unfold shL; exact .nil
  | _, _, .cons s v l vs h1 h2 => by unfold shL; exact .cons _ v _ vs (Den.shift hρ h1) (DenA.shift hρ h2)
end
theorem HoldC.shift (hρ : ∀ r v, ρ r = some v → ρ' (d + r) = some v) {v : Value} {c : Cont} (h : HoldC C W R ρ v c) : HoldC C W R ρ' v (shC d c) := by
  cases c with
  | cells l => obtain ⟨b, vs, T, rfl, hh, hl⟩ := h; exact ⟨b, vs, T, rfl, hh, hl.shift hρ⟩
  | recs t l => obtain ⟨e, vs, ho, hl⟩ := h; exact ⟨e, vs, ho, hl.free (fun _ h => h) (flat_plain t l)⟩
  | row w l => obtain ⟨e, vs, n, ho, hl, h0⟩ := h; exact ⟨e, vs, n, ho, hl.shift hρ, h0⟩
  | strMap m => exact h
  | intMap m => exact h
theorem shH_find {hp : List (Nat × Cont)} {n : Nat} {c : Option Cont} (h : find n (shH d hp) = some c) : ∃ q c0, n = d + q ∧ find q (optH hp) = some (some c0) ∧ c = some (shC d c0) := by
  induction hp with
  | nil => cases h
  | cons p hp ih =>
    obtain ⟨m, c0⟩ := p
    simp only [shH, find] at h
    cases hb : Nat.beq (Nat.add d m) n with
    | true =>
      rw [hb] at h
      cases h
      have := Nat.eq_of_beq_eq_true hb
      exact ⟨m, c0, this.symm, by simp [optH, find, Nat.beq_refl], rfl⟩
    | false =>
      rw [hb] at h
      obtain ⟨q, c1, h1, h2, h3⟩ := ih h
      refine ⟨q, c1, h1, ?_, h3⟩
      simp only [optH, find]
      have : m.beq q = false := by
        cases hq : m.beq q with
        | false => rfl
        | true =>
          have e := Nat.eq_of_beq_eq_true hq
          subst e
          rw [h1] at hb
          have : Nat.beq (Nat.add d m) (d + m) = true := Nat.beq_refl _
          rw [this] at hb; cases hb
      rw [this]; exact h2
theorem shH_key {hp : List (Nat × Cont)} {q : Nat} {c : Option Cont} (h : find q (optH hp) = some c) : d + q ∈ keys (shH d hp) := by
  induction hp with
  | nil => cases h
  | cons p hp ih =>
    obtain ⟨m, c0⟩ := p
    simp only [optH, find] at h
    simp only [shH, keys, List.map_cons, List.mem_cons]
    cases hb : m.beq q with
    | true => have := Nat.eq_of_beq_eq_true hb; subst this; exact .inl rfl
    | false => rw [hb] at h; exact .inr (ih h)
def tauF (next : Nat) : List Nat → List (Nat × Nat)
  | [] => []
  | q :: l => (next + q, q) :: tauF next l
theorem tau_find {next : Nat} {l : List Nat} {n q : Nat} (h : find n (tauF next l) = some q) : n = next + q ∧ q ∈ l := by
  have := find_mem h
  clear h
  induction l with
  | nil => cases this
  | cons m l ih =>
    rcases List.mem_cons.1 this with e | hm
    · cases e; exact ⟨rfl, List.mem_cons_self ..⟩
    · exact ⟨(ih hm).1, List.mem_cons_of_mem _ (ih hm).2⟩
theorem tau_has {next : Nat} {l : List Nat} {q : Nat} (h : q ∈ l) : find (next + q) (tauF next l) = some q := by
  induction l with
  | nil => cases h
  | cons m l ih =>
    simp only [tauF, find]
    cases hb : Nat.beq (next + m) (next + q) with
    | true => have := Nat.eq_of_beq_eq_true hb; have : m = q := by omega
              rw [this]
    | false =>
      rcases List.mem_cons.1 h with e | h
      · subst e; rw [Nat.beq_refl] at hb; cases hb
      · exact ih h
theorem tau_snd (next : Nat) (l : List Nat) : sndN (tauF next l) = l := by
  induction l with
  | nil => rfl
  | cons m l ih => simp only [tauF, sndN, ih]
theorem optH_look {hp : List (Nat × Cont)} {q : Nat} {c : Cont} (h : find q (optH hp) = some (some c)) : lookS (optH hp) q = some c := by unfold lookS; rw [h]; rfl
theorem optH_some {hp : List (Nat × Cont)} {q : Nat} {c : Option Cont} (h : find q (optH hp) = some c) : ∃ c0, c = some c0 := by
  induction hp with
  | nil => cases h
  | cons p hp ih =>
    obtain ⟨m, c0⟩ := p
    simp only [optH, find] at h
    split at h
    · cases h; exact ⟨c0, rfl⟩
    · exact ih h
def boundIn (l : List Nat) : Nat → Bool
  | 0 => true
  | m + 1 => memN m l && boundIn l m
theorem boundIn_of {l : List Nat} {m : Nat} (h : boundIn l m = true) : ∀ q, q < m → q ∈ l := by
  induction m with
  | zero => intro q hq; omega
  | succ m ih =>
    simp only [boundIn, Bool.and_eq_true] at h
    intro q hq
    by_cases e : q = m
    · subst e; exact memN_iff.1 h.1
    · exact ih h.2 q (by omega)
def newQ (E : Env) (v : SVal) (hp : List (Nat × Cont)) (m : Nat) : Exi → SState → Prop := fun _ s => fits E s { fr := [(0, v)], hp := optH hp, next := m, sz := 1 }
def keysH : List (Nat × Cont) → List Nat
  | [] => []
  | (n, _) :: l => n :: keysH l
def allLt (m : Nat) : List Nat → Bool
  | [] => true
  | q :: l => Nat.ble (q + 1) m && allLt m l
theorem allLt_of {m : Nat} {l : List Nat} (h : allLt m l = true) : ∀ q ∈ l, q < m := by
  induction l with
  | nil => intro q hq; cases hq
  | cons a l ih =>
    simp only [allLt, Bool.and_eq_true] at h
    intro q hq
    rcases List.mem_cons.1 hq with rfl | hq
    · exact Nat.le_of_ble_eq_true h.1
    · exact ih h.2 q hq
theorem keysH_find {hp : List (Nat × Cont)} {q : Nat} (h : q ∈ keysH hp) : ∃ c, find q (optH hp) = some c := by
  refine mem_find ?_
  induction hp with
  | nil => cases h
  | cons p hp ih =>
    obtain ⟨m, c0⟩ := p
    simp only [optH, keys, List.map_cons, List.mem_cons]
    rcases List.mem_cons.1 h with rfl | h
    · exact .inl rfl
    · exact .inr (ih h)
theorem find_keysH {hp : List (Nat × Cont)} {q : Nat} {c : Option Cont} (h : find q (optH hp) = some c) : q ∈ keysH hp := by
  induction hp with
  | nil => cases h
  | cons p hp ih =>
    obtain ⟨m, c0⟩ := p
    simp only [optH, find] at h
    simp only [keysH, List.mem_cons]
    split at h
    · rename_i hb; exact .inl (Nat.eq_of_beq_eq_true hb).symm
    · exact .inr (ih h)
theorem con_new {P : Program} {E : Env} (EO : EnvOk P C gl E) {f : Nat} {fn : Func} {c : Code} (hf : P.funcs[f]? = some fn) (hb : fn.body = some c) {ls : List (Nat × LSum)} {n : Nat} {h : Nat → Option Cont}
    (M : Mem C gl W R ρ h) {args' : List SVal} {vs : List Value} {next : Nat} {r : ORes} {rv : SVal} {hp : List (Nat × Cont)} {m : Nat} {fz : List (Nat × Option Cont)} {R1 own0 : Nat → Prop} (S : Enters C gl W R ρ h r R1 own0 (fun _ => none) [] 0 args' vs)
    (hr : r.v = shV next rv ∧ r.ws = fz ++ shH next hp ∧ r.k = m) (hz : ∀ p ∈ fz, p.2 = none ∧ ρ p.1 ≠ none) (hn : ∀ j, j < r.k → ρ (next + j) = none) (hold : E.old = []) (hnt : fn.ntmps = n)
    (hlen : Nat.ble args'.length n = true) (hm : (nodupB (keysH hp) && allLt m (keysH hp) && boundIn (keysH hp) m) = true)
    (HL : ∀ W R ρ0 own0, HownOk E own0 ρ0 → ∀ b ∈ loopsOf c, ∀ L, find (headId b) ls = some L → LOk P E C gl W R own0 ρ0 b L)
    (hrun : (run E ls c { fr := numb 0 args', hp := [], next := 0, sz := n } (ends E fn.results.toList)).sat (newQ E rv hp m)) :
    Calls P f vs.toArray W fun e W' => ∃ v R' ρ', e = .returned v ∧ Trans C gl W R ρ h r.ws W' R' ρ' ∧ Den C W' R' ρ' r.v v := by
  subst hnt
  obtain ⟨h1, h2, h3⟩ := hr
  simp only [Bool.and_eq_true] at hm
  obtain ⟨⟨m1, m2⟩, m3⟩ := hm
  have hm2 := allLt_of m2
  have hm3 := boundIn_of m3
  refine con_run EO hf hb M hn S hlen HL ?_
  have sh : ∀ {ρ2 ρ3 : Nat → Option Value}, (∀ n, m ≤ n → ρ2 n = none) → (∀ n q, find n (tauF next (keysH hp)) = some q → ρ3 n = ρ2 q) → ∀ r v, ρ2 r = some v → ρ3 (next + r) = some v := fun ha he r v hv => by
    have : r < m := Nat.lt_of_not_le fun hle => by rw [ha r hle] at hv; cases hv
    rw [he _ r (tau_has (hm3 r this))]; exact hv
  refine sat_mono (fun e s hs => ⟨_, _, tauF next (keysH hp), hs, ?_, ?_, ?_, ?_⟩) hrun
  · intro W R ρ2 ρ3 u M2 ha he _ _ hd
    rw [h1]
    exact Den.shift (sh ha he) hd
  · intro k c hc
    rw [h2, find_append] at hc
    split at hc
    · rename_i c' hf
      cases hc
      exact .inl (hz _ (find_mem hf)).1
    · obtain ⟨q, c0, rfl, hq, rfl⟩ := shH_find hc
      exact .inr ⟨q, c0, _, tau_has (find_keysH hq), rfl, optH_look hq, fun W R ρ2 ρ3 u M2 ha he _ _ hh => hh.shift (sh ha he)⟩
  · intro k q hq
    obtain ⟨rfl, hm⟩ := tau_find hq
    obtain ⟨c, hc⟩ := keysH_find hm
    have := hm2 q hm
    exact .inr ⟨by rw [h2]; simp only [keys, List.map_append, List.mem_append]; exact .inr (shH_key hc), by omega, by rw [h3]; omega⟩
  · rw [tau_snd]; exact m1
def isMapC : Cont → Bool
  | .strMap _ => true
  | .intMap _ => true
  | _ => false
theorem HoldC.map {W : World} {R : Nat → Prop} {ρ ρ' : Nat → Option Value} {v : Value} {c : Cont} (hm : isMapC c = true) (h : HoldC C W R ρ v c) : HoldC C W R ρ' v c := by
  cases c <;> first | exact h | cases hm
theorem Enters.map {W : World} {R : Nat → Prop} {ρ : Nat → Option Value} {h : Nat → Option Cont} (M : Mem C gl W R ρ h) {r : ORes} {q : Nat} {c0 : Cont} (hq : h q = some c0) (hm : isMapC c0 = true) (hk : q ∈ keys r.ws) {l l' : List SVal} {vs : List Value} (hA : DenA C W R ρ (l ++ [.map q]) vs)
    (hp : ∀ p ∈ subL C.tAt none' [] deep l l', p) : ∃ own0, Enters C gl W R ρ h r R own0 (fun n => if n = 0 then ρ q else none) [(0, some c0)] 1 (l' ++ [.map 0]) vs := by
  obtain ⟨v0, hv0, hh0⟩ := M.at_ q _ hq
  have main : ∀ {n : Nat} {l l' : List SVal} {vs : List Value}, DenA C W R ρ (l ++ [.map q]) vs → (∀ p ∈ subL C.tAt none' [] n l l', p) → DenA C W R (fun n => if n = 0 then ρ q else none) (l' ++ [.map 0]) vs := by
    intro n l
    induction l generalizing n with
    | nil =>
      intro l' vs hA hp
      cases l' with
      | nil =>
        cases hA with
        | cons _ v _ us h1 h2 =>
          cases h2
          refine .cons _ _ _ _ ?_ .nil
          cases h1 with
          | map _ b hv => exact .map 0 b (by simpa using hv)
      | cons b l' => cases n <;> (unfold subL at hp; exact no hp)
    | cons a l ih =>
      intro l' vs hA hp
      cases l' with
      | nil => cases n <;> (unfold subL at hp; exact no hp)
      | cons b l' =>
        cases n with
        | zero => unfold subL at hp; exact no hp
        | succ n =>
          unfold subL at hp
          split at hp
          · cases hA with
            | cons _ v _ us h1 h2 =>
              refine .cons _ _ _ _ ?_ (ih h2 fun p hm => hp p (List.mem_append_right _ hm))
              exact (h1.ren M fun p hm => hp p (List.mem_append_left _ hm)).mono (fun _ h => h) (fun _ _ => rfl) fun r v hv => by cases hv
          · exact no hp
  have only : ∀ n c, lookS [(0, some c0)] n = some c → n = 0 ∧ c = c0 := fun n c hc => by
    unfold lookS at hc
    simp only [find] at hc
    split at hc
    · rename_i hb; have := Nat.eq_of_beq_eq_true hb; subst this; cases hc; exact ⟨rfl, rfl⟩
    · cases hc
  refine ⟨fun b => blk v0 = some b, main hA hp, ⟨M.base, fun n c hc => ?_, fun n n' c c' v v' b k1 k2 _ _ _ _ => ?_, fun n c v b k1 k2 k3 => ?_⟩, fun n hn => ?_, fun _ h => h, fun _ h => .inl h, fun b hb => ?_, fun b hb => ⟨q, c0, v0, hk, hq, hv0, hb⟩⟩
  · obtain ⟨rfl, rfl⟩ := only n c hc
    exact ⟨v0, by simpa using hv0, hh0.map hm⟩
  · rw [(only n c k1).1, (only n' c' k2).1]
  · obtain ⟨rfl, rfl⟩ := only n c k1
    exact M.off q _ v b hq (by simpa using k2) k3
  · have : n ≠ 0 := by omega
    simp [this]
  · obtain ⟨n, c, v, k1, k2, k3⟩ := hb
    obtain ⟨rfl, rfl⟩ := only n c k1
    have k2 : ρ q = some v := by simpa using k2
    rw [hv0] at k2; cases k2; exact k3
theorem con_map {P : Program} {E : Env} (EO : EnvOk P C gl E) {f : Nat} {fn : Func} {c : Code} (hf : P.funcs[f]? = some fn) (hb : fn.body = some c) {ls : List (Nat × LSum)} {n : Nat} {h : Nat → Option Cont}
    (M : Mem C gl W R ρ h) {l l' : List SVal} {q : Nat} {vs : List Value} (hA : DenA C W R ρ (l ++ [.map q]) vs) {next : Nat} {r : ORes} {c0 c1 : Cont} (hq : h q = some c0) (hm : (isMapC c0 && isMapC c1) = true) (hr : plain r.v = true ∧ r.ws = [(q, some c1)] ∧ r.k = 0) (hold : E.old = [0]) (hnt : fn.ntmps = n)
    (hargs : ∀ p ∈ subL C.tAt none' [] deep l l', p) (hlen : Nat.ble (l'.length + 1) n = true)
    (HL : ∀ W R ρ0 own0, HownOk E own0 ρ0 → ∀ b ∈ loopsOf c, ∀ L, find (headId b) ls = some L → LOk P E C gl W R own0 ρ0 b L)
    (hrun : (run E ls c { fr := numb 0 (l' ++ [.map 0]), hp := [(0, some c0)], next := 1, sz := n } (ends E fn.results.toList)).sat fun _ s => fits E s { fr := [(0, r.v)], hp := [(0, some c1)], next := 1, sz := 1 }) :
    Calls P f vs.toArray W fun e W' => ∃ v R' ρ', e = .returned v ∧ Trans C gl W R ρ h r.ws W' R' ρ' ∧ Den C W' R' ρ' r.v v := by
  subst hnt
  obtain ⟨h1, h2, h3⟩ := hr
  rw [Bool.and_eq_true] at hm
  obtain ⟨v0, hv0, hh0⟩ := M.at_ q _ hq
  obtain ⟨own0, S⟩ := Enters.map M (r := r) hq hm.1 (by rw [h2]; simp [keys]) hA hargs
  refine con_run EO hf hb M (next := next) (fun j hj => by rw [h3] at hj; cases hj) S (by simpa using hlen) HL ?_
  have fq : find q [(q, 0)] = some 0 := by simp [find, Nat.beq_refl]
  refine sat_mono (fun e s hs => ⟨_, _, [(q, 0)], hs, ?_, ?_, ?_, rfl⟩) hrun
  · intro W R ρ2 ρ3 u M2 ha he _ _ hd
    exact hd.free (fun _ h => h) h1
  · intro k c hc
    rw [h2] at hc
    obtain ⟨rfl, rfl⟩ := find_one hc
    exact .inr ⟨0, c1, c1, fq, rfl, rfl, fun W R ρ2 ρ3 u M2 ha he _ _ hh => hh.map hm.2⟩
  · intro k q' hq'
    obtain ⟨rfl, rfl⟩ := find_one hq'
    exact .inl ⟨by rw [hold]; simp, by simp, by rw [hv0]; simp⟩
end
end Go.Sy

set_option linter.unusedVariables false
set_option linter.unusedSimpArgs false
namespace Go.Sy
open Go.RowKit
inductive Shp where
  | any
  | ro (t : RT)
  | err
  | agg (l : List Shp)
def nrmRo (t : RT) : SVal → Acc (SVal × List Nat)
  | .ro t' l => match decEq t' t with | .isTrue h => .ret (.ro t (h ▸ l), []) | .isFalse _ => .fail "ro"
  | .roN t' l => match decEq t' t with | .isTrue h => .ret (.ro t (h ▸ l), []) | .isFalse _ => .fail "ro"
  | .nilslice => .ret (.ro t [], [])
  | .own q => .look q fun
    | some (.recs t' l) => match decEq t' t with | .isTrue h => .ret (.ro t (h ▸ l), [q]) | .isFalse _ => .fail "ro"
    | _ => .fail "ro"
  | .view t'' q k n => .look q fun
    | some (.recs t' l) => match decEq t' t, decEq t'' t with | .isTrue h, .isTrue _ => .ret (.ro t ((h ▸ l).drop k |>.take n), [q]) | _, _ => .fail "ro"
    | _ => .fail "ro"
  | _ => .fail "ro"
mutual
def nrm : Shp → SVal → Acc (SVal × List Nat)
  | .any, x => .ret (x, [])
  | .ro t, x => nrmRo t x
  | .err, x => match x with
    | .nilIface => .ret (.err .fine, [])
    | .err e => .ret (.err e, [])
    | _ => .fail "err"
  | .agg ss, x => match x with
    | .agg l => nrmL ss l >>= fun p => .ret (.agg p.1, p.2)
    | _ => .fail "agg"
def nrmL : List Shp → List SVal → Acc (List SVal × List Nat)
  | [], [] => .ret ([], [])
  | s :: ss, x :: l => nrm s x >>= fun p => nrmL ss l >>= fun q => .ret (p.1 :: q.1, p.2 ++ q.2)
  | _, _ => .fail "arguments"
end
def RK (K : List Nat) (ρ : Nat → Option Value) (R : Nat → Prop) (b : Nat) : Prop := R b ∨ ∃ q v, q ∈ K ∧ ρ q = some v ∧ blk v = some b
def without (h : Nat → Option Cont) (K : List Nat) : Nat → Option Cont := fun n => match memN n K with | true => none | false => h n
def hide {α : Type} (K : List Nat) : Acc α → Acc α
  | .ret a => .ret a
  | .fail s => .fail s
  | .look r k => match memN r K with
    | true => hide K (k none)
    | false => .look r fun c => hide K (k c)
theorem hide_ok {α : Type} {K : List Nat} {h : Nat → Option Cont} {a : α} {x : Acc α} : ∀ {l l' : List Nat}, (hide K x).run h l = .ok (a, l') → ∀ l1, ∃ l2, x.run (without h K) l1 = .ok (a, l2) := by
  induction x with
  | ret b => intro l l' hr l1; simp only [hide, Acc.run, Except.ok.injEq, Prod.mk.injEq] at hr ⊢; exact ⟨l1, hr.1, rfl⟩
  | fail s => intro l l' hr; simp [hide, Acc.run] at hr
  | look r k ih =>
    intro l l' hr l1
    unfold hide at hr
    show ∃ l2, (k (without h K r)).run (without h K) (r :: l1) = .ok (a, l2)
    split at hr
    · rename_i hm
      have : without h K r = none := by unfold without; rw [hm]
      rw [this]; exact ih none hr _
    · rename_i hm
      have : without h K r = h r := by unfold without; rw [hm]
      rw [this]; exact ih (h r) hr _
section
variable {C : Ctx} {gl : List (Nat × SVal)} {W W' : World} {R R' : Nat → Prop} {ρ ρ' : Nat → Option Value} {h : Nat → Option Cont}
theorem RK.mono {K K' : List Nat} (hK : ∀ q ∈ K, q ∈ K') : ∀ b, RK K ρ R b → RK K' ρ R b := fun b hb => hb.imp id fun ⟨q, v, h1, h2⟩ => ⟨q, v, hK q h1, h2⟩
theorem row_ro (M : Mem C gl W R ρ h) {q : Nat} {t : RT} {l : List t.ty} (hh : h q = some (.recs t l)) {K : List Nat} (hq : q ∈ K) {A : Option Addr} {n cap : Nat} (hv : ρ q = some (.slice A n cap)) :
    n = l.length ∧ l.length ≤ cap ∧ cap ≤ maxLen ∧ ∃ vs, DenL C W R ρ (l.flatMap t.enc) vs ∧ (l ≠ [] → ∃ b, A = some ⟨b, 0, none⟩ ∧ RK K ρ R b ∧ CellsAt W b 0 vs) ∧ (A = none → cap = 0) := by
  have M1 : Mem C gl W R ρ (fun n => if n = q then h q else none) := M.weaken fun r c hc => by
    by_cases e : r = q
    · subst e; simpa using hc
    · simp [e] at hc
  obtain ⟨e1, e2, e3, vs, e4, e5, e6⟩ := frozen_row (σ := []) M1 (r := q) rfl (by simpa using hh) hv
  refine ⟨e1, e2, e3, vs, e4, fun hl => ?_, e6⟩
  obtain ⟨b, g1, g2, g3⟩ := e5 hl
  refine ⟨b, g1, ?_, g3⟩
  rcases g2 with g2 | ⟨n', c, v, _, k1, k2, k3⟩
  · exact .inl g2
  · by_cases e : n' = q
    · subst e; exact .inr ⟨_, v, hq, k2, k3⟩
    · simp [e] at k1
theorem nrmRo_ok (M : Mem C gl W R ρ h) {t : RT} {x y : SVal} {K : List Nat} {l l' : List Nat} (hr : (nrmRo t x).run h l = .ok ((y, K), l')) {v : Value} (hd : Den C W R ρ x v) :
    ∀ K', (∀ q ∈ K, q ∈ K') → Den C W (RK K' ρ R) ρ y v ∧ y.isArr = false ∧ ∀ q ∈ K, ∃ c, h q = some c := by
  intro K' hK
  have flat : ∀ {t : RT} {l : List t.ty} {vs : List Value}, DenL C W R ρ (l.flatMap t.enc) vs → DenL C W (RK K' ρ R) ρ (l.flatMap t.enc) vs := fun {t l vs} hd => hd.free (fun _ h => .inl h) (flat_plain t l)
  unfold nrmRo at hr
  split at hr
  · rename_i t' x'
    split at hr
    · have e := ‹t' = t›
      subst e
      simp only [Acc.run, Except.ok.injEq, Prod.mk.injEq] at hr
      obtain ⟨⟨rfl, rfl⟩, _⟩ := hr
      exact ⟨hd.mono (fun _ h => .inl h) (fun _ _ => rfl) (fun _ _ h => h), rfl, fun q hq => by cases hq⟩
    · simp [Acc.run] at hr
  · rename_i t' x'
    split at hr
    · have e := ‹t' = t›
      subst e
      simp only [Acc.run, Except.ok.injEq, Prod.mk.injEq] at hr
      obtain ⟨⟨rfl, rfl⟩, _⟩ := hr
      cases hd with
      | roN _ _ a cap vs h1 h2 h3 h4 =>
        refine ⟨.ro _ _ _ cap vs h1 h2 (flat h3) (fun hl => ?_) (fun h => by cases h), rfl, fun q hq => by cases hq⟩
        obtain ⟨b, off, e1, e2, e3⟩ := h4 hl
        exact ⟨b, off, by rw [e1], .inl e2, e3⟩
    · simp [Acc.run] at hr
  · simp only [Acc.run, Except.ok.injEq, Prod.mk.injEq] at hr
    obtain ⟨⟨rfl, rfl⟩, _⟩ := hr
    cases hd
    exact ⟨.ro _ [] none 0 [] (Nat.le_refl _) (Nat.zero_le _) .nil (fun h => (h rfl).elim) (fun _ => rfl), rfl, fun q hq => by cases hq⟩
  · rename_i q0
    simp only [Acc.run] at hr
    split at hr
    · rename_i t' x' hq
      split at hr
      · have e := ‹t' = t›
        subst e
        simp only [Acc.run, Except.ok.injEq, Prod.mk.injEq] at hr
        obtain ⟨⟨rfl, rfl⟩, _⟩ := hr
        cases hd with
        | own _ A n cap hv =>
          obtain ⟨rfl, e2, e3, vs, e4, e5, e6⟩ := row_ro M hq (hK q0 (List.mem_singleton.2 rfl)) hv
          refine ⟨.ro _ _ A cap vs e2 e3 (flat e4) (fun hl => ?_) e6, rfl, fun q hq' => by rw [List.mem_singleton.1 hq']; exact ⟨_, hq⟩⟩
          obtain ⟨b, g1, g2, g3⟩ := e5 hl
          exact ⟨b, 0, g1, g2, g3⟩
      · simp [Acc.run] at hr
    · simp [Acc.run] at hr
  · rename_i t'' q0 k n
    simp only [Acc.run] at hr
    split at hr
    · rename_i t' x' hq
      split at hr
      · have e := ‹t' = t›
        have e' := ‹t'' = t›
        subst e
        subst e'
        simp only [Acc.run, Except.ok.injEq, Prod.mk.injEq] at hr
        obtain ⟨⟨rfl, rfl⟩, _⟩ := hr
        cases hd with
        | view _ _ _ _ A A' m cap cap' hv h1 h2 h3 h4 h5 =>
          obtain ⟨rfl, e2, e3, vs, e4, e5, e6⟩ := row_ro M hq (hK q0 (List.mem_singleton.2 rfl)) hv
          have hlen : ((x'.drop k).take n).length = n := by simp; omega
          have := Den.ro (C := C) (W := W) (R := RK K' ρ R) (ρ := ρ) t'' ((x'.drop k).take n) A' cap' _ (by rw [hlen]; omega) h3 (flat (e4.sub k n)) ?_ h5
          · rw [hlen] at this
            exact ⟨this, rfl, fun q hq' => by rw [List.mem_singleton.1 hq']; exact ⟨_, hq⟩⟩
          · intro hne
            have hpos : 0 < n := by rw [← hlen]; exact List.length_pos_iff.2 hne
            obtain ⟨b, g1, g2⟩ := h4 hpos
            obtain ⟨b', g3, g4, g5⟩ := e5 (by rintro rfl; simp at hne)
            rw [g1] at g3; cases g3
            exact ⟨b, k * t''.w, g2, g4, by simpa using (g5.drop (k * t''.w)).take (n * t''.w)⟩
      · simp [Acc.run] at hr
    · simp [Acc.run] at hr
  · simp [Acc.run] at hr
mutual
theorem nrm_ok (M : Mem C gl W R ρ h) : ∀ (S : Shp) {x y : SVal} {K : List Nat} {l l' : List Nat}, (nrm S x).run h l = .ok ((y, K), l') → ∀ {v : Value}, Den C W R ρ x v →
    ∀ K', (∀ q ∈ K, q ∈ K') → Den C W (RK K' ρ R) ρ y v ∧ y.isArr = x.isArr ∧ ∀ q ∈ K, ∃ c, h q = some c
  | .any, x, y, K, l, l', hr, v, hd, K', hK => by
    unfold nrm at hr
    simp only [Acc.run, Except.ok.injEq, Prod.mk.injEq] at hr
    obtain ⟨⟨rfl, rfl⟩, _⟩ := hr
    exact ⟨hd.mono (fun _ h => .inl h) (fun _ _ => rfl) (fun _ _ h => h), rfl, fun q hq => by cases hq⟩
  | .ro t, x, y, K, l, l', hr, v, hd, K', hK => by
    unfold nrm at hr
    obtain ⟨h1, h2, h3⟩ := nrmRo_ok M hr hd K' hK
    refine ⟨h1, ?_, h3⟩
    rw [h2]
    unfold nrmRo at hr
    cases x <;> first | rfl | (simp [Acc.run] at hr)
  | .err, x, y, K, l, l', hr, v, hd, K', hK => by
    unfold nrm at hr
    split at hr
    · simp only [Acc.run, Except.ok.injEq, Prod.mk.injEq] at hr
      obtain ⟨⟨rfl, rfl⟩, _⟩ := hr
      cases hd
      exact ⟨.fine, rfl, fun q hq => by cases hq⟩
    · simp only [Acc.run, Except.ok.injEq, Prod.mk.injEq] at hr
      obtain ⟨⟨rfl, rfl⟩, _⟩ := hr
      exact ⟨hd.mono (fun _ h => .inl h) (fun _ _ => rfl) (fun _ _ h => h), rfl, fun q hq => by cases hq⟩
    · simp [Acc.run] at hr
  | .agg ss, x, y, K, l, l', hr, v, hd, K', hK => by
    unfold nrm at hr
    split at hr
    · rename_i xs
      obtain ⟨⟨ys, K1⟩, l1, h1, h2⟩ := Acc.bind_ok hr
      simp only [Acc.run, Except.ok.injEq, Prod.mk.injEq] at h2
      obtain ⟨⟨rfl, rfl⟩, _⟩ := h2
      cases hd with
      | agg _ vs hl =>
        obtain ⟨g1, g2⟩ := (nrmL_ok M ss h1 K' hK).1 hl
        exact ⟨.agg _ vs g1, rfl, g2⟩
    · simp [Acc.run] at hr
theorem nrmL_ok (M : Mem C gl W R ρ h) : ∀ (ss : List Shp) {xs ys : List SVal} {K : List Nat} {l l' : List Nat}, (nrmL ss xs).run h l = .ok ((ys, K), l') → ∀ K', (∀ q ∈ K, q ∈ K') →
    (∀ {vs : List Value}, DenL C W R ρ xs vs → DenL C W (RK K' ρ R) ρ ys vs ∧ ∀ q ∈ K, ∃ c, h q = some c) ∧ (∀ {vs : List Value}, DenA C W R ρ xs vs → DenA C W (RK K' ρ R) ρ ys vs ∧ ∀ q ∈ K, ∃ c, h q = some c)
  | [], xs, ys, K, l, l', hr, K', hK => by
    unfold nrmL at hr
    cases xs with
    | nil =>
      simp only [Acc.run, Except.ok.injEq, Prod.mk.injEq] at hr
      obtain ⟨⟨rfl, rfl⟩, _⟩ := hr
      exact ⟨fun hl => by cases hl; exact ⟨.nil, fun q hq => by cases hq⟩, fun hl => by cases hl; exact ⟨.nil, fun q hq => by cases hq⟩⟩
    | cons x xs => simp [Acc.run] at hr
  | s :: ss, xs, ys, K, l, l', hr, K', hK => by
    unfold nrmL at hr
    cases xs with
    | nil => simp [Acc.run] at hr
    | cons x xs =>
      simp only at hr
      obtain ⟨⟨y, K1⟩, l1, h1, h2⟩ := Acc.bind_ok hr
      obtain ⟨⟨zs, K2⟩, l2, h3, h4⟩ := Acc.bind_ok h2
      simp only [Acc.run, Except.ok.injEq, Prod.mk.injEq] at h4
      obtain ⟨⟨rfl, rfl⟩, _⟩ := h4
      have k1 : ∀ q ∈ K1, q ∈ K' := fun q hq => hK q (List.mem_append_left _ hq)
      have k2 : ∀ q ∈ K2, q ∈ K' := fun q hq => hK q (List.mem_append_right _ hq)
      obtain ⟨ihL, ihA⟩ := nrmL_ok M ss h3 K' k2
      have both : (∀ q ∈ K1, ∃ c, h q = some c) → (∀ q ∈ K2, ∃ c, h q = some c) → ∀ q ∈ K1 ++ K2, ∃ c, h q = some c := fun a b q hq => by
        rcases List.mem_append.1 hq with hq | hq
        · exact a q hq
        · exact b q hq
      refine ⟨fun {vs} hl => ?_, fun {vs} hl => ?_⟩
      · cases hl with
        | one _ v _ us a1 a2 a3 a4 =>
          obtain ⟨g1, g2, g3⟩ := nrm_ok M s h1 a3 K' k1
          obtain ⟨g4, g5⟩ := ihL a4
          exact ⟨.one _ _ _ _ (by rw [g2]; exact a1) a2 g1 g4, both g3 g5⟩
        | arr t n xs us _ us' a1 a2 a3 =>
          obtain ⟨g1, g2, g3⟩ := nrm_ok M s h1 (.arr t n xs us a1 a2) K' k1
          obtain ⟨g4, g5⟩ := ihL a3
          refine ⟨?_, both g3 g5⟩
          cases y with
          | arr t' n' xs' =>
            cases g1 with
            | arr _ _ _ vs' f1 f2 => exact .arr _ _ _ _ _ _ f1 f2 g4
          | _ => simp [SVal.isArr] at g2
      · cases hl with
        | cons _ v _ us a1 a2 =>
          obtain ⟨g1, g2, g3⟩ := nrm_ok M s h1 a1 K' k1
          obtain ⟨g4, g5⟩ := ihA a2
          exact ⟨.cons _ _ _ _ g1 g4, both g3 g5⟩
end
theorem Mem.freeze (M : Mem C gl W R ρ h) {K : List Nat} (hK : ∀ q ∈ K, ∃ c, h q = some c) : Mem C gl W (RK K ρ R) ρ (without h K) := by
  have wo : ∀ {n c}, without h K n = some c → h n = some c ∧ n ∉ K := fun {n c} hc => by
    unfold without at hc
    split at hc
    · cases hc
    · rename_i hm; exact ⟨hc, fun hn => by rw [memN_iff.2 hn] at hm; cases hm⟩
  refine ⟨M.base.mono (fun _ h => .inl h) (fun b hb => ?_) fun _ _ => rfl, fun r c hc => ?_, fun r r' c c' v v' b k1 k2 k3 k4 k5 k6 => M.apart r r' c c' v v' b (wo k1).1 (wo k2).1 k3 k4 k5 k6, fun r c v b k1 k2 k3 k4 => ?_⟩
  · rcases hb with hb | ⟨q, v, h1, h2, h3⟩
    · exact M.base.inR b hb
    · obtain ⟨c, hc⟩ := hK q h1
      obtain ⟨v', hv', hh⟩ := M.at_ q c hc
      rw [h2] at hv'; cases hv'
      exact hh.lt h3
  · obtain ⟨v, hv, hh⟩ := M.at_ r c (wo hc).1
    exact ⟨v, hv, hh.mono (fun _ h => .inl h) (fun _ _ => rfl) (fun _ _ h => h) fun _ _ => rfl⟩
  · rcases k4 with hb | ⟨q, v', h1, h2, h3⟩
    · exact M.off r c v b (wo k1).1 k2 k3 hb
    · obtain ⟨c', hc'⟩ := hK q h1
      have := M.apart q r c' c v' v b hc' (wo k1).1 h2 k2 h3 k3
      subst this
      exact (wo k1).2 h1
def gone : List Nat → List (Nat × Option Cont)
  | [] => []
  | q :: l => (q, none) :: gone l
theorem gone_find {K : List Nat} {n : Nat} {c : Option Cont} (h : find n (gone K) = some c) : n ∈ K ∧ c = none := by
  induction K with
  | nil => cases h
  | cons q K ih =>
    simp only [gone, find] at h
    split at h
    · rename_i hb; cases h; exact ⟨by rw [Nat.eq_of_beq_eq_true hb]; exact List.mem_cons_self .., rfl⟩
    · exact ⟨List.mem_cons_of_mem _ (ih h).1, (ih h).2⟩
theorem gone_none {K : List Nat} {n : Nat} (h : find n (gone K) = none) : n ∉ K := by
  induction K with
  | nil => simp
  | cons q K ih =>
    simp only [gone, find] at h
    split at h
    · cases h
    · rename_i hb
      intro hm
      rcases List.mem_cons.1 hm with rfl | hm
      · rw [Nat.beq_refl] at hb; cases hb
      · exact ih h hm
theorem gone_keys {K : List Nat} {n : Nat} : n ∈ keys (gone K) ↔ n ∈ K := by
  induction K with
  | nil => simp [gone, keys]
  | cons q K ih => simp only [gone, keys, List.map_cons, List.mem_cons] at ih ⊢; rw [ih]
theorem Trans.thaw (M : Mem C gl W R ρ h) {K : List Nat} (hK : ∀ q ∈ K, ∃ c, h q = some c) {ws : List (Nat × Option Cont)} (T : Trans C gl W (RK K ρ R) ρ (without h K) ws W' R' ρ') : Trans C gl W R ρ h (gone K ++ ws) W' R' ρ' := by
  have kk : ∀ n, n ∈ keys (gone K ++ ws) ↔ n ∈ K ∨ n ∈ keys ws := fun n => by
    have := gone_keys (K := K) (n := n)
    simp only [keys, List.map_append, List.mem_append] at this ⊢
    rw [this]
  have wo : ∀ {n c}, without h K n = some c → h n = some c := fun {n c} hc => by
    unfold without at hc
    split at hc
    · cases hc
    · exact hc
  have up : ∀ r c, upd h (gone K ++ ws) r = some c → upd (without h K) ws r = some c := fun r c hc => by
    unfold upd at hc ⊢
    rw [find_append] at hc
    cases hf : find r (gone K) with
    | some c' => rw [hf] at hc; have := (gone_find hf).2; subst this; cases hc
    | none =>
      rw [hf] at hc
      simp only at hc
      cases hf2 : find r ws with
      | some c' => rw [hf2] at hc; exact hc
      | none =>
        rw [hf2] at hc
        show without h K r = some c
        unfold without
        have : memN r K = false := by
          cases hm : memN r K with
          | false => rfl
          | true => exact (gone_none hf (memN_iff.1 hm)).elim
        rw [this]; exact hc
  refine ⟨T.mem.weaken up, T.os, T.tape, T.output, T.size, fun b hb => T.Rm b (.inl hb), fun b hb => ?_, T.ρm, fun r v hv => (T.ρn r v hv).imp id fun ⟨h1, h2⟩ => ⟨h1, (kk r).2 (.inr h2)⟩, fun k hk hx => ?_, fun r c v b k1 k2 k3 => ?_⟩
  · rcases T.Rn b hb with (hb | ⟨q, v, h1, h2, h3⟩) | hb | ⟨r, c, v, h1, h2, h3, h4⟩
    · exact .inl hb
    · obtain ⟨c, hc⟩ := hK q h1
      exact .inr (.inr ⟨q, c, v, (kk q).2 (.inl h1), hc, h2, h3⟩)
    · exact .inr (.inl hb)
    · exact .inr (.inr ⟨r, c, v, (kk r).2 (.inr h1), wo h2, h3, h4⟩)
  · exact T.keep k hk fun r c v h1 h2 h3 => hx r c v ((kk r).2 (.inr h1)) (wo h2) h3
  · rcases T.owned r c v b (up r c k1) k2 k3 with ⟨r0, c0, v0, h1, h2, h3, h4⟩ | h1
    · exact .inl ⟨r0, c0, v0, h1.imp id fun h1 => (kk r0).2 (.inr h1), wo h2, h3, h4⟩
    · exact .inr h1
def frz (ss : List Shp) (k : List SVal → Nat → Acc ORes) : List SVal → Nat → Acc ORes := fun a n =>
  nrmL ss a >>= fun p => hide p.2 (k p.1 n) >>= fun r => .ret { r with ws := gone p.2 ++ r.ws }
def pure1 : SVal → Bool
  | .int .. | .bool _ | .str _ | .nilptr | .nilslice | .nilIface | .nilFunc => true
  | _ => false
def pureL : List SVal → Bool
  | [] => true
  | s :: l => pure1 s && pureL l
def pureV : SVal → Bool
  | .tuple l => pureL l
  | .agg l => pureL l
  | s => pure1 s
def bor (ss : List Shp) (k : List SVal → Nat → Acc ORes) : List SVal → Nat → Acc ORes := fun a n =>
  nrmL ss a >>= fun p => hide p.2 (k p.1 n) >>= fun r => match r.ws, r.k.beq 0 && pureV r.v with
    | [], true => .ret r
    | _, _ => .fail "lent"
theorem pure1_ok {ρ ρ' : Nat → Option Value} {s : SVal} {v : Value} (h : Den C W R ρ s v) (hp : pure1 s = true) : Den C W' R' ρ' s v ∧ s.isArr = false := by
  cases h <;> first | (cases hp; done) | skip
  · exact ⟨.int _ _ (by assumption), rfl⟩
  · exact ⟨.bool _, rfl⟩
  · exact ⟨.str _ (by assumption), rfl⟩
  · exact ⟨.nilptr, rfl⟩
  · exact ⟨.nilslice, rfl⟩
  · exact ⟨.nilFunc, rfl⟩
  · exact ⟨.nilIface, rfl⟩
theorem pureL_ok {ρ ρ' : Nat → Option Value} {l : List SVal} {vs : List Value} (h : DenL C W R ρ l vs) (hp : pureL l = true) : DenL C W' R' ρ' l vs := by
  induction l generalizing vs with
  | nil => cases h; exact .nil
  | cons s l ih =>
    simp only [pureL, Bool.and_eq_true] at hp
    cases h with
    | one _ v _ vs h1 h2 h3 h4 => exact .one s v l vs h1 h2 (pure1_ok h3 hp.1).1 (ih h4 hp.2)
    | arr t n xs us _ vs h1 h2 h3 => have := hp.1; simp [pure1] at this
theorem pureA_ok {ρ ρ' : Nat → Option Value} {l : List SVal} {vs : List Value} (h : DenA C W R ρ l vs) (hp : pureL l = true) : DenA C W' R' ρ' l vs := by
  induction l generalizing vs with
  | nil => cases h; exact .nil
  | cons s l ih =>
    simp only [pureL, Bool.and_eq_true] at hp
    cases h with
    | cons _ v _ vs h1 h2 => exact .cons s v l vs (pure1_ok h1 hp.1).1 (ih h2 hp.2)
theorem pureV_ok {ρ ρ' : Nat → Option Value} {s : SVal} {v : Value} (h : Den C W R ρ s v) (hp : pureV s = true) : Den C W' R' ρ' s v := by
  unfold pureV at hp
  split at hp
  · cases h with | tuple _ vs h => exact .tuple _ vs (pureA_ok h hp)
  · cases h with | agg _ vs h => exact .agg _ vs (pureL_ok h hp)
  · exact (pure1_ok h hp).1
theorem frz_ok {P : Program} {f : Nat} {k : List SVal → Nat → Acc ORes} (K : ConOk P C gl f k) (ss : List Shp) : ConOk P C gl f (frz ss k) where
  call := K.call
  does {W R ρ h args vs next r l l'} M hA hr hv hn := by
    unfold frz at hr
    obtain ⟨⟨a', N⟩, l1, h1, h2⟩ := Acc.bind_ok hr
    obtain ⟨r0, l2, h3, h4⟩ := Acc.bind_ok h2
    simp only [Acc.run, Except.ok.injEq, Prod.mk.injEq] at h4
    obtain ⟨rfl, _⟩ := h4
    obtain ⟨hA', hN⟩ := (nrmL_ok M ss h1 N (fun _ h => h)).2 hA
    obtain ⟨l3, h5⟩ := hide_ok h3 []
    refine (K.does (M.freeze hN) hA' h5 hv hn).mono fun e W' ⟨v, R', ρ', e1, T, d⟩ => ⟨v, R', ρ', e1, T.thaw M hN, d⟩
theorem bor_ok {P : Program} {f : Nat} {k : List SVal → Nat → Acc ORes} (K : ConOk P C gl f k) (ss : List Shp) : ConOk P C gl f (bor ss k) where
  call := K.call
  does {W R ρ h args vs next r l l'} M hA hr hv hn := by
    unfold bor at hr
    obtain ⟨⟨a', N⟩, l1, h1, h2⟩ := Acc.bind_ok hr
    obtain ⟨r0, l2, h3, h4⟩ := Acc.bind_ok h2
    split at h4
    · rename_i hws hp
      simp only [Acc.run, Except.ok.injEq, Prod.mk.injEq] at h4
      obtain ⟨rfl, _⟩ := h4
      rw [Bool.and_eq_true] at hp
      obtain ⟨hA', hN⟩ := (nrmL_ok M ss h1 N (fun _ h => h)).2 hA
      obtain ⟨l3, h5⟩ := hide_ok h3 []
      refine (K.does (M.freeze hN) hA' h5 hv hn).mono fun e W' ⟨v, R', ρ', e1, T, d⟩ => ⟨v, R, ρ, e1, ?_, pureV_ok d hp.2⟩
      rw [hws]
      refine Trans.gen M T.os T.tape T.output T.size (fun _ _ h => h) (fun _ _ h => .inl h) (fun k hk hx => T.keep k hk fun r c v h1 => by rw [hws] at h1; cases h1) (fun _ r c hf => by cases hf) (fun r r' c c' hf => by cases hf)
    · simp [Acc.run] at h4
end
end Go.Sy

