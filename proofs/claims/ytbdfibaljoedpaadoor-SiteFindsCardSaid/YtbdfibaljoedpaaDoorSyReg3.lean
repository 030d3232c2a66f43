/- Regions: one operation. -/
import Derived.Test.YtbdfibaljoedpaaDoorSyReg2
import Derived.Orders
set_option linter.unusedVariables false
set_option linter.unusedSimpArgs false
namespace Go.Sy
open Go.RowKit

section
variable {E : Env} {ops : List Oper} {fr : List (Nat × SVal)} {hp : List (Nat × Option Cont)} {sz next0 next1 : Nat} {recs : List Rec}

theorem isDst_iff {o : Option Nat} {d : Nat} : isDst o d = true ↔ o = some d := by
  cases o with
  | none => simp [isDst]
  | some e => exact ⟨fun h => congrArg some (Nat.eq_of_beq_eq_true h), fun h => by cases h; exact Nat.beq_refl _⟩

theorem Built.le (B : Built E ops fr hp sz next0 recs next1) : next0 ≤ next1 := by
  induction B with
  | nil => exact Nat.le_refl _
  | cons l r o next hB hA hn ih => omega

theorem Built.mem (B : Built E ops fr hp sz next0 recs next1) : ∀ r ∈ recs, r.idx < recs.length ∧ r.next + r.k ≤ next1 ∧ next0 ≤ r.next := by
  induction B with
  | nil => intro r h; cases h
  | cons l r o next hB hA hn ih =>
    intro r' hr'
    have hle := hB.le
    rcases List.mem_cons.1 hr' with rfl | hr'
    · have := hA.idx
      simp only [List.length_cons]; omega
    · have := ih r' hr'
      simp only [List.length_cons]; omega

theorem Built.inj (B : Built E ops fr hp sz next0 recs next1) : ∀ {r q}, r ∈ recs → q ∈ recs → r.idx = q.idx → r = q := by
  induction B with
  | nil => intro r q h; cases h
  | cons l r o next hB hA hn ih =>
    intro a b ha hb he
    have hi := hA.idx
    rcases List.mem_cons.1 ha with ea | ha' <;> rcases List.mem_cons.1 hb with eb | hb'
    · rw [ea, eb]
    · have := (hB.mem b hb').1; rw [ea] at he; omega
    · have := (hB.mem a ha').1; rw [eb] at he; omega
    · exact ih ha' hb' he

theorem Built.split (B : Built E ops fr hp sz next0 recs next1) : ∀ {r}, r ∈ recs → ∃ pre l o, recs = pre ++ r :: l ∧ Built E ops fr hp sz next0 l r.next ∧ Added E ops fr hp sz l r o ∧ (∀ q ∈ pre, r.idx < q.idx ∧ r.next + r.k ≤ q.next) ∧ r.next + r.k ≤ next1 := by
  induction B with
  | nil => intro r h; cases h
  | cons l r o next hB hA hn ih =>
    intro r' hr'
    rcases List.mem_cons.1 hr' with er | hr2
    · subst er
      exact ⟨[], l, o, rfl, (by rw [hn]; exact hB), hA, (fun q hq => by cases hq), (by omega)⟩
    · obtain ⟨pre, l', o', e, h1, h2, h3, h4⟩ := ih hr2
      refine ⟨r :: pre, l', o', (by rw [e]; rfl), h1, h2, fun q hq => ?_, (by omega)⟩
      rcases List.mem_cons.1 hq with eq | hq2
      · have := hA.idx; have := (hB.mem r' hr2); rw [eq]; omega
      · exact h3 q hq2

theorem lastOf_mem {l : List Rec} {d : Nat} {r : Rec} (h : lastOf l d = some r) : r ∈ l ∧ isDst r.dst d = true := by
  induction l with
  | nil => cases h
  | cons q l ih =>
    simp only [lastOf] at h
    split at h
    · rename_i hd; cases h; exact ⟨List.mem_cons_self .., hd⟩
    · exact ⟨List.mem_cons_of_mem _ (ih h).1, (ih h).2⟩

theorem Built.last (B : Built E ops fr hp sz next0 recs next1) : ∀ {r d}, r ∈ recs → isDst r.dst d = true → lastOf recs d = some r := by
  induction B with
  | nil => intro r d h; cases h
  | cons l r o next hB hA hn ih =>
    intro q d hq hd
    rcases List.mem_cons.1 hq with rfl | hq
    · simp only [lastOf, hd]
    · have hl := ih hq hd
      cases hrd : isDst r.dst d with
      | false => simp only [lastOf, hrd]; exact hl
      | true =>
        have e := isDst_iff.1 hrd
        have hf := hA.fit
        rw [← hA.dst, e] at hf
        simp only [dstFit, slotOf_last, hl, Option.map_some, Bool.and_false] at hf
        cases hf

theorem Built.dst_lt (B : Built E ops fr hp sz next0 recs next1) {r d} (hr : r ∈ recs) (hd : isDst r.dst d = true) : d < sz := by
  obtain ⟨pre, l, o, _, _, hA, _⟩ := B.split hr
  have hf := hA.fit
  rw [← hA.dst, isDst_iff.1 hd] at hf
  simp only [dstFit, Bool.and_eq_true] at hf
  exact Nat.le_of_ble_eq_true hf.1

theorem Built.before (B : Built E ops fr hp sz next0 recs next1) {r} {pre l : List Rec} (e : recs = pre ++ r :: l) (hp1 : ∀ q ∈ pre, r.idx < q.idx) (hl : ∀ q ∈ l, q.idx < r.idx) :
    recs.filter (fun q => decide (q.idx < r.idx)) = l := by
  rw [e, List.filter_append, List.filter_cons]
  have h1 : pre.filter (fun q => decide (q.idx < r.idx)) = [] := List.filter_eq_nil_iff.2 fun q hq => by have := hp1 q hq; simp; omega
  have h2 : l.filter (fun q => decide (q.idx < r.idx)) = l := List.filter_eq_self.2 fun q hq => by have := hl q hq; simpa using this
  rw [h1, h2]; simp

/-! Guards -/
theorem andB_val (a b : SB) : (andB a b).val = (a.val && b.val) := by
  unfold andB
  split <;> simp [SB.val]

theorem recAt_mem {l : List Rec} {i : Nat} {r : Rec} (h : recAt l i = some r) : r ∈ l ∧ r.idx = i := by
  induction l with
  | nil => cases h
  | cons q l ih =>
    simp only [recAt] at h
    split at h
    · rename_i hd; cases h; exact ⟨List.mem_cons_self .., Nat.eq_of_beq_eq_true hd⟩
    · exact ⟨List.mem_cons_of_mem _ (ih h).1, (ih h).2⟩

theorem guard_truth {l : List Rec} {j : Nat} {b : Bool} {g : SB} (h : guardOf l (some (j, b)) = some g) :
    ∃ w ∈ l, w.idx = j ∧ (∃ d, w.dst = some d) ∧ (g.val = true ↔ w.g.val = true ∧ ∃ β, w.v = .bool β ∧ β.val = b) ∧ (w.g.val = true → ∃ β, w.v = .bool β) := by
  simp only [guardOf] at h
  split at h
  · rename_i w hw
    obtain ⟨hm, hi⟩ := recAt_mem hw
    refine ⟨w, hm, hi, ?_⟩
    split at h
    · cases h
    · rename_i hg hdn
      cases h
      refine ⟨?_, ?_, ?_⟩
      · cases hd : w.dst with
        | none => exact (hdn hd).elim
        | some d => exact ⟨d, rfl⟩
      · rw [hg]; simp [SB.val]
      · rw [hg]; simp [SB.val]
    · rename_i β hv hdn hgn
      cases h
      refine ⟨?_, ?_, fun _ => ⟨β, hv⟩⟩
      · cases hd : w.dst with
        | none => exact (hdn hd).elim
        | some d => exact ⟨d, rfl⟩
      · rw [andB_val, hv]
        cases b <;> simp [notB_val]
    · cases h
  · cases h

theorem keyEq_eq {κ κ' : Key} (h : keyEq κ κ' = true) : κ = κ' := by
  unfold keyEq at h
  split at h
  · rfl
  · rw [Nat.eq_of_beq_eq_true h]
  · rw [Nat.eq_of_beq_eq_true h]
  · cases h

theorem Added.key_none {l : List Rec} {r : Rec} {o : Oper} (A : Added E ops fr hp sz l r o) (h : r.key = none) : r.g.val = true ∨ (r.v = .any ∧ r.ws = []) := by
  rcases A.how with ⟨h1, h2, h3, h4, h5, _⟩ | ⟨res, h1, h2, h3, _⟩
  · exact .inr ⟨h4, h5⟩
  · left
    cases hg : r.g with
    | lit b => cases b with
      | true => rfl
      | false => exact (h2 hg).elim
    | sym b =>
      rw [hg] at h3
      rw [h] at h3
      simp only at h3
      rw [← h3, guardOf, hg] at h1
      cases h1
theorem Added.key_some {l : List Rec} {r : Rec} {o : Oper} (A : Added E ops fr hp sz l r o) {j : Nat} {b : Bool} (h : r.key = some (j, b)) : guardOf l (some (j, b)) = some r.g := by
  rcases A.how with ⟨h1, h2, h3, h4, h5, _⟩ | ⟨res, h1, h2, h3, _⟩
  · rw [h2] at h; cases h
  · cases hg : r.g with
    | lit b => rw [hg, h] at h3; cases h3
    | sym β => rw [hg, h] at h3; simp only at h3; rw [h3, h1, hg]

/-- What is readable has been done. -/
theorem Built.key_g (B : Built E ops fr hp sz next0 recs next1) {r q : Rec} (hr : r ∈ recs) (hq : q ∈ recs) (hk : readable r.key q.key = true) (hg : r.g.val = true) : q.g.val = true ∨ (q.v = .any ∧ q.ws = []) := by
  obtain ⟨pre, l, o, e, hB, hA, _⟩ := B.split hq
  obtain ⟨pre', l', o', e', hB', hA', _⟩ := B.split hr
  cases hqk : q.key with
  | none => exact hA.key_none hqk
  | some p =>
    obtain ⟨j, b⟩ := p
    rw [hqk] at hk
    have hrk := keyEq_eq hk
    obtain ⟨w, w1, w2, _, w4, _⟩ := guard_truth (hA.key_some hqk)
    obtain ⟨w', w1', w2', _, w4', _⟩ := guard_truth (hA'.key_some hrk)
    have hw : w ∈ recs := by rw [e]; simp [w1]
    have hw' : w' ∈ recs := by rw [e']; simp [w1']
    have := B.inj hw hw' (by rw [w2, w2'])
    subst this
    exact .inl (w4.2 (w4'.1 hg))

/-! Memory -/
theorem contOf_T {l : List Rec} {κ κ' : Key} {n : Nat} {c : Option Cont} (hl : ∀ q ∈ l, readable κ q.key = true → q.g.val = true ∨ q.ws = []) (h : contOf hp l n = some (κ', c)) (hr : readable κ κ' = true) : contT hp l n = c := by
  induction l with
  | nil =>
    simp only [contOf] at h
    split at h
    · rename_i c' hc; cases h; simp [contT, hc]
    · cases h
  | cons q l ih =>
    simp only [contOf] at h
    split at h
    · rename_i c' hc
      cases h
      rcases hl q (List.mem_cons_self ..) hr with hg | hw
      · simp only [contT, hg, hc]
      · rw [hw] at hc; cases hc
    · rename_i hc
      have := ih (fun q hq => hl q (List.mem_cons_of_mem _ hq)) h
      simp only [contT, hc, this]
      split <;> rfl

theorem lookR_T {l : List Rec} {κ : Key} {n : Nat} {c : Cont} (hl : ∀ q ∈ l, readable κ q.key = true → q.g.val = true ∨ q.ws = []) (h : lookR hp l κ n = some c) : contT hp l n = some c := by
  unfold lookR at h
  split at h
  · rename_i κ' c' hc
    split at h
    · rename_i hr; subst h; exact contOf_T hl hc hr
    · cases h
  · cases h

theorem allKnown_of {look : Nat → Option Cont} {l : List Nat} (h : allKnown look l = true) : ∀ n ∈ l, ∃ c, look n = some c := by
  induction l with
  | nil => intro n hn; cases hn
  | cons r l ih =>
    simp only [allKnown] at h
    split at h
    · rename_i c hc
      intro n hn
      rcases List.mem_cons.1 hn with rfl | hn
      · exact ⟨c, hc⟩
      · exact ih h n hn
    · cases h
theorem memN_iff {n : Nat} {l : List Nat} : memN n l = true ↔ n ∈ l := by
  induction l with
  | nil => simp [memN]
  | cons q l ih =>
    simp only [memN, Bool.or_eq_true, ih, List.mem_cons]
    exact ⟨fun h => h.imp (fun h => (Nat.eq_of_beq_eq_true h).symm) id, fun h => h.imp (fun h => by subst h; exact Nat.beq_refl _) id⟩
theorem wsFit_of {tch : List Nat} {next k : Nat} {ws : List (Nat × Option Cont)} (h : wsFit tch next k ws = true) : ∀ n ∈ keys ws, n ∈ tch ∨ (next ≤ n ∧ n < next + k) := by
  induction ws with
  | nil => intro n hn; cases hn
  | cons p ws ih =>
    obtain ⟨r, c⟩ := p
    simp only [wsFit, Bool.and_eq_true, Bool.or_eq_true] at h
    intro n hn
    rcases List.mem_cons.1 hn with rfl | hn
    · rcases h.1 with h | h
      · exact .inl (memN_iff.1 h)
      · exact .inr ⟨Nat.le_of_ble_eq_true h.1, Nat.le_of_ble_eq_true h.2⟩
    · exact ih h.2 n hn

theorem contT_insert (p l : List Rec) (r : Rec) (h : ∀ q ∈ p, ∀ n c, find n r.ws = some c → find n q.ws = none) : contT hp (p ++ r :: l) = upd (contT hp (p ++ l)) (match r.g.val with | true => r.ws | false => []) := by
  funext n
  induction p with
  | nil =>
    simp only [List.nil_append, contT, upd]
    cases r.g.val with
    | false => rfl
    | true => cases find n r.ws <;> rfl
  | cons q p ih =>
    have ih := ih fun q hq => h q (List.mem_cons_of_mem _ hq)
    simp only [List.cons_append, contT, ih]
    unfold upd
    cases hg : r.g.val with
    | false => simp only [find]
    | true =>
      cases hf : find n r.ws with
      | none => simp only [hf]
      | some c =>
        have := h q (List.mem_cons_self ..) n c hf
        simp only [hf, this]
        split <;> rfl
end

section
variable {P : Program} {C : Ctx} {gl : List (Nat × SVal)} {E : Env} {ops : List Oper} {fr : List (Nat × SVal)} {hp : List (Nat × Option Cont)} {sz next0 next1 : Nat} {recs : List Rec}
variable {W0 : World} {R0 own0 : Nat → Prop} {ρs : Nat → Option Value} {L : Rec → Bool} {a : Act} {W W' : World} {R R' : Nat → Prop} {ρ ρ' : Nat → Option Value} {h : Nat → Option Cont} {Q : Exit → Act → World → Prop}

theorem Trans.den {ws : List (Nat × Option Cont)} (M : Mem C gl W R ρ h) (t : Trans C gl W R ρ h ws W' R' ρ') {s : SVal} {v : Value} (hd : Den C W R ρ s v) : Den C W' R' ρ' s v :=
  hd.mono t.Rm (fun b hb => t.keep b (M.base.inR b hb) fun r c v _ hc hv he => M.off r c v b hc hv he hb) t.ρm

structure Ready (E : Env) (fr : List (Nat × SVal)) (hp : List (Nat × Option Cont)) (sb : Option Nat) (ops : List Oper) (o : Oper) (recs : List Rec) (L : Rec → Bool) (r : Rec) : Prop where
  A : ∀ d ∈ readsOf ops o, ∀ q ∈ recs, isDst q.dst d = true → L q = decide (q.idx < r.idx)
  B : ∀ n ∈ r.tch, ∀ q ∈ recs, (∃ c, find n q.ws = some c) → L q = decide (q.idx < r.idx) ∨
    (sb = some q.idx ∧ r.idx < q.idx ∧ L q = true ∧ commP E fr hp (recs.filter fun x => decide (x.idx < r.idx)) r o q)
  C : ∀ n c, find n r.ws = some c → ∀ q ∈ recs, L q = true → (∃ c, find n q.ws = some c) → q.idx < r.idx

abbrev addL (L : Rec → Bool) (r : Rec) : Rec → Bool := fun q => L q || q.idx == r.idx

theorem eval_ok (EO : EnvOk P C gl E) (B : Built E ops fr hp sz next0 recs next1) (I : InvR C gl W0 R0 own0 ρs fr hp sz next1 recs L a W R ρ) {r : Rec} {l : List Rec} (hr : r ∈ recs) (hg : r.g.val = true)
    (hl : recs.filter (fun q => decide (q.idx < r.idx)) = l) {κx : Key} (hx : ∀ q ∈ recs, κx ≠ none → readable κx q.key = true → q.key ≠ none → q.g.val = true ∨ q.v = .any)
    (x : Operand) (hA : ∀ d, x = .tmp d → ∀ q ∈ recs, isDst q.dst d = true → L q = decide (q.idx < r.idx)) : Den C W R ρ (evR E fr l r.key κx x) (a.eval x) := by
  cases x with
  | tmp d =>
    have hs := I.slots d
    unfold slotIs at hs
    rw [lastOf_filter (hA d rfl), hl] at hs
    simp only [evR, slotOf_last]
    cases hq : lastOf l d with
    | none => rw [hq] at hs; exact hs
    | some q =>
      rw [hq] at hs
      simp only [Option.map_some]
      have hqm : q ∈ recs := by
        have := (lastOf_mem hq).1
        rw [← hl] at this
        exact (List.mem_filter.1 this).1
      split
      · rename_i hrd
        have : q.g.val = true ∨ q.v = .any := by
          rcases Bool.or_eq_true .. ▸ hrd with h1 | h1
          · exact (B.key_g hr hqm h1 hg).imp id fun h => h.1
          · cases hqk : q.key with
            | none => exact (B.key_g hr hqm (by rw [hqk]; rfl) hg).imp id fun h => h.1
            | some p =>
              refine hx q hqm ?_ h1 (by rw [hqk]; simp)
              intro hn
              rw [hn, hqk] at h1
              cases h1
        rcases this with h1 | h1
        · exact hs.1 h1
        · rw [h1]; exact .any _
      · exact .any _
  | const v => exact ofVal_den v
  | global g =>
    simp only [evR]
    cases hf : find g E.glob with
    | none => exact .any _
    | some s =>
      rw [EO.glob] at hf
      exact (I.mem.base.glob g s hf).mono (fun _ h => h) (fun _ _ => rfl) fun r v h => by cases h
  | func f => exact .func f [] [] .nil
end
end Go.Sy
