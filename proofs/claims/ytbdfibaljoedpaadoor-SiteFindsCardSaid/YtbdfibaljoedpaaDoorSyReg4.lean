/- Regions: one operation takes the state a step further. -/
import Derived.Test.YtbdfibaljoedpaaDoorSyReg3
set_option linter.unusedVariables false
set_option linter.unusedSimpArgs false
namespace Go.Sy
open Go.RowKit

section
variable {P : Program} {C : Ctx} {gl : List (Nat × SVal)} {E : Env} {ops : List Oper} {fr : List (Nat × SVal)} {hp : List (Nat × Option Cont)} {sz next0 next1 : Nat} {recs : List Rec}
variable {W0 : World} {R0 own0 : Nat → Prop} {ρs : Nat → Option Value} {L : Rec → Bool} {a : Act} {W W' : World} {R R' : Nat → Prop} {ρ ρ' : Nat → Option Value} {h : Nat → Option Cont} {Q : Exit → Act → World → Prop}

theorem Built.op (B : Built E ops fr hp sz next0 recs next1) {r : Rec} (hr : r ∈ recs) : ∃ o, ops[r.idx]? = some o ∧ r.dst = o.dst := by
  obtain ⟨pre, l, o, e, hB, hA, _⟩ := B.split hr
  exact ⟨o, by rw [hA.idx]; exact hA.op, hA.dst⟩

theorem Built.sides (B : Built E ops fr hp sz next0 recs next1) {r : Rec} {pre l : List Rec} (e : recs = pre ++ r :: l) (hB : Built E ops fr hp sz next0 l r.next) {o : Oper} (hA : Added E ops fr hp sz l r o) (hpre : ∀ q ∈ pre, r.idx < q.idx ∧ r.next + r.k ≤ q.next) :
    (∀ q ∈ l, q.idx < r.idx) ∧ recs.filter (fun q => decide (q.idx < r.idx)) = l := by
  have h1 : ∀ q ∈ l, q.idx < r.idx := fun q hq => by rw [hA.idx]; exact (hB.mem q hq).1
  exact ⟨h1, B.before e (fun q hq => (hpre q hq).1) h1⟩

/-- The guard is as it was reckoned. -/
theorem wanted_ok (EO : EnvOk P C gl E) (B : Built E ops fr hp sz next0 recs next1) (I : InvR C gl W0 R0 own0 ρs fr hp sz next1 recs L a W R ρ) {r : Rec} {pre l : List Rec} {o : Oper} (e : recs = pre ++ r :: l)
    (hB : Built E ops fr hp sz next0 l r.next) (hA : Added E ops fr hp sz l r o) (hpre : ∀ q ∈ pre, r.idx < q.idx ∧ r.next + r.k ≤ q.next) {sb : Option Nat} (RD : Ready E fr hp sb ops o recs L r) :
    Region.wanted o (yielded ops.toArray a.tmps) = r.g.val := by
  have hgo : guardOf l o.guard = some r.g := by
    rcases hA.how with ⟨h1, _, h3, _⟩ | ⟨res, h1, _⟩
    · rw [h1, h3]
    · exact h1
  obtain ⟨hs1, hs2⟩ := B.sides e hB hA hpre
  cases hgd : o.guard with
  | none =>
    rw [hgd] at hgo
    simp only [guardOf, Option.some.injEq] at hgo
    rw [← hgo]
    simp [Region.wanted, hgd, SB.val]
  | some p =>
    obtain ⟨j, b⟩ := p
    rw [hgd] at hgo
    obtain ⟨w, w1, w2, ⟨d, w3⟩, w4, w5⟩ := guard_truth hgo
    have hw : w ∈ recs := by rw [e]; simp [w1]
    obtain ⟨ow, how, hdst⟩ := B.op hw
    have hwd : isDst w.dst d = true := isDst_iff.2 w3
    rw [w2] at how
    have hrd : d ∈ readsOf ops o := by
      unfold readsOf
      rw [hgd]
      simp only [how, ← hdst, w3]
      simp
    have hsl := I.slots d
    unfold slotIs at hsl
    rw [lastOf_filter (RD.A d hrd), hs2] at hsl
    have hlast : lastOf l d = some w := hB.last w1 hwd
    rw [hlast] at hsl
    simp only at hsl
    have hd := B.dst_lt hw hwd
    rw [← I.size] at hd
    have hy : yielded ops.toArray a.tmps j = match a.tmps.getD d undef with | .bool b => some b | _ => none := by
      unfold yielded
      have : ops.toArray[j]? = some ow := by simpa using how
      simp only [this, Option.bind_some, ← hdst, w3, Array.getElem?_eq_getElem hd, Array.getD_eq_getD_getElem?, Option.getD_some]
      cases a.tmps[d] <;> rfl
    simp only [Region.wanted, hgd, hy]
    cases hwg : w.g.val with
    | false =>
      have : r.g.val = false := by
        cases hh : r.g.val with
        | false => rfl
        | true => have := (w4.1 hh).1; rw [hwg] at this; cases this
      rw [hsl.2 hwg, this]
      rfl
    | true =>
      obtain ⟨β, hβ⟩ := w5 hwg
      have hden := hsl.1 hwg
      rw [hβ] at hden
      rw [hden.bool_inv]
      simp only
      cases hh : r.g.val with
      | true =>
        obtain ⟨_, β', hβ', hb⟩ := w4.1 hh
        rw [hβ] at hβ'; cases hβ'
        rw [hb]; simp
      | false =>
        have : β.val ≠ b := fun hb => by
          have := w4.2 ⟨hwg, β, hβ, hb⟩
          rw [hh] at this; cases this
        simpa using this

/-- Memory behind one more operation. -/
theorem Built.cont_add (B : Built E ops fr hp sz next0 recs next1) {r : Rec} (hr : r ∈ recs) (hL : L r = false) (hC : ∀ n c, find n r.ws = some c → ∀ q ∈ recs, L q = true → (∃ c, find n q.ws = some c) → q.idx < r.idx) :
    contT hp (recs.filter (addL L r)) = upd (contT hp (recs.filter L)) (match r.g.val with | true => r.ws | false => []) := by
  obtain ⟨pre, l, o, e, hB, hA, hpre, hlast⟩ := B.split hr
  obtain ⟨hs1, hs2⟩ := B.sides e hB hA hpre
  have hpL : ∀ q ∈ pre, addL L r q = L q := fun q hq => by
    have := (hpre q hq).1
    have : (q.idx == r.idx) = false := by simp; omega
    simp [addL, this]
  have hlL : ∀ q ∈ l, addL L r q = L q := fun q hq => by
    have := hs1 q hq
    have : (q.idx == r.idx) = false := by simp; omega
    simp [addL, this]
  have e1 : recs.filter (addL L r) = pre.filter L ++ r :: l.filter L := by
    rw [e, List.filter_append, List.filter_cons, List.filter_congr hpL, List.filter_congr hlL]
    simp [addL]
  have e2 : recs.filter L = pre.filter L ++ l.filter L := by
    rw [e, List.filter_append, List.filter_cons]
    simp [hL]
  rw [e1, e2]
  refine contT_insert _ _ r fun q hq n c hc => ?_
  obtain ⟨hq1, hq2⟩ := List.mem_filter.1 hq
  cases hf : find n q.ws with
  | none => rfl
  | some c' =>
    have := hC n c hc q (by rw [e]; simp [hq1]) hq2 ⟨c', hf⟩
    have := (hpre q hq1).1
    omega

/-- The state a step further. -/
theorem InvR.add (B : Built E ops fr hp sz next0 recs next1) (I : InvR C gl W0 R0 own0 ρs fr hp sz next1 recs L a W R ρ) {r : Rec} {pre l : List Rec} {o : Oper} (e : recs = pre ++ r :: l)
    (hB : Built E ops fr hp sz next0 l r.next) (hA : Added E ops fr hp sz l r o) (hpre : ∀ q ∈ pre, r.idx < q.idx ∧ r.next + r.k ≤ q.next) (hlast : r.next + r.k ≤ next1) (hL : L r = false) (hC : ∀ n c, find n r.ws = some c → ∀ q ∈ recs, L q = true → (∃ c, find n q.ws = some c) → q.idx < r.idx)
    (hws : r.g.val = true → ∀ n ∈ keys r.ws, (∃ c, contT hp (recs.filter L) n = some c) ∨ (r.next ≤ n ∧ n < r.next + r.k))
    {v : Value} {W' : World} {R' : Nat → Prop} {ρ' : Nat → Option Value}
    (T : Trans C gl W R ρ (contT hp (recs.filter L)) (match r.g.val with | true => r.ws | false => []) W' R' ρ') (hv1 : r.g.val = true → Den C W' R' ρ' r.v v) (hv2 : r.g.val = false → v = undef) :
    InvR C gl W0 R0 own0 ρs fr hp sz next1 recs (addL L r) (a.put o.dst v) W' R' ρ' := by
  obtain ⟨hs1, hs2⟩ := B.sides e hB hA hpre
  have hr : r ∈ recs := by rw [e]; simp
  have hcont := B.cont_add (hp := hp) hr hL hC
  have hM := I.mem
  refine ⟨fun d => ?_, by rw [hcont]; exact T.mem, ?_, by rw [hcont]; exact I.bt.trans T.bt, fun q hq hqL j hj => ?_, fun n hn => ?_, ?_, fun n u hu => T.ρm _ _ (I.ext n u hu)⟩
  · cases hd : isDst r.dst d with
    | true =>
      have : lastOf (recs.filter (addL L r)) d = some r := by
        rw [lastOf_filter (q := fun _ => true), List.filter_eq_self.2 fun _ _ => rfl]
        · exact B.last hr hd
        · intro q hq hqd
          have h1 := B.last hq hqd
          rw [B.last hr hd] at h1
          cases h1
          simp [addL]
      unfold slotIs
      rw [this]
      simp only
      have hlt := B.dst_lt hr hd
      rw [← I.size] at hlt
      have hput : (a.put o.dst v).tmps.getD d undef = v := by
        rw [← hA.dst, isDst_iff.1 hd]
        simp [Act.put, Array.getD, hlt]
      rw [hput]
      exact ⟨hv1, hv2⟩
    | false =>
      have : lastOf (recs.filter (addL L r)) d = lastOf (recs.filter L) d := by
        refine lastOf_filter fun q hq hqd => ?_
        have : (q.idx == r.idx) = false := by
          simp only [beq_eq_false_iff_ne]
          intro he
          have := B.inj hq hr he
          subst this
          rw [hd] at hqd; cases hqd
        simp [addL, this]
      have hput : (a.put o.dst v).tmps.getD d undef = a.tmps.getD d undef := by
        rw [← hA.dst]
        cases hdd : r.dst with
        | none => rfl
        | some d' =>
          have : d' ≠ d := fun h => by subst h; rw [isDst_iff.2 hdd] at hd; cases hd
          simp [Act.put, Array.getD_eq_getD_getElem?, Array.getElem?_setIfInBounds, this]
      have hs := I.slots d
      unfold slotIs at hs ⊢
      rw [this, hput]
      split
      · rename_i q hq
        rw [hq] at hs
        exact ⟨fun hg => T.den hM (hs.1 hg), hs.2⟩
      · rename_i hq
        rw [hq] at hs
        exact T.den hM hs
  · rw [← I.size]
    cases hd : o.dst <;> simp [Act.put]
  · have hqL' : L q = false ∧ q.idx ≠ r.idx := by simpa [addL] using hqL
    cases hρ : ρ' (q.next + j) with
    | none => rfl
    | some v' =>
      exfalso
      rcases T.ρn _ _ hρ with h1 | ⟨h1, h2⟩
      · rw [I.fresh q hq hqL'.1 j hj] at h1; cases h1
      · cases hg : r.g.val with
        | false => rw [hg] at h2; cases h2
        | true =>
          rw [hg] at h2
          rcases hws hg _ h2 with h3 | h3
          · obtain ⟨c, hc⟩ := h3
            obtain ⟨v'', hv'', _⟩ := hM.at_ _ _ hc
            rw [h1] at hv''; cases hv''
          · have : q ∈ pre ∨ q ∈ l := by
              rw [e] at hq
              rcases List.mem_append.1 hq with h | h
              · exact .inl h
              · rcases List.mem_cons.1 h with rfl | h
                · exact (hqL'.2 rfl).elim
                · exact .inr h
            rcases this with h | h
            · have := (hpre q h).2; omega
            · have := (hB.mem q h).2.1; omega
  · cases hρ : ρ' n with
    | none => rfl
    | some v' =>
      exfalso
      rcases T.ρn _ _ hρ with h1 | ⟨h1, h2⟩
      · rw [I.above n hn] at h1; cases h1
      · cases hg : r.g.val with
        | false => rw [hg] at h2; cases h2
        | true =>
          rw [hg] at h2
          rcases hws hg _ h2 with h3 | h3
          · obtain ⟨c, hc⟩ := h3
            obtain ⟨v'', hv'', _⟩ := hM.at_ _ _ hc
            rw [h1] at hv''; cases hv''
          · omega
  · rw [← I.defers]
    cases hd : o.dst <;> rfl

theorem nilB_of {α : Type} {l : List α} (h : nilB l = true) : l = [] := by
  cases l with
  | nil => rfl
  | cons => cases h
theorem subN_of {l l' : List Nat} (h : subN l l' = true) : ∀ n ∈ l, n ∈ l' := by
  induction l with
  | nil => intro n hn; cases hn
  | cons m l ih =>
    simp only [subN, Bool.and_eq_true] at h
    intro n hn
    rcases List.mem_cons.1 hn with rfl | hn
    · exact memN_iff.1 h.1
    · exact ih h.2 n hn
theorem mem_reads {ops : List Oper} {o : Oper} {d : Nat} (h : Operand.tmp d ∈ o.op.operands.toList) : d ∈ readsOf ops o := by
  unfold readsOf
  exact List.mem_append_left _ (List.mem_filterMap.2 ⟨_, h, rfl⟩)

theorem writerOf_last (l : List Rec) (t : Nat) : writerOf l t = (lastOf l t).map (·.idx) := by
  induction l with
  | nil => rfl
  | cons q l ih => simp only [writerOf, lastOf]; split <;> simp_all

theorem step_ok (EO : EnvOk P C gl E) (B : Built E ops fr hp sz next0 recs next1) {r : Rec} (hr : r ∈ recs) {o : Oper} (ho : ops[r.idx]? = some o) (hL : L r = false) {sb : Option Nat} (RD : Ready E fr hp sb ops o recs L r)
    (I : InvR C gl W0 R0 own0 ρs fr hp sz next1 recs L a W R ρ) (K : Act → World → Prop)
    (hK : ∀ a W R ρ, InvR C gl W0 R0 own0 ρs fr hp sz next1 recs (addL L r) a W R ρ → K a W) : wpOp P ops.toArray Q r.idx K a W := by
  obtain ⟨pre, l, o', e, hB, hA, hpre, hlast⟩ := B.split hr
  have : o' = o := by
    have := hA.op
    rw [← hA.idx, ho] at this
    cases this; rfl
  subst this
  obtain ⟨hs1, hs2⟩ := B.sides e hB hA hpre
  have hM := I.mem
  have hw := wanted_ok EO B I e hB hA hpre RD
  have hoa : ops.toArray[r.idx]? = some o' := by simpa using ho
  unfold wpOp
  rw [hoa]
  simp only [hw]
  cases hg : r.g.val with
  | false =>
    simp only [Bool.false_eq_true, if_false]
    exact hK _ _ R ρ (InvR.add B I e hB hA hpre hlast hL RD.C (fun h => by rw [hg] at h; cases h) (v := undef) (by rw [hg]; exact Trans.refl hM) (fun h => by rw [hg] at h; cases h) fun _ => rfl)
  | true =>
    simp only [if_true]
    left
    rcases hA.how with ⟨h1, h2, h3, h4, h5, h6, h7⟩ | ⟨res, h1, h2, h3, h4, h5, h6, h7, h8⟩
    · rw [h3] at hg; cases hg
    have hev := fun (x : Operand) (hx : x ∈ o'.op.operands.toList) => eval_ok EO B I hr hg hs2 (κx := none) (fun q hq hn => (hn rfl).elim) x fun d hd => by subst hd; exact RD.A d (mem_reads hx)
    have hlk : ∀ n, ∀ c, lookR hp l r.key n = some c → contT hp l n = some c := fun n c hc =>
      lookR_T (fun q hq hk => (B.key_g hr (by rw [e]; simp [hq]) hk hg).imp id fun h => h.2) hc
    have fin : (∀ n ∈ keys r.ws, (∃ c, contT hp (recs.filter L) n = some c) ∨ (r.next ≤ n ∧ n < r.next + r.k)) →
        ∀ v W' R' ρ', Trans C gl W R ρ (contT hp (recs.filter L)) res.ws W' R' ρ' → Den C W' R' ρ' res.v v → K (a.put o'.dst v) W' := fun hws v W' R' ρ' T hd =>
      hK _ _ R' ρ' (InvR.add B I e hB hA hpre hlast hL RD.C (fun _ => hws) (v := v) (by rw [hg, h6]; exact T) (fun _ => by rw [h5]; exact hd) fun h => by rw [hg] at h; cases h)
    unfold stepR at h4
    split at h4
    · rename_i c x y hop
      split at h4
      · rename_i v hpk
        injection h4 with h4
        injection h4 with hres htn
        subst hres
        have hc := hev c (by rw [hop]; simp [Op.operands])
        have side : ∀ b, a.eval c = .bool b → ∀ q ∈ recs, keyOf l c b ≠ none → readable (keyOf l c b) q.key = true → q.key ≠ none → q.g.val = true ∨ q.v = .any := by
          intro b hb q hq hn hk hqn
          cases c with
          | tmp t =>
            simp only [keyOf] at hn hk
            rw [writerOf_last] at hn hk
            cases hlt : lastOf l t with
            | none => rw [hlt] at hn; exact (hn rfl).elim
            | some w =>
              rw [hlt] at hk
              simp only [Option.map_some] at hk
              cases hqk : q.key with
              | none => exact (hqn hqk).elim
              | some p =>
                obtain ⟨j, b'⟩ := p
                rw [hqk] at hk
                have hk := keyEq_eq hk
                cases hk
                obtain ⟨pq, lq, oq, eq, hBq, hAq, _⟩ := B.split hq
                obtain ⟨w', w1, w2, _, w4, _⟩ := guard_truth (hAq.key_some hqk)
                have hwm : w ∈ recs := by rw [e]; simp [(lastOf_mem hlt).1]
                have := B.inj (r := w') (q := w) (by rw [eq]; simp [w1]) hwm w2
                subst this
                have hsl := I.slots t
                unfold slotIs at hsl
                rw [lastOf_filter (RD.A t (mem_reads (by rw [hop]; simp [Op.operands]))), hs2, hlt] at hsl
                simp only at hsl
                have hb : a.tmps.getD t undef = .bool b := hb
                rw [hb] at hsl
                left
                refine w4.2 ?_
                cases hwg : w'.g.val with
                | false => have := hsl.2 hwg; cases this
                | true =>
                  refine ⟨rfl, ?_⟩
                  have hd := hsl.1 hwg
                  obtain ⟨w'', w1', w2', _, w4', w5'⟩ := guard_truth (hAq.key_some hqk)
                  have := B.inj (r := w'') (q := w') (by rw [eq]; simp [w1']) hwm (by rw [w2'])
                  subst this
                  obtain ⟨β, hβ⟩ := w5' hwg
                  rw [hβ] at hd
                  have := hd.bool_inv
                  exact ⟨β, hβ, by cases this; rfl⟩
          | const v => exact (hn rfl).elim
          | global g => exact (hn rfl).elim
          | func f => exact (hn rfl).elim
        obtain ⟨t, ht, hd⟩ := pickS_den (v := .nilIface) hpk hc (a.eval x) (a.eval y)
          (fun hb => eval_ok EO B I hr hg hs2 (side true hb) x fun d hd => by subst hd; exact RD.A d (mem_reads (by rw [hop]; simp [Op.operands])))
          (fun hb => eval_ok EO B I hr hg hs2 (side false hb) y fun d hd => by subst hd; exact RD.A d (mem_reads (by rw [hop]; simp [Op.operands])))
        refine Yields.value (r := { v := v }) hM (v := if t then a.eval x else a.eval y) ?_ hd rfl K Q (fin ?_)
        · unfold execOp; rw [hop]; simp [ht, asBool]
        · rw [h6]; intro n hn; cases hn
      · cases h4
    · rename_i hnp
      split at h4
      · cases h4
      · rename_i r' tch hrun
        split at h4
        · rename_i hok
          injection h4 with h4
          injection h4 with hres htn
          subst hres htn
          rw [Bool.and_eq_true] at hok
          have hall := allKnown_of hok.1
          have hwf := wsFit_of hok.2
          have hcongr : ∀ look, (sop E o' (fun x => open Classical in if x ∈ o'.op.operands.toList then evR E fr l r.key none x else .any) r.next).run look [] = (sop E o' (evR E fr l r.key none) r.next).run look [] := fun look => by
            congr 1
            exact sop_congr fun x hx => by simp only [hx, if_true]
          have hevA : ∀ x, Den C W R ρ (open Classical in if x ∈ o'.op.operands.toList then evR E fr l r.key none x else .any) (a.eval x) := fun x => by
            by_cases hx : x ∈ o'.op.operands.toList
            · simp only [hx, if_true]; exact hev x hx
            · simp only [hx, if_false]; exact .any _
          by_cases hs : ∃ q ∈ recs, q.g.val = true ∧ (sb = some q.idx ∧ r.idx < q.idx ∧ L q = true ∧ commP E fr hp (recs.filter fun x => decide (x.idx < r.idx)) r o' q)
          · -- another one has come first
            obtain ⟨q, hq, hqg, hsb, hlt, hLq, hcm⟩ := hs
            rw [hs2] at hcm
            have hP1 : decide (q.idx < r.idx) = false := decide_eq_false (by omega)
            have hcT : ∀ n ∈ r.tch, contT hp (recs.filter L) n = upd (contT hp l) q.ws n := fun n hn => by
              have hside : ∀ x ∈ recs, x.g.val = true → (∃ c, find n x.ws = some c) → L x = addL (fun x => decide (x.idx < r.idx)) q x := fun x hx hxg hxn => by
                by_cases hxq : x.idx = q.idx
                · have := B.inj hx hq hxq
                  subst this
                  rw [hLq]; simp [addL]
                · have hne : (x.idx == q.idx) = false := by simpa using hxq
                  rcases RD.B n hn x hx hxn with hB1 | ⟨hB1, _⟩
                  · rw [hB1]; simp [addL, hne]
                  · rw [hsb] at hB1
                    exact (hxq (by simpa using hB1.symm)).elim
              have hadd := B.cont_add (hp := hp) (L := fun x => decide (x.idx < r.idx)) hq hP1 (fun n c hc x hx hLx _ => by have := of_decide_eq_true hLx; omega)
              rw [contT_filter2 hside, hadd, hs2, hqg]
            unfold commP at hcm
            split at hcm
            · rename_i r2 tch2 hrun2
              obtain ⟨⟨c1, c2, c3, c4, c5⟩, c6⟩ := hcm
              replace c2 := nilB_of c2
              replace c3 := nilB_of c3
              obtain ⟨c6, c7⟩ := c6 hg
              have hrun2' := (Acc.run_look (look' := contT hp (recs.filter L)) hrun2 fun n hn => by
                have hn := subN_of c1 n hn
                rw [hcT n hn]
                unfold upd
                cases hf : find n q.ws with
                | some c => rfl
                | none =>
                  obtain ⟨c, hc⟩ := hall n hn
                  simp only
                  rw [hc]; exact hlk n c hc).1
              refine sop_ok (r := r2) (next := r.next) (l := []) (l' := tch2) (ev := fun x => open Classical in if x ∈ o'.op.operands.toList then evR E fr l r.key none x else .any) ⟨EO, hM, hevA, by rw [← hrun2']; exact hcongr _, fun p hp => by rw [hp] at c7; exact c7, fun j hj => by rw [c5] at hj; cases hj⟩ (fun c x y => hnp c x y) K Q fun v W' R' ρ' T hd => ?_
              exact hK _ _ R' ρ' (InvR.add B I e hB hA hpre hlast hL RD.C (fun _ n hn => by rw [c2] at hn; cases hn) (v := v) (by rw [hg, c2]; rw [c3] at T; exact T) (fun _ => by rw [← c6]; exact hd) fun h => by rw [hg] at h; cases h)
            · exact hcm.elim
          · have hcT : ∀ n ∈ r.tch, contT hp (recs.filter L) n = contT hp l n := fun n hn => by
              rw [contT_filter2 (q := fun x => decide (x.idx < r.idx)) fun x hx hxg hxn => ?_, hs2]
              rcases RD.B n hn x hx hxn with hB1 | hB1
              · exact hB1
              · exact (hs ⟨x, hx, hxg, hB1⟩).elim
            have hrun' := (Acc.run_look (look' := contT hp (recs.filter L)) hrun fun n hn => let ⟨c, hc⟩ := hall n hn; by rw [hc, hcT n hn]; exact hlk n c hc).1
            refine sop_ok (next := r.next) (l := []) (l' := r.tch) (ev := fun x => open Classical in if x ∈ o'.op.operands.toList then evR E fr l r.key none x else .any) ⟨EO, hM, hevA, by rw [← hrun']; exact hcongr _, fun q hq => h8 q hq hg, fun j hj => I.fresh r hr hL j (by rw [h7]; exact hj)⟩ (fun c x y => hnp c x y) K Q (fin ?_)
            rw [h6, h7]
            intro n hn
            rcases hwf n hn with hw | hw
            · obtain ⟨c, hc⟩ := hall n hw
              exact .inl ⟨c, by rw [hcT n hw]; exact hlk n c hc⟩
            · exact .inr hw
        · cases h4
end
end Go.Sy
