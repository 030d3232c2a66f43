/- Regions: all operations, in their order or a drawn one. -/
import Derived.Test.YtbdfibaljoedpaaDoorSyReg4
set_option linter.unusedVariables false
set_option linter.unusedSimpArgs false
namespace Go.Sy
open Go.RowKit

section
variable {P : Program} {C : Ctx} {gl : List (Nat × SVal)} {E : Env} {ops : List Oper} {fr : List (Nat × SVal)} {hp : List (Nat × Option Cont)} {sz next0 next1 : Nat} {recs : List Rec}
variable {W0 : World} {R0 own0 : Nat → Prop} {ρs : Nat → Option Value} {L : Rec → Bool} {a : Act} {W W' : World} {R R' : Nat → Prop} {ρ ρ' : Nat → Option Value} {h : Nat → Option Cont} {Q : Exit → Act → World → Prop}

theorem Built.at (B : Built E ops fr hp sz next0 recs next1) : ∀ i, i < recs.length → ∃ r ∈ recs, r.idx = i := by
  induction B with
  | nil => intro i h; cases h
  | cons l r o next hB hA hn ih =>
    intro i hi
    simp only [List.length_cons] at hi
    by_cases h : i < l.length
    · obtain ⟨q, hq, e⟩ := ih i h
      exact ⟨q, List.mem_cons_of_mem _ hq, e⟩
    · exact ⟨r, List.mem_cons_self .., by have := hA.idx; omega⟩

theorem InvR.congr {L' : Rec → Bool} (I : InvR C gl W0 R0 own0 ρs fr hp sz next1 recs L a W R ρ) (h : ∀ q ∈ recs, L q = L' q) : InvR C gl W0 R0 own0 ρs fr hp sz next1 recs L' a W R ρ := by
  have e : recs.filter L = recs.filter L' := List.filter_congr h
  obtain ⟨h1, h2, h3, h4, h5, h6, h7, h8⟩ := I
  rw [e] at h2 h4
  exact ⟨fun d => by have := h1 d; rwa [e] at this, h2, h3, h4, fun r hr hL => h5 r hr (by rw [h r hr]; exact hL), h6, h7, h8⟩

theorem region_seq (EO : EnvOk P C gl E) (B : Built E ops fr hp sz next0 recs next1) (hlen : recs.length = ops.length)
    (hQ : ∀ a W R ρ, InvR C gl W0 R0 own0 ρs fr hp sz next1 recs (fun _ => true) a W R ρ → Q .normal a W) :
    ∀ (n i : Nat) {a : Act} {W : World} {R : Nat → Prop} {ρ : Nat → Option Value}, i + n = ops.length → InvR C gl W0 R0 own0 ρs fr hp sz next1 recs (fun q => decide (q.idx < i)) a W R ρ → wpOps P ops.toArray Q (List.range' i n) a W := by
  intro n
  induction n with
  | zero =>
    intro i a W R ρ hi I
    refine hQ a W R ρ (I.congr fun q hq => ?_)
    have := (B.mem q hq).1
    simp; omega
  | succ n ih =>
    intro i a W R ρ hi I
    rw [List.range'_succ, wpOps_cons]
    obtain ⟨r, hr, rfl⟩ := B.at i (by omega)
    obtain ⟨o, ho, _⟩ := B.op hr
    refine step_ok EO B hr ho (by simp) ⟨fun d _ q _ _ => rfl, fun n _ q _ _ => .inl rfl, fun n c _ q _ hq _ => by simpa using hq⟩ (sb := none) I _ fun a W R ρ I => ?_
    refine ih (r.idx + 1) (by omega) (I.congr fun q hq => ?_)
    simp only [addL]
    by_cases h1 : q.idx < r.idx
    · have : q.idx < r.idx + 1 := by omega
      simp [h1, this]
    · by_cases h2 : q.idx = r.idx
      · simp [h2]
      · have : ¬ q.idx < r.idx + 1 := by omega
        simp [h1, h2, this]

/-! Drawn orders -/
def ReadyS (ops : List Oper) (S : Nat → Prop) (i : Nat) : Prop := ∀ o, ops[i]? = some o → ∀ e ∈ o.after.toList, bindsB e.ground = true → S e.on
def ClosedS (ops : List Oper) (S : Nat → Prop) : Prop := ∀ i, S i → ReadyS ops S i

theorem fold_bit (f : Edge → Nat) (l : List Edge) : ∀ (m j : Nat), (l.foldl (fun m e => match bindsB e.ground with | true => Nat.lor m (f e) | false => m) m).testBit j = true →
    m.testBit j = true ∨ ∃ e ∈ l, bindsB e.ground = true ∧ (f e).testBit j = true := by
  induction l with
  | nil => intro m j h; exact .inl h
  | cons e l ih =>
    intro m j h
    simp only [List.foldl_cons] at h
    rcases ih _ _ h with h1 | ⟨e', h1, h2, h3⟩
    · split at h1
      · rename_i hb
        have : (m ||| f e).testBit j = true := h1
        rw [Nat.testBit_or, Bool.or_eq_true] at this
        rcases this with h | h
        · exact .inl h
        · exact .inr ⟨e, List.mem_cons_self .., hb, h⟩
      · exact .inl h1
    · exact .inr ⟨e', List.mem_cons_of_mem _ h1, h2, h3⟩

theorem masks_ok {S : Nat → Prop} (hS : ClosedS ops S) : ∀ (l : List Oper) (n : Nat) (acc : List Nat), ops.drop n = l → n ≤ ops.length → (∀ i j, ReadyS ops S i → (maskAt acc n i).testBit j = true → S j) →
    ∀ i j, ReadyS ops S i → (maskAt (masks l n acc) ops.length i).testBit j = true → S j := by
  intro l
  induction l with
  | nil =>
    intro n acc hd hn h i j
    have := List.drop_eq_nil_iff.1 hd
    have : n = ops.length := by omega
    subst this
    exact h i j
  | cons o l ih =>
    intro n acc hd hn h
    have hlt : n < ops.length := by
      apply Nat.lt_of_not_le; intro hc
      rw [List.drop_eq_nil_of_le hc] at hd; cases hd
    have ho : ops[n]? = some o := by
      have := congrArg (·[0]?) hd
      simpa using this
    have hd' : ops.drop (n + 1) = l := by rw [← List.drop_drop, hd]; rfl
    refine ih (n + 1) _ hd' hlt fun i j hi hj => ?_
    simp only [maskAt, Nat.add_sub_cancel] at hj
    split at hj
    · rename_i hb
      have hb : n + 1 = i + 1 := Nat.eq_of_beq_eq_true hb
      have hb : n = i := by omega
      subst hb
      rcases fold_bit (fun e => Nat.lor (Nat.pow 2 e.on) (maskAt acc n e.on)) _ _ _ hj with h1 | ⟨e, he, hb, h1⟩
      · simp at h1
      · have hSe := hi o ho e he hb
        have : (2 ^ e.on ||| maskAt acc n e.on).testBit j = true := h1
        rw [Nat.testBit_or, Bool.or_eq_true] at this
        rcases this with h2 | h2
        · rw [Nat.testBit_two_pow] at h2
          have : e.on = j := by simpa using h2
          rw [← this]; exact hSe
        · exact h e.on j (hS _ hSe) h2
    · exact h i j hi hj

theorem orderedAll_ok {ms : List Nat} {n : Nat} {sb : Option Nat} : ∀ {l : List (Rec × List Nat)}, orderedAll ops ms n sb l = true → ∀ pre b rb post, l = pre ++ (b, rb) :: post → ∀ a ra, (a, ra) ∈ post →
    (hard a b ra rb = true → (maskAt ms n b.idx).testBit a.idx = true) ∧ (soft a b = true → (maskAt ms n b.idx).testBit a.idx = true ∨ isNext sb b.idx = true) := by
  intro l
  induction l with
  | nil => intro _ pre b rb post e; simp at e
  | cons p l ih =>
    intro h pre b rb post e a ra hm
    obtain ⟨b', rb'⟩ := p
    simp only [orderedAll, Bool.and_eq_true] at h
    cases pre with
    | nil =>
      simp only [List.nil_append, List.cons.injEq, Prod.mk.injEq] at e
      obtain ⟨⟨rfl, rfl⟩, rfl⟩ := e
      have := List.all_eq_true.1 h.1 (a, ra) hm
      simp only at this
      cases hh : hard a b' ra rb' with
      | true =>
        rw [hh] at this
        exact ⟨fun _ => this, fun _ => .inl this⟩
      | false =>
        rw [hh] at this
        refine ⟨(fun h => by cases h), fun hs => ?_⟩
        rw [hs] at this
        simpa using this
    | cons q pre =>
      simp only [List.cons_append, List.cons.injEq] at e
      exact ih h.2 pre b rb post e.2 a ra hm

theorem Built.ordered (B : Built E ops fr hp sz next0 recs next1) (hd : drawOk ops recs = true) {S : Nat → Prop} (hS : ClosedS ops S) {a b : Rec} {oa ob : Oper} (ha : a ∈ recs) (hb : b ∈ recs) (hlt : a.idx < b.idx)
    (hoa : ops[a.idx]? = some oa) (hob : ops[b.idx]? = some ob) (hr : ReadyS ops S b.idx) :
    (hard a b (readsOf ops oa) (readsOf ops ob) = true → S a.idx) ∧ (soft a b = true → S a.idx ∨ ((maskAt (masks ops 0 []) ops.length b.idx).testBit a.idx = false ∧ softIdx (masks ops 0 []) ops.length recs = some b.idx)) := by
  unfold drawOk at hd
  rw [Bool.and_eq_true] at hd
  obtain ⟨pre, l, o, e, hB, hA, hpre, _⟩ := B.split hb
  have hal : a ∈ l := by
    rw [e] at ha
    rcases List.mem_append.1 ha with h | h
    · have := (hpre a h).1; omega
    · rcases List.mem_cons.1 h with rfl | h
      · omega
      · exact h
  have hmk := fun h => masks_ok hS ops 0 [] rfl (Nat.zero_le _) (fun i j _ h => by simp [maskAt] at h) b.idx a.idx hr h
  have := orderedAll_ok hd.2 (pre.map _) b _ (l.map _) (by rw [show recs.map _ = _ from congrArg _ e, List.map_append, List.map_cons]) a _ (List.mem_map.2 ⟨a, hal, rfl⟩)
  simp only [hoa, hob] at this
  refine ⟨fun h => hmk (this.1 h), fun h => ?_⟩
  cases ht : (maskAt (masks ops 0 []) ops.length b.idx).testBit a.idx with
  | true => exact .inl (hmk ht)
  | false =>
    rcases this.2 h with h1 | h1
    · rw [ht] at h1; cases h1
    · refine .inr ⟨rfl, ?_⟩
      unfold isNext at h1
      split at h1
      · rename_i j hj; rw [hj, Nat.eq_of_beq_eq_true h1]
      · cases h1

theorem Built.rec_at (B : Built E ops fr hp sz next0 recs next1) {r : Rec} (hr : r ∈ recs) : recAt recs r.idx = some r := by
  have : ∀ l : List Rec, r ∈ l → (∀ q ∈ l, q ∈ recs) → recAt l r.idx = some r := by
    intro l
    induction l with
    | nil => intro h; cases h
    | cons q l ih =>
      intro h hs
      simp only [recAt]
      cases hb : q.idx.beq r.idx with
      | true => rw [B.inj (hs q (List.mem_cons_self ..)) hr (Nat.eq_of_beq_eq_true hb)]
      | false =>
        rcases List.mem_cons.1 h with rfl | h
        · rw [Nat.beq_refl] at hb; cases hb
        · exact ih h fun q hq => hs q (List.mem_cons_of_mem _ hq)
  exact this recs hr fun _ h => h
theorem commsAt_mem {ms : List Nat} {b r : Rec} {o : Oper} {l : List Rec} : ∀ {pre : List Rec}, r.idx < b.idx → soft r b = true → (maskAt ms ops.length b.idx).testBit r.idx = false → ops[r.idx]? = some o → commP E fr hp l r o b ∈ commsAt E fr hp ops ms b (pre ++ r :: l) := by
  intro pre
  induction pre with
  | nil =>
    intro h0 h1 h2 h3
    have h0 : Nat.ble (r.idx + 1) b.idx = true := Nat.ble_eq_true_of_le h0
    simp only [List.nil_append, commsAt, h0, h1, h2, h3, Bool.not_false, Bool.and_self]
    exact List.mem_append_left _ (List.mem_cons_self ..)
  | cons q pre ih =>
    intro h0 h1 h2 h3
    simp only [List.cons_append, commsAt]
    exact List.mem_append_right _ (ih h0 h1 h2 h3)

theorem meets_of {a b : List Nat} {x : Nat} (h1 : x ∈ a) (h2 : x ∈ b) : meets a b = true := List.any_eq_true.2 ⟨x, h1, memN_iff.2 h2⟩
theorem keysN_eq (ws : List (Nat × Option Cont)) : keysN ws = keys ws := by
  induction ws with
  | nil => rfl
  | cons p ws ih => obtain ⟨r, c⟩ := p; simp only [keysN, keys, List.map_cons, ih]
theorem memD_of {o : Option Nat} {d : Nat} {l : List Nat} (h : isDst o d = true) (hd : d ∈ l) : memD o l = true := by
  rw [isDst_iff.1 h]; exact memN_iff.2 hd

theorem ready_draw (B : Built E ops fr hp sz next0 recs next1) (hd : drawOk ops recs = true) (hcm : ∀ p ∈ comms E fr hp ops recs, p) {S : Nat → Prop} (hS : ClosedS ops S) (hSL : ∀ q ∈ recs, L q = true ↔ S q.idx) {r : Rec} (hr : r ∈ recs) {o : Oper} (ho : ops[r.idx]? = some o)
    (hrs : ReadyS ops S r.idx) (hL : L r = false) : Ready E fr hp (softIdx (masks ops 0 []) ops.length recs) ops o recs L r := by
  have hnS : ¬ S r.idx := fun h => by have := (hSL r hr).2 h; rw [hL] at this; cases this
  have lo : ∀ q ∈ recs, ∀ oq, ops[q.idx]? = some oq → q.idx < r.idx → hard q r (readsOf ops oq) (readsOf ops o) = true → L q = true := fun q hq oq hoq hlt hc =>
    (hSL q hq).2 ((B.ordered hd hS hq hr hlt hoq ho hrs).1 hc)
  have hi : ∀ q ∈ recs, ∀ oq, ops[q.idx]? = some oq → r.idx < q.idx → hard r q (readsOf ops o) (readsOf ops oq) = true → L q = false := fun q hq oq hoq hlt hc => by
    cases hLq : L q with
    | false => rfl
    | true => exact (hnS ((B.ordered hd hS hr hq hlt ho hoq (hS _ ((hSL q hq).1 hLq))).1 hc)).elim
  refine ⟨fun d hdr q hq hqd => ?_, fun n hn q hq hqn => ?_, fun n c hc q hq hLq hqn => ?_⟩
  · obtain ⟨oq, hoq, _⟩ := B.op hq
    have hmd := memD_of hqd hdr
    rcases Nat.lt_trichotomy q.idx r.idx with h | h | h
    · rw [lo q hq oq hoq h (by simp [hard, hmd])]; simp [h]
    · have := B.inj hq hr h
      subst this
      rw [hL]; simp
    · rw [hi q hq oq hoq h (by simp [hard, hmd])]; have : ¬ q.idx < r.idx := by omega
      simp [this]
  · obtain ⟨oq, hoq, _⟩ := B.op hq
    obtain ⟨c, hc⟩ := hqn
    have hmt := meets_of (a := keysN q.ws) (b := r.tch) (x := n) (by rw [keysN_eq]; exact find_key hc) hn
    rcases Nat.lt_trichotomy q.idx r.idx with h | h | h
    · left
      rw [lo q hq oq hoq h (by simp [hard, hmt])]; simp [h]
    · left
      have := B.inj hq hr h
      subst this
      rw [hL]; simp
    · cases hLq : L q with
      | false =>
        left
        have : ¬ q.idx < r.idx := by omega
        simp [this]
      | true =>
        right
        rcases (B.ordered hd hS hr hq h ho hoq (hS _ ((hSL q hq).1 hLq))).2 hmt with h1 | ⟨h1, h2⟩
        · exact (hnS h1).elim
        · refine ⟨h2, h, rfl, ?_⟩
          obtain ⟨pre, l, o', e, hB, hA, hpre, _⟩ := B.split hr
          rw [(B.sides e hB hA hpre).2]
          refine hcm _ ?_
          unfold comms
          rw [h2]
          simp only [B.rec_at hq]
          have := commsAt_mem (E := E) (fr := fr) (hp := hp) (ops := ops) (l := l) (pre := pre) h hmt h1 ho
          rw [← e] at this
          exact this
  · obtain ⟨c', hc'⟩ := hqn
    obtain ⟨oq, hoq, _⟩ := B.op hq
    rcases Nat.lt_trichotomy q.idx r.idx with h | h | h
    · exact h
    · have := B.inj hq hr h
      subst this
      rw [hL] at hLq; cases hLq
    · have := meets_of (a := keysN r.ws) (b := keysN q.ws) (x := n) (by rw [keysN_eq]; exact find_key hc) (by rw [keysN_eq]; exact find_key hc')
      have := hi q hq oq hoq h (by simp [hard, this])
      rw [this] at hLq; cases hLq

theorem edgesOk_ok : ∀ {l : List Oper} {n : Nat}, edgesOk l n = true → ∀ i o, l[i]? = some o → ∀ e ∈ o.after.toList, bindsB e.ground = true → e.on < n + i := by
  intro l
  induction l with
  | nil => intro n _ i o h; simp at h
  | cons o l ih =>
    intro n h i o' hi e he hb
    simp only [edgesOk, Bool.and_eq_true] at h
    cases i with
    | zero =>
      simp at hi; subst hi
      have := List.all_eq_true.1 h.1 e he
      simp only [hb] at this
      exact Nat.le_of_ble_eq_true this
    | succ i =>
      have := ih h.2 i o' (by simpa using hi) e he hb
      omega

theorem binds_any (e : Edge) : Region.binds .any e = bindsB e.ground := by
  unfold Region.binds bindsB
  cases e.ground <;> rfl

theorem ready_iff {listed : Array Bool} {i : Nat} (hsz : listed.size = ops.length) : i ∈ Region.ready .any ops.toArray listed ↔ i < ops.length ∧ listed.getD i false = false ∧ ReadyS ops (fun i => listed.getD i false = true) i := by
  unfold Region.ready
  rw [List.mem_filter]
  simp only [List.mem_range, List.size_toArray, Bool.and_eq_true]
  constructor
  · rintro ⟨h1, h2, h3⟩
    refine ⟨h1, ?_, ?_⟩
    · have hlt : i < listed.size := by omega
      simpa [Array.getD, hlt] using h2
    · intro o ho e he hb
      have : ops.toArray[i]? = some o := by simpa using ho
      rw [this] at h3
      simp only [Option.map_some, Option.getD_some, Array.all_eq_true'] at h3
      have := h3 e (by simpa using he)
      rw [binds_any, hb] at this
      simpa using this
  · rintro ⟨h1, h2, h3⟩
    refine ⟨h1, ?_, ?_⟩
    · have hlt : i < listed.size := by omega
      simpa [Array.getD, hlt] using h2
    · have ho : ops[i]? = some ops[i] := List.getElem?_eq_getElem h1
      have hoa : ops.toArray[i]? = some ops[i] := by simp [h1]
      rw [hoa]
      simp only [Option.map_some, Option.getD_some, Array.all_eq_true']
      intro e he
      rw [binds_any]
      cases hb : bindsB e.ground with
      | false => rfl
      | true => simpa using h3 _ ho e (by simpa using he) hb

theorem region_any (EO : EnvOk P C gl E) (B : Built E ops fr hp sz next0 recs next1) (hlen : recs.length = ops.length) (hd : drawOk ops recs = true) (hcm : ∀ p ∈ comms E fr hp ops recs, p)
    (hQ : ∀ a W R ρ, InvR C gl W0 R0 own0 ρs fr hp sz next1 recs (fun _ => true) a W R ρ → Q .normal a W) :
    ∀ (fuel : Nat) (listed : Array Bool) {a : Act} {W : World} {R : Nat → Prop} {ρ : Nat → Option Value}, listed.size = ops.length → ClosedS ops (fun i => listed.getD i false = true) →
      (recs.filter fun q => !listed.getD q.idx false).length ≤ fuel → InvR C gl W0 R0 own0 ρs fr hp sz next1 recs (fun q => listed.getD q.idx false) a W R ρ → wpAny P .any ops.toArray Q fuel listed a W := by
  have hed : edgesOk ops 0 = true := by unfold drawOk at hd; rw [Bool.and_eq_true] at hd; exact hd.1
  intro fuel
  induction fuel with
  | zero =>
    intro listed a W R ρ hsz hcl hn I
    have hall : ∀ q ∈ recs, listed.getD q.idx false = true := fun q hq => by
      have := List.filter_eq_nil_iff.1 (List.eq_nil_of_length_eq_zero (Nat.le_zero.1 hn)) q hq
      simpa using this
    refine ⟨?_, hQ a W R ρ (I.congr fun q hq => hall q hq)⟩
    apply List.eq_nil_iff_forall_not_mem.2
    intro i hi
    obtain ⟨h1, h2, _⟩ := (ready_iff hsz).1 hi
    obtain ⟨r, hr, rfl⟩ := B.at i (by omega)
    rw [hall r hr] at h2; cases h2
  | succ fuel ih =>
    intro listed a W R ρ hsz hcl hn I
    refine ⟨fun hnil => ?_, fun i hi => ?_⟩
    · have hall : ∀ i, i < ops.length → listed.getD i false = true := by
        intro i
        induction i using Nat.strongRecOn with
        | _ i ihi =>
          intro hlt
          cases hli : listed.getD i false with
          | true => rfl
          | false =>
            have : i ∈ Region.ready .any ops.toArray listed := (ready_iff hsz).2 ⟨hlt, hli, fun o ho e he hb => by
              have := edgesOk_ok hed i o ho e he hb
              exact ihi e.on (by omega) (by omega)⟩
            rw [hnil] at this; cases this
      exact hQ a W R ρ (I.congr fun q hq => hall _ (by have := (B.mem q hq).1; omega))
    · obtain ⟨h1, h2, h3⟩ := (ready_iff hsz).1 hi
      obtain ⟨r, hr, rfl⟩ := B.at i (by omega)
      obtain ⟨o, ho, _⟩ := B.op hr
      have hlt : r.idx < listed.size := by omega
      have hset : ∀ j, (listed.setIfInBounds r.idx true).getD j false = (listed.getD j false || j == r.idx) := fun j => by
        by_cases hj : r.idx = j
        · subst hj; simp [Array.getD_eq_getD_getElem?, Array.getElem?_setIfInBounds, hlt]
        · have : (j == r.idx) = false := by simpa using fun h => hj h.symm
          simp [Array.getD_eq_getD_getElem?, Array.getElem?_setIfInBounds, hj, this]
      refine step_ok EO B hr ho h2 (ready_draw B hd hcm hcl (fun q hq => Iff.rfl) hr ho h3 h2) I _ fun a W R ρ I => ?_
      refine ih _ (by simpa using hsz) ?_ ?_ (I.congr fun q hq => (hset q.idx).symm)
      · intro i hi o' ho' e he hb
        rw [hset] at hi ⊢
        rw [Bool.or_eq_true] at hi ⊢
        rcases hi with hi | hi
        · exact .inl (hcl i hi o' ho' e he hb)
        · have : i = r.idx := by simpa using hi
          subst this
          exact .inl (h3 o' ho' e he hb)
      · have e : (recs.filter fun q => !(listed.setIfInBounds r.idx true).getD q.idx false) = (recs.filter fun q => !listed.getD q.idx false).filter fun q => !(q.idx == r.idx) := by
          rw [List.filter_filter]
          refine List.filter_congr fun q hq => ?_
          rw [hset, Bool.not_or, Bool.and_comm]
        have hlt' : ((recs.filter fun q => !listed.getD q.idx false).filter fun q => !(q.idx == r.idx)).length < (recs.filter fun q => !listed.getD q.idx false).length := by
          rw [List.length_filter_lt_length_iff_exists]
          exact ⟨r, List.mem_filter.2 ⟨hr, by rw [h2]; rfl⟩, by simp⟩
        rw [e]; omega
end
end Go.Sy
