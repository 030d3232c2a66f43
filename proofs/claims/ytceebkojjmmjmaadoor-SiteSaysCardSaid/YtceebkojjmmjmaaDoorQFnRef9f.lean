/- Contracts that the proofs use. -/
import Derived.Test.YtceebkojjmmjmaaDoorQFnRef9c
import Derived.Test.YtceebkojjmmjmaaDoorQFnRef9d
set_option linter.unusedVariables false
set_option linter.unusedSimpArgs false
set_option linter.unusedSectionVars false
set_option linter.unusedSectionVars false
namespace Go.Proofs.YtceebkojjmmjmaaDoor
open Go.RowKit Go.Sy Go.Fac
theorem crE_npf (c m : List Int) (cr : List Rel) (sy : List Sm) (i : Nat) : (crE c m cr sy i).isPlaced = false := by
  unfold crE; simp only; split
  · rfl
  · exact relocE_np
structure Code9 (c m : List Int) : Prop where
  len : m.length = c.length
  one : ∀ j, j < c.length → m.getD j 0 = 1 → insB c m j = true ∧ (insI c m j).op = opW (c.getD j 0) ∧ (isaTwo (opW (c.getD j 0)) = true → m.getD (j + 1) 0 = 0)
  zero : ∀ j, j < c.length → m.getD j 0 = 0 → 0 < j ∧ m.getD (j - 1) 0 = 1
  all : ∀ j, j < c.length → m.getD j 0 = 0 ∨ m.getD j 0 = 1 ∨ m.getD j 0 = 2
theorem insB_one {c m : List Int} {j : Int} (h : insB c m j = true) : 0 ≤ j ∧ j < c.length ∧ m.getD j.toNat 0 = 1 := by
  unfold insB begM at h
  simp only [Bool.and_eq_true, Bool.not_eq_true', Bool.or_eq_false_iff, decide_eq_false_iff_not, Bool.not_eq_false', decide_eq_true_eq] at h
  omega
theorem code9_of {c m : List Int} (hl : m.length = c.length) (hw : (firstE (wdE c m) c.length).isErr = false) : Code9 c m := by
  have hall := firstE_all (f := wdE c m) (fun i => wordE_np c m i) hw
  refine ⟨hl, fun j hj hm => ?_, fun j hj hm => ?_, fun j hj => ?_⟩
  · obtain ⟨a, b⟩ := ins_is hl hj hm
    have h := hall j hj
    unfold wdE wordE at h
    have t1 : ((j : Int) + 1).toNat = j + 1 := by omega
    rw [Int.toNat_natCast, t1, if_pos hm, a, b] at h
    split at h
    · cases h
    · rename_i g
      rw [Bool.or_eq_true, not_or] at g
      have ho : ofOk (c.getD j 0) = true := by simpa using g.1
      have hop : (inS c j).op = opW (c.getD j 0) := by unfold inS ofF; rw [if_pos ho]
      rw [hop] at h
      refine ⟨by rw [a, ho], by rw [b, hop], fun ht => ?_⟩
      split at h
      · cases h
      · rename_i g2
        rw [ht, Bool.true_and, Bool.or_eq_true, not_or] at g2
        have := g2.2
        simp only [Bool.not_eq_true', decide_eq_false_iff_not, Classical.not_not] at this
        exact this
  · have h := hall j hj
    unfold wdE wordE at h
    rw [Int.toNat_natCast, if_neg (show ¬ m.getD j 0 = 1 by omega), if_pos hm] at h
    split at h
    · cases h
    · rename_i g
      rw [Bool.or_eq_true, not_or] at g
      have h0 : ¬ (j : Int) = 0 := by simpa using g.1
      have ht : twoB c m ((j : Int) - 1) = true := by simpa using g.2
      unfold twoB at ht
      rw [Bool.and_eq_true] at ht
      have := insB_one ht.1
      have e : ((j : Int) - 1).toNat = j - 1 := by omega
      rw [e] at this
      exact ⟨by omega, this.2.2⟩
  · have h := hall j hj
    unfold wdE wordE at h
    rw [Int.toNat_natCast] at h
    by_cases h1 : m.getD j 0 = 1
    · exact .inr (.inl h1)
    · by_cases h0 : m.getD j 0 = 0
      · exact .inl h0
      · rw [if_neg h1, if_neg h0] at h
        split at h
        · rename_i h2; exact .inr (.inr h2)
        · cases h
theorem farM_jump (o : Int) : farM o = jumpM o := rfl
theorem shp9_eq {c m : List Int} (hC : Code9 c m) (cr : List Rel) (sy : List Sm) (i : Nat) (h0 : 0 ≤ (cr.getD i RT.rel.dflt).at_) (h1 : (cr.getD i RT.rel.dflt).at_ < c.length) :
    shp9 c m cr sy i = !shapeB c m sy (cr.getD i RT.rel.dflt).at_ (cr.getD i RT.rel.dflt).kind (cr.getD i RT.rel.dflt).sym (cr.getD i RT.rel.dflt).add := by
  unfold shp9 shapeB dat9
  generalize cr.getD i RT.rel.dflt = r at *
  obtain ⟨ra, rk, rs, rx⟩ := r
  simp only at *
  obtain ⟨a, rfl⟩ := Int.eq_ofNat_of_zero_le h0
  have ha : a < c.length := by omega
  generalize (sy.getD rs.toNat RT.sym.dflt).in_ = s at *
  by_cases hk : rk = 2
  · rw [if_pos hk, if_pos hk]
    unfold short9
    rw [Int.toNat_natCast]
    by_cases m1 : m.getD a 0 = 1
    · obtain ⟨b1, b2, _⟩ := hC.one a ha m1
      rw [b1, b2, decide_eq_true m1]
      show _ = !(true && shortM (opW (c.getD a 0)) && !decide (s = 1) && decide (rx = 0))
      have : (true && (decide (opW (c.getD a 0) = 16) || decide (opW (c.getD a 0) = 17) || decide (opW (c.getD a 0) = 18))) = shortM (opW (c.getD a 0)) := by rw [Bool.true_and]; rfl
      rw [this]
      cases shortM (opW (c.getD a 0)) <;> cases decide (s = 1) <;> cases decide (rx = 0) <;> rfl
    · have : insB c m a = false := by
        cases hh : insB c m a with
        | false => rfl
        | true => have := insB_one hh; rw [Int.toNat_natCast] at this; exact (m1 this.2.2).elim
      rw [this, decide_eq_false m1]
      simp
  · rw [if_neg hk, if_neg hk]
    rw [Int.toNat_natCast]
    unfold ahd9
    rw [Int.toNat_natCast]
    rcases hC.all a ha with m0 | m1 | m2
    · obtain ⟨p1, p2⟩ := hC.zero a ha m0
      have e : (a : Int) - 1 = ((a - 1 : Nat) : Int) := by omega
      obtain ⟨b1, b2, _⟩ := hC.one (a - 1) (by omega) p2
      rw [e, b1, b2, Int.toNat_natCast, decide_eq_true m0, decide_eq_true (show (0 : Int) < a by omega), if_pos (show (true && true) = true from rfl), farM_jump]
      generalize opW (c.getD (a - 1) 0) = A
      rw [decide_eq_false (show ¬ m.getD a 0 = 2 by omega), if_neg (show ¬ m.getD a 0 = 2 by omega)]
      have hx : jumpM A = true → decide (A = 14) = false ∧ decide (A = 15) = false := fun h => by
        unfold jumpM at h
        simp only [Bool.or_eq_true, decide_eq_true_eq] at h
        exact ⟨decide_eq_false (by omega), decide_eq_false (by omega)⟩
      cases hj : jumpM A with
      | true =>
        obtain ⟨x1, x2⟩ := hx hj
        rw [x1, x2]
        cases decide (s = 1) <;> cases decide (rx = 0) <;> rfl
      | false => cases decide (A = 14) <;> cases decide (A = 15) <;> cases decide (s = 1) <;> cases decide (rx = 0) <;> rfl
    · rw [decide_eq_false (show ¬ m.getD a 0 = 0 by omega), decide_eq_false (show ¬ m.getD a 0 = 2 by omega), if_neg (show ¬ m.getD a 0 = 2 by omega), Bool.and_false, if_neg (by simp)]
      have : jumpM 0 = false := rfl
      rw [this]
      simp
    · rw [decide_eq_false (show ¬ m.getD a 0 = 0 by omega), decide_eq_true m2, if_pos m2, Bool.and_false, if_neg (by simp)]
      have : jumpM 0 = false := rfl
      rw [this]
      cases decide (s = 1) <;> cases decide (rx = 0) <;> rfl
theorem cr9_eq {c m : List Int} (hC : Code9 c m) (cr : List Rel) (sy : List Sm) (i : Nat) : cr9 c m cr sy i = crE c m cr sy i := by
  have hr : rng9 cr c.length sy i (!decide ((cr.getD i RT.rel.dflt).kind = 1) && !decide ((cr.getD i RT.rel.dflt).kind = 2)) = relocB sy.length (cr.getD i RT.rel.dflt).at_ (cr.getD i RT.rel.dflt).kind (cr.getD i RT.rel.dflt).sym (cr.getD i RT.rel.dflt).add (lastR cr i) c.length 2 := by
    unfold rng9 relocB farB9
    rw [Bool.eq_iff_iff]
    simp only [Bool.or_eq_true, Bool.and_eq_true, decide_eq_true_eq, Bool.not_eq_true', decide_eq_false_iff_not]
    omega
  have hs := shp9_eq hC cr sy i
  unfold cr9 bcr9 crE relocE
  simp only
  rw [hr]
  cases hb : relocB sy.length (cr.getD i RT.rel.dflt).at_ (cr.getD i RT.rel.dflt).kind (cr.getD i RT.rel.dflt).sym (cr.getD i RT.rel.dflt).add (lastR cr i) c.length 2 with
  | true => rfl
  | false =>
    have hb' := hb
    unfold relocB at hb'
    simp only [Bool.or_eq_false_iff, decide_eq_false_iff_not] at hb'
    have hf : (if false = true then FErr.bare 103 else FErr.fine) = FErr.fine := rfl
    rw [hs (by omega) (by omega), hf]
    cases shapeB c m sy (cr.getD i RT.rel.dflt).at_ (cr.getD i RT.rel.dflt).kind (cr.getD i RT.rel.dflt).sym (cr.getD i RT.rel.dflt).add <;> rfl
theorem crels9_eq {c m : List Int} (hC : Code9 c m) (cr : List Rel) (sy : List Sm) : firstE (cr9 c m cr sy) cr.length = firstE (crE c m cr sy) cr.length := firstE_ext _ fun i _ _ => cr9_eq hC cr sy i
theorem rel9_is (l : List Rel) (a : Int) : ∀ n, (rel9 l a n < 0 ↔ ∀ j, j < n → (l.getD j RT.rel.dflt).at_ ≠ a) ∧ (rel9 l a n = -1 ∨ 0 ≤ rel9 l a n)
  | 0 => ⟨⟨fun _ j hj => by omega, fun _ => (by show (-1 : Int) < 0; decide)⟩, .inl rfl⟩
  | n + 1 => by
    obtain ⟨h1, h2⟩ := rel9_is l a n
    rw [rel9]
    by_cases e : rel9 l a n = -1
    · rw [if_pos e]
      have hn := h1.1 (by omega)
      by_cases g : (l.getD n RT.rel.dflt).at_ = a
      · rw [if_pos g]
        exact ⟨⟨fun h => by omega, fun h => (h n (by omega) g).elim⟩, .inr (by omega)⟩
      · rw [if_neg g]
        refine ⟨⟨fun _ j hj => ?_, fun _ => by decide⟩, .inl rfl⟩
        by_cases k : j = n
        · rw [k]; exact g
        · exact hn j (by omega)
    · rw [if_neg e]
      refine ⟨⟨fun h => by omega, fun h => ?_⟩, h2⟩
      exact h1.2 fun j hj => h j (by omega)
theorem atM_is (l : List Rel) (a : Int) : ∀ n, ((∀ j, j < n → (l.getD j RT.rel.dflt).at_ ≠ a) ∧ mapGet (atM l n) a = 0) ∨ ∃ j, j < n ∧ (l.getD j RT.rel.dflt).at_ = a ∧ mapGet (atM l n) a = (l.getD j RT.rel.dflt).kind
  | 0 => .inl ⟨fun j hj => by omega, rfl⟩
  | n + 1 => by
    rw [atM]
    by_cases g : (l.getD n RT.rel.dflt).at_ = a
    · refine .inr ⟨n, by omega, g, ?_⟩
      rw [g, get_put]
    · rw [get_put_ne _ _ _ _ g]
      rcases atM_is l a n with ⟨h1, h2⟩ | ⟨j, h1, h2, h3⟩
      · refine .inl ⟨fun j hj => ?_, h2⟩
        by_cases k : j = n
        · rw [k]; exact g
        · exact h1 j (by omega)
      · exact .inr ⟨j, by omega, h2, h3⟩
theorem crE_kind {c m : List Int} {cr : List Rel} {sy : List Sm} {j : Nat} (h : (crE c m cr sy j).isErr = false) :
    ((cr.getD j RT.rel.dflt).kind = 2 ∧ m.getD (cr.getD j RT.rel.dflt).at_.toNat 0 = 1) ∨ ((cr.getD j RT.rel.dflt).kind = 1 ∧ m.getD (cr.getD j RT.rel.dflt).at_.toNat 0 ≠ 1) := by
  unfold crE at h
  simp only at h
  split at h
  · cases h
  · rename_i g
    have hk := relocE_ok h
    have hs : shapeB c m sy (cr.getD j RT.rel.dflt).at_ (cr.getD j RT.rel.dflt).kind (cr.getD j RT.rel.dflt).sym (cr.getD j RT.rel.dflt).add = true := by
      rw [h] at g; simpa using g
    unfold shapeB at hs
    simp only at hs
    by_cases k2 : (cr.getD j RT.rel.dflt).kind = 2
    · rw [if_pos k2] at hs
      simp only [Bool.and_eq_true] at hs
      exact .inl ⟨k2, (insB_one hs.1.1.1).2.2⟩
    · rw [if_neg k2] at hs
      refine .inr ⟨by omega, ?_⟩
      split at hs
      · cases hs
      · split at hs
        · rename_i m2; omega
        · simp only [Bool.and_eq_true, decide_eq_true_eq] at hs
          omega
theorem far_two {o : Int} (h : (jumpM o || decide (o = 15)) = true) : isaTwo o = true := by
  unfold jumpM at h
  simp only [Bool.or_eq_true, decide_eq_true_eq] at h
  rcases h with (((h | h) | h) | h) | h <;> subst h <;> decide
theorem nd9_eq {c m : List Int} (hC : Code9 c m) {cr : List Rel} {sy : List Sm} (hr : (firstE (crE c m cr sy) cr.length).isErr = false) {i : Nat} (hi : i < c.length) : nd9 c m cr i = needE c m cr i := by
  have hall := firstE_all (fun i => crE_npf c m cr sy i) hr
  unfold nd9 bnd9 needE badE
  have key : (decide (m.getD i 0 = 1) && ((short9 c m i && decide (rel9 cr i cr.length < 0)) || ((jumpM (opW (c.getD i 0)) || decide (opW (c.getD i 0) = 15)) && decide (rel9 cr ((i : Int) + 1) cr.length < 0)))) =
      (insB c m i && ((shortM (insI c m i).op && !decide (mapGet (atM cr cr.length) (i : Int) = 2)) || ((farM (insI c m i).op || decide ((insI c m i).op = 15)) && !decide (mapGet (atM cr cr.length) ((i : Int) + 1) = 1)))) := by
    by_cases m1 : m.getD i 0 = 1
    · obtain ⟨b1, b2, b3⟩ := hC.one i hi m1
      rw [b1, b2, decide_eq_true m1, farM_jump]
      have hs : short9 c m i = shortM (opW (c.getD i 0)) := by
        unfold short9
        rw [Int.toNat_natCast, decide_eq_true m1, Bool.true_and]; rfl
      have e1 : decide (rel9 cr i cr.length < 0) = !decide (mapGet (atM cr cr.length) (i : Int) = 2) := by
        rcases atM_is cr i cr.length with ⟨h1, h2⟩ | ⟨j, h1, h2, h3⟩
        · rw [h2, decide_eq_true ((rel9_is cr i cr.length).1.2 h1)]; rfl
        · have hk := crE_kind (hall j h1)
          rw [h2, Int.toNat_natCast] at hk
          have k2 : (cr.getD j RT.rel.dflt).kind = 2 := by omega
          rw [h3, k2, decide_eq_false (fun g => (rel9_is cr i cr.length).1.1 g j h1 h2)]; rfl
      rw [hs, e1]
      cases hf : (jumpM (opW (c.getD i 0)) || decide (opW (c.getD i 0) = 15)) with
      | false => rfl
      | true =>
        have m0 := b3 (far_two hf)
        have t1 : ((i : Int) + 1).toNat = i + 1 := by omega
        have e2 : decide (rel9 cr ((i : Int) + 1) cr.length < 0) = !decide (mapGet (atM cr cr.length) ((i : Int) + 1) = 1) := by
          rcases atM_is cr ((i : Int) + 1) cr.length with ⟨h1, h2⟩ | ⟨j, h1, h2, h3⟩
          · rw [h2, decide_eq_true ((rel9_is cr ((i : Int) + 1) cr.length).1.2 h1)]; rfl
          · have hk := crE_kind (hall j h1)
            rw [h2, t1] at hk
            have k1 : (cr.getD j RT.rel.dflt).kind = 1 := by omega
            rw [h3, k1, decide_eq_false (fun g => (rel9_is cr ((i : Int) + 1) cr.length).1.1 g j h1 h2)]; rfl
        rw [e2]
    · have : insB c m i = false := by
        cases hh : insB c m i with
        | false => rfl
        | true => have := insB_one hh; rw [Int.toNat_natCast] at this; exact (m1 this.2.2).elim
      rw [this, decide_eq_false m1]
      rfl
  rw [key]
  split <;> rfl
theorem full9_eq (d c m : List Int) (dr cr : List Rel) (sy : List Sm) : full9 d c m dr cr sy = validE d c m dr cr sy := by
  unfold full9 validE
  by_cases h1 : manyB d c dr cr sy = true
  · rw [if_pos h1, if_pos h1]
  · rw [if_neg h1, if_neg h1]
    by_cases h2 : (!decide ((m.length : Int) = c.length)) = true
    · rw [if_pos h2, if_pos h2]
    · rw [if_neg h2, if_neg h2]
      have hl : m.length = c.length := by simp at h2; omega
      have w := code9_eq hl
      have y := syms9_eq d c m sy
      have r := drels9_eq d dr sy
      unfold vld9 bas9 relocsE
      rw [w, y, r]
      by_cases e1 : (firstE (wdE c m) c.length).isErr = true
      · rw [if_pos e1, if_pos e1, if_pos e1]
      · have e1' : (firstE (wdE c m) c.length).isErr = false := by simpa using e1
        have hC := code9_of hl e1'
        rw [if_neg e1, if_neg e1]
        by_cases e2 : (firstE (syE d c m sy) sy.length).isErr = true
        · rw [if_pos e2, if_pos e2, if_pos e2]
        · rw [if_neg e2, if_neg e2]
          by_cases e3 : (firstE (drE d dr sy) dr.length).isErr = true
          · rw [if_pos e3, if_pos e3, if_pos e3]
          · rw [if_neg e3, if_neg e3, crels9_eq hC]
            by_cases e4 : (firstE (crE c m cr sy) cr.length).isErr = true
            · rw [if_pos e4, if_pos e4]
            · rw [if_neg e4, if_neg e4]
              exact firstE_ext _ fun i hi _ => nd9_eq hC (by simpa using e4) hi
end Go.Proofs.YtceebkojjmmjmaaDoor

