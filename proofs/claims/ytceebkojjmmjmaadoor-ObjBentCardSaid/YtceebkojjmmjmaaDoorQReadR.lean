/- Contracts that the proofs use. -/
import Derived.Test.YtceebkojjmmjmaaDoorQReadQ
set_option linter.unusedVariables false
set_option linter.unusedSimpArgs false
namespace Go.Proofs.YtceebkojjmmjmaaDoor
open Go.RowKit Go.Sy Go.Fac
def wrd (l : List Int) : Prop := ∀ x ∈ l, 0 ≤ x ∧ x < 4294967296
theorem wsX_is (l : List Int) (e : FErr) (n : Nat) : wsX l e n = if noneQ (wsP l e) n = true then (wsS l e n).2.2 else [] := hide_eq _
theorem rlX_is (l : List Int) (e : FErr) (n : Nat) : rlX l e n = if noneQ (rlP l e) n = true then (rlS l e n).2.2 else [] := hide_eq _
theorem syX_is (l : List Int) (e : FErr) (n : Nat) : syX l e n = if noneQ (syP l e) n = true then (syS l e n).2.2 else [] := hide_eq _
theorem wsX_fine {l : List Int} {e : FErr} {n : Nat} (h : (wsS l e n).2.1.isErr = false) : wsX l e n = (wsS l e n).2.2 := by
  rw [wsX_is, if_pos (show noneQ (wsP l e) n = true from it_none h)]
theorem rlX_fine {l : List Int} {e : FErr} {n : Nat} (h : (rlS l e n).2.1.isErr = false) : rlX l e n = (rlS l e n).2.2 := by
  rw [rlX_is, if_pos (show noneQ (rlP l e) n = true from it_none h)]
theorem syX_fine {l : List Int} {e : FErr} {n : Nat} (h : (syS l e n).2.1.isErr = false) : syX l e n = (syS l e n).2.2 := by
  rw [syX_is, if_pos (show noneQ (syP l e) n = true from it_none h)]
theorem ws_print (d y : List Int) (h : wrd d) : wsS (wordsB d ++ y) .fine d.length = (y, .fine, d) := by
  have := it_print (fL := w4L) (fE := w4E) (fX := w4W) (pr := wordB) (ok := fun w => 0 ≤ w ∧ w < 4294967296) (fun a y h => w4_print y h) d y h d.length (Nat.le_refl _)
  rw [List.drop_length, List.take_length] at this
  exact this
theorem rl_print (d : List Rel) (y : List Int) (h : ∀ r ∈ d, okR r) : rlS (relsB d ++ y) .fine d.length = (y, .fine, d) := by
  have := it_print (fL := rcL) (fE := rcE) (fX := rcX) (pr := relB) (ok := okR) (fun a y h => rel_print a y h) d y h d.length (Nat.le_refl _)
  rw [List.drop_length, List.take_length] at this
  exact this
theorem sy_print (d : List Sm) (y : List Int) (h : ∀ r ∈ d, okS r) : syS (symsB d ++ y) .fine d.length = (y, .fine, d) := by
  have := it_print (fL := smL) (fE := smE) (fX := smX) (pr := symB) (ok := okS) (fun a y h => sym_print a y h) d y h d.length (Nat.le_refl _)
  rw [List.drop_length, List.take_length] at this
  exact this
theorem valid_parts {d c m : List Int} {dr cr : List Rel} {sy : List Sm} (h : (validE d c m dr cr sy).isErr = false) : (∀ r ∈ dr, okR r) ∧ (∀ r ∈ cr, okR r) ∧ (∀ s ∈ sy, okS s) := by
  obtain ⟨v1, v2, v3, v4, v5, v6, v7, v8, v9⟩ := valid_size h
  have hser := valid_ser h
  unfold relocsE at v9
  have v10 : (firstE (drE d dr sy) dr.length).isErr = false := by
    cases hc : (firstE (drE d dr sy) dr.length).isErr with
    | false => rfl
    | true => rw [if_pos hc, hc] at v9; cases v9
  rw [if_neg (by rw [v10]; decide)] at v9
  have v11 : (firstE (crE c m cr sy) cr.length).isErr = false := by
    cases hc : (firstE (crE c m cr sy) cr.length).isErr with
    | false => rfl
    | true => rw [if_pos hc, hc] at v9; cases v9
  have npD : ∀ i, (drE d dr sy i).isPlaced = false := fun i => by
    unfold drE; simp only; split
    · rfl
    · exact relocE_np
  have npC : ∀ i, (crE c m cr sy i).isPlaced = false := fun i => by
    unfold crE; simp only; split
    · rfl
    · exact relocE_np
  refine ⟨fun r hr => ?_, fun r hr => ?_, fun s hs => ?_⟩
  · obtain ⟨i, hi, he⟩ := List.mem_iff_getElem.1 hr
    have h1 := firstE_all npD v10 i hi
    have hg : dr.getD i RT.rel.dflt = r := by rw [List.getD_eq_getElem?_getD, List.getElem?_eq_getElem hi, Option.getD_some, he]
    unfold drE at h1
    rw [hg] at h1
    simp only at h1
    split at h1
    · cases h1
    · have := relocE_ok h1
      unfold okR; omega
  · obtain ⟨i, hi, he⟩ := List.mem_iff_getElem.1 hr
    have h1 := firstE_all npC v11 i hi
    have hg : cr.getD i RT.rel.dflt = r := by rw [List.getD_eq_getElem?_getD, List.getElem?_eq_getElem hi, Option.getD_some, he]
    unfold crE at h1
    rw [hg] at h1
    simp only at h1
    split at h1
    · cases h1
    · have := relocE_ok h1
      unfold okR; omega
  · obtain ⟨i, hi, he⟩ := List.mem_iff_getElem.1 hs
    have h1 := firstE_all (fun i => symE_np d c m _ _ _ _ _) v8 i hi
    have hg : sy.getD i RT.sym.dflt = s := by rw [List.getD_eq_getElem?_getD, List.getElem?_eq_getElem hi, Option.getD_some, he]
    unfold syE symE at h1
    rw [hg] at h1
    have h7 := hser.2.2.2.2.2.2 s hs
    split at h1
    · cases h1
    · split at h1
      · cases h1
      · split at h1
        · rename_i hf
          refine ⟨?_, ?_, h7⟩
          · unfold symFine at hf
            repeat' split at hf
            all_goals first | omega | cases hf
          · unfold symFine at hf
            repeat' split at hf
            · simp only [Bool.or_eq_true, Bool.and_eq_true, decide_eq_true_eq] at hf; omega
            · simp only [Bool.and_eq_true, decide_eq_true_eq] at hf; omega
            · simp only [Bool.and_eq_true, decide_eq_true_eq] at hf; omega
            · cases hf
        · cases h1
section
variable {d c m : List Int} {dr cr : List Rel} {sy : List Sm}
theorem bytesO_is (y : List Int) (h : okSer d c m dr cr sy) : bytesO d c m dr cr sy ++ y = wordB 842225232 ++ (wordB d.length ++ (wordB c.length ++ (wordB dr.length ++ (wordB cr.length ++ (wordB sy.length ++ (wordsB d ++ (wordsB c ++ (m ++ (relsB dr ++ (relsB cr ++ (symsB sy ++ y))))))))))) := by
  obtain ⟨h1, h2, h3, h4, h5, h6, h7⟩ := h
  unfold bytesO bodyB headB lensL
  have e : wordsB (List.map IntKind.u32.wrap [((d.length : Nat) : Int), (c.length : Nat), (dr.length : Nat), (cr.length : Nat), (sy.length : Nat)]) = wordB d.length ++ (wordB c.length ++ (wordB dr.length ++ (wordB cr.length ++ wordB sy.length))) := by
    simp only [List.map_cons, List.map_nil]
    rw [w32_id (by omega), w32_id (x := (c.length : Nat)) (by omega), w32_id (x := (dr.length : Nat)) (by omega), w32_id (x := (cr.length : Nat)) (by omega), w32_id (x := (sy.length : Nat)) (by omega)]
    unfold wordsB; simp
  have e2 : wordsB [842225232] = wordB 842225232 := by unfold wordsB; simp
  rw [e, e2]
  simp only [List.append_assoc]
theorem read_print (hv : (validE d c m dr cr sy).isErr = false) (hd : wrd d) (hc : wrd c) (y : List Int) :
    24 ≤ (bytesO d c m dr cr sy ++ y).length ∧ w4W (bytesO d c m dr cr sy ++ y) .fine = 842225232 ∧ dX (bytesO d c m dr cr sy ++ y) = d ∧ cX (bytesO d c m dr cr sy ++ y) = c ∧ mX (bytesO d c m dr cr sy ++ y) = m ∧ drX (bytesO d c m dr cr sy ++ y) = dr ∧ crX (bytesO d c m dr cr sy ++ y) = cr ∧ sX (bytesO d c m dr cr sy ++ y) = sy ∧
    a6L (bytesO d c m dr cr sy ++ y) = y ∧ a6E (bytesO d c m dr cr sy ++ y) = .fine := by
  have hs := valid_ser hv
  obtain ⟨pD, pC, pS⟩ := valid_parts hv
  have hmc := (valid_size hv).2.1
  have eb := bytesO_is (d := d) (c := c) (m := m) (dr := dr) (cr := cr) (sy := sy) y hs
  obtain ⟨h1, h2, h3, h4, h5, h6, h7⟩ := hs
  generalize bytesO d c m dr cr sy ++ y = b at *
  obtain ⟨m1, m2, m3⟩ := w4_print (w := 842225232) (wordB d.length ++ (wordB c.length ++ (wordB dr.length ++ (wordB cr.length ++ (wordB sy.length ++ (wordsB d ++ (wordsB c ++ (m ++ (relsB dr ++ (relsB cr ++ (symsB sy ++ y))))))))))) (by decide)
  rw [← eb] at m1 m2 m3
  have hh := hd_print (d.length : Nat) (c.length : Nat) (dr.length : Nat) (cr.length : Nat) (sy.length : Nat) (wordsB d ++ (wordsB c ++ (m ++ (relsB dr ++ (relsB cr ++ (symsB sy ++ y)))))) (by omega) (by omega) (by omega) (by omega) (by omega)
  rw [← m1] at hh
  have hA0 : a0L b = wordsB d ++ (wordsB c ++ (m ++ (relsB dr ++ (relsB cr ++ (symsB sy ++ y))))) := by show Fac.hide _ = _; rw [hide_eq, m2, hh]
  have hE0 : a0E b = .fine := by show Fac.hide _ = _; rw [hide_eq, m2, hh]
  have hN : ∀ j, nN b j = [((d.length : Nat) : Int), (c.length : Nat), (dr.length : Nat), (cr.length : Nat), (sy.length : Nat)].getD j 0 := fun j => by rw [nN_is, m2, hh]
  have n0 : (nN b 0).toNat = d.length := by rw [hN]; rfl
  have n1 : (nN b 1).toNat = c.length := by rw [hN]; rfl
  have n1' : nN b 1 = (c.length : Nat) := by rw [hN]; rfl
  have n2 : (nN b 2).toNat = dr.length := by rw [hN]; rfl
  have n3 : (nN b 3).toNat = cr.length := by rw [hN]; rfl
  have n4 : (nN b 4).toNat = sy.length := by rw [hN]; rfl
  have p1 := ws_print d (wordsB c ++ (m ++ (relsB dr ++ (relsB cr ++ (symsB sy ++ y))))) hd
  rw [← hA0, ← hE0, ← n0] at p1
  have x1 : dX b = d := by show Fac.hide _ = _; rw [hide_eq, wsX_fine (by rw [p1, hE0]; rfl), p1]
  have hA1 : a1L b = wordsB c ++ (m ++ (relsB dr ++ (relsB cr ++ (symsB sy ++ y)))) := by show Fac.hide _ = _; rw [hide_eq, p1]
  have hE1 : a1E b = .fine := by show Fac.hide _ = _; rw [hide_eq, p1]; exact hE0
  have p2 := ws_print c (m ++ (relsB dr ++ (relsB cr ++ (symsB sy ++ y)))) hc
  rw [← hA1, ← hE1, ← n1] at p2
  have x2 : cX b = c := by show Fac.hide _ = _; rw [hide_eq, wsX_fine (by rw [p2, hE1]; rfl), p2]
  have hA2 : a2L b = m ++ (relsB dr ++ (relsB cr ++ (symsB sy ++ y))) := by show Fac.hide _ = _; rw [hide_eq, p2]
  have hE2 : a2E b = .fine := by show Fac.hide _ = _; rw [hide_eq, p2]; exact hE1
  obtain ⟨q1, q2, q3⟩ := tk_print (n := nN b 1) (x := m) (y := relsB dr ++ (relsB cr ++ (symsB sy ++ y))) (by rw [n1']; omega)
  have x3 : mX b = m := by show Fac.hide _ = _; rw [hide_eq, hA2, hE2, q3]
  have hA3 : a3L b = relsB dr ++ (relsB cr ++ (symsB sy ++ y)) := by show Fac.hide _ = _; rw [hide_eq, hA2, hE2, q1]
  have hE3 : a3E b = .fine := by show Fac.hide _ = _; rw [hide_eq, hA2, hE2, q2]
  have p4 := rl_print dr (relsB cr ++ (symsB sy ++ y)) pD
  rw [← hA3, ← hE3, ← n2] at p4
  have x4 : drX b = dr := by show Fac.hide _ = _; rw [hide_eq, rlX_fine (by rw [p4, hE3]; rfl), p4]
  have hA4 : a4L b = relsB cr ++ (symsB sy ++ y) := by show Fac.hide _ = _; rw [hide_eq, p4]
  have hE4 : a4E b = .fine := by show Fac.hide _ = _; rw [hide_eq, p4]; exact hE3
  have p5 := rl_print cr (symsB sy ++ y) pC
  rw [← hA4, ← hE4, ← n3] at p5
  have x5 : crX b = cr := by show Fac.hide _ = _; rw [hide_eq, rlX_fine (by rw [p5, hE4]; rfl), p5]
  have hA5 : a5L b = symsB sy ++ y := by show Fac.hide _ = _; rw [hide_eq, p5]
  have hE5 : a5E b = .fine := by show Fac.hide _ = _; rw [hide_eq, p5]; exact hE4
  have p6 := sy_print sy y pS
  rw [← hA5, ← hE5, ← n4] at p6
  have x6 : sX b = sy := by show Fac.hide _ = _; rw [hide_eq, syX_fine (by rw [p6, hE5]; rfl), p6]
  have hA6 : a6L b = y := by show Fac.hide _ = _; rw [hide_eq, p6]
  have hE6 : a6E b = .fine := by show Fac.hide _ = _; rw [hide_eq, p6]; exact hE5
  refine ⟨?_, m3, x1, x2, x3, x4, x5, x6, hA6, hE6⟩
  rw [eb]
  simp only [List.length_append, wordB_len]; omega
end
theorem read_back {b : List Int} (hb : byt b) (h : (readE b).isErr = false) : b = bytesO (dX b) (cX b) (mX b) (drX b) (crX b) (sX b) ∧ (validE (dX b) (cX b) (mX b) (drX b) (crX b) (sX b)).isErr = false := by
  rw [readE_is] at h
  by_cases h1 : b.length < 24
  · rw [if_pos h1] at h; cases h
  rw [if_neg h1] at h
  by_cases h2 : ¬ w4W b .fine = 842225232
  · rw [if_pos h2] at h; cases h
  rw [if_neg h2] at h
  have h2 : w4W b .fine = 842225232 := Decidable.not_not.1 h2
  rw [f2E_is] at h
  have hf1 : (f1E b).isErr = false := by
    cases hc : (f1E b).isErr with
    | false => rfl
    | true => rw [if_pos hc, hc] at h; cases h
  rw [if_neg (by rw [hf1]; decide)] at h
  refine ⟨?_, h⟩
  rw [f1E_is] at hf1
  have s6 : (a6E b).isErr = false := by
    cases hc : (a6E b).isErr with
    | false => rfl
    | true => rw [if_pos hc, hc] at hf1; cases hf1
  rw [if_neg (by rw [s6]; decide)] at hf1
  have hy : a6L b = [] := by
    by_cases hc : 0 < (a6L b).length
    · rw [if_pos hc] at hf1; cases hf1
    · exact List.length_eq_zero_iff.1 (by omega)
  -- backwards
  have eE6 : a6E b = (syS (a5L b) (a5E b) (nN b 4).toNat).2.1 := hide_eq _
  have eA6 : a6L b = (syS (a5L b) (a5E b) (nN b 4).toNat).1 := hide_eq _
  have eX6 : sX b = syX (a5L b) (a5E b) (nN b 4).toNat := hide_eq _
  rw [eE6] at s6
  have s5 : (a5E b).isErr = false := by have := it_fine s6 0 (Nat.zero_le _); rw [itS_zero] at this; exact this
  have eE5 : a5E b = (rlS (a4L b) (a4E b) (nN b 3).toNat).2.1 := hide_eq _
  have eA5 : a5L b = (rlS (a4L b) (a4E b) (nN b 3).toNat).1 := hide_eq _
  have eX5 : crX b = rlX (a4L b) (a4E b) (nN b 3).toNat := hide_eq _
  have s5' := s5
  rw [eE5] at s5'
  have s4 : (a4E b).isErr = false := by have := it_fine s5' 0 (Nat.zero_le _); rw [itS_zero] at this; exact this
  have eE4 : a4E b = (rlS (a3L b) (a3E b) (nN b 2).toNat).2.1 := hide_eq _
  have eA4 : a4L b = (rlS (a3L b) (a3E b) (nN b 2).toNat).1 := hide_eq _
  have eX4 : drX b = rlX (a3L b) (a3E b) (nN b 2).toNat := hide_eq _
  have s4' := s4
  rw [eE4] at s4'
  have s3 : (a3E b).isErr = false := by have := it_fine s4' 0 (Nat.zero_le _); rw [itS_zero] at this; exact this
  have eE3 : a3E b = tkE (nN b 1) (a2L b) (a2E b) := hide_eq _
  have eA3 : a3L b = tkL (nN b 1) (a2L b) (a2E b) := hide_eq _
  have eX3 : mX b = tkX (nN b 1) (a2L b) (a2E b) := hide_eq _
  rw [eE3] at s3
  have g1 := nN_in b 1
  obtain ⟨t1, t2, t3⟩ := tk_back g1.1 s3
  have s2 : (a2E b).isErr = false := by rw [t1]; rfl
  have eE2 : a2E b = (wsS (a1L b) (a1E b) (nN b 1).toNat).2.1 := hide_eq _
  have eA2 : a2L b = (wsS (a1L b) (a1E b) (nN b 1).toNat).1 := hide_eq _
  have eX2 : cX b = wsX (a1L b) (a1E b) (nN b 1).toNat := hide_eq _
  have s2' := s2
  rw [eE2] at s2'
  have s1 : (a1E b).isErr = false := by have := it_fine s2' 0 (Nat.zero_le _); rw [itS_zero] at this; exact this
  have eE1 : a1E b = (wsS (a0L b) (a0E b) (nN b 0).toNat).2.1 := hide_eq _
  have eA1 : a1L b = (wsS (a0L b) (a0E b) (nN b 0).toNat).1 := hide_eq _
  have eX1 : dX b = wsX (a0L b) (a0E b) (nN b 0).toNat := hide_eq _
  have s1' := s1
  rw [eE1] at s1'
  have s0 : (a0E b).isErr = false := by have := it_fine s1' 0 (Nat.zero_le _); rw [itS_zero] at this; exact this
  have eE0 : a0E b = (hdS (w4L b .fine) (w4E b .fine) 5).2.1 := hide_eq _
  have eA0 : a0L b = (hdS (w4L b .fine) (w4E b .fine) 5).1 := hide_eq _
  rw [eE0] at s0
  -- forwards
  have hw : (w4E b .fine).isErr = false := by
    cases hc : (w4E b .fine).isErr with
    | false => rfl
    | true =>
      have : w4W b .fine = 0 := by rw [w4W_is]; exact if_pos hc
      rw [this] at h2; cases h2
  obtain ⟨_, b0⟩ := w4_back hb hw
  rw [h2] at b0
  have hb0 : byt (w4L b .fine) := byt_w4 hb b0
  obtain ⟨_, b1⟩ := hd_back hb0 5 s0
  rw [← eA0, ← nL_is] at b1
  have hb1 : byt (a0L b) := by rw [b1] at hb0; exact (byt_app hb0).2
  obtain ⟨_, b2, l2⟩ := it_back (pr := wordB) (fun l e hb h => w4_back hb h) hb1 _ s1'
  rw [← wsX_fine s1', ← eX1, ← eA1] at b2
  rw [← wsX_fine s1', ← eX1] at l2
  have hb2 : byt (a1L b) := by rw [b2] at hb1; exact (byt_app hb1).2
  obtain ⟨_, b3, l3⟩ := it_back (pr := wordB) (fun l e hb h => w4_back hb h) hb2 _ s2'
  rw [← wsX_fine s2', ← eX2, ← eA2] at b3
  rw [← wsX_fine s2', ← eX2] at l3
  have hb3 : byt (a2L b) := by rw [b3] at hb2; exact (byt_app hb2).2
  rw [← eX3, ← eA3] at t2
  rw [← eX3] at t3
  have hb4 : byt (a3L b) := by rw [t2] at hb3; exact (byt_app hb3).2
  obtain ⟨_, b5, l5⟩ := it_back (pr := relB) rel_back hb4 _ s4'
  rw [← rlX_fine s4', ← eX4, ← eA4] at b5
  rw [← rlX_fine s4', ← eX4] at l5
  have hb5 : byt (a4L b) := by rw [b5] at hb4; exact (byt_app hb4).2
  obtain ⟨_, b6, l6⟩ := it_back (pr := relB) rel_back hb5 _ s5'
  rw [← rlX_fine s5', ← eX5, ← eA5] at b6
  rw [← rlX_fine s5', ← eX5] at l6
  have hb6 : byt (a5L b) := by rw [b6] at hb5; exact (byt_app hb5).2
  obtain ⟨_, b7, l7⟩ := it_back (pr := symB) sym_back hb6 _ s6
  rw [← syX_fine s6, ← eX6, ← eA6] at b7
  rw [← syX_fine s6, ← eX6] at l7
  have g0 := nN_in b 0
  have g2 := nN_in b 2
  have g3 := nN_in b 3
  have g4 := nN_in b 4
  have hL : nL b = [nN b 0, nN b 1, nN b 2, nN b 3, nN b 4] := by
    have hlen := nL_len b
    have hj : ∀ j, nN b j = (nL b).getD j 0 := fun j => by rw [nN_is, nL_is]
    rw [hj 0, hj 1, hj 2, hj 3, hj 4]
    match nL b, hlen with
    | [x0, x1, x2, x3, x4], _ => rfl
  have z0 : nN b 0 = ((dX b).length : Nat) := by omega
  have z1 : nN b 1 = ((cX b).length : Nat) := by omega
  have z2 : nN b 2 = ((drX b).length : Nat) := by omega
  have z3 : nN b 3 = ((crX b).length : Nat) := by omega
  have z4 : nN b 4 = ((sX b).length : Nat) := by omega
  have fin := bytesO_is (d := dX b) (c := cX b) (m := mX b) (dr := drX b) (cr := crX b) (sy := sX b) [] (valid_ser h)
  rw [List.append_nil] at fin
  rw [fin]
  rw [hL, z0, z1, z2, z3, z4] at b1
  have e5 : List.flatMap wordB [((dX b).length : Int), (cX b).length, (drX b).length, (crX b).length, (sX b).length] = wordB (dX b).length ++ (wordB (cX b).length ++ (wordB (drX b).length ++ (wordB (crX b).length ++ wordB (sX b).length))) := by simp
  rw [e5] at b1
  simp only [List.append_assoc] at b1
  have b2 : a0L b = wordsB (dX b) ++ a1L b := b2
  have b3 : a1L b = wordsB (cX b) ++ a2L b := b3
  have b5 : a3L b = relsB (drX b) ++ a4L b := b5
  have b6 : a4L b = relsB (crX b) ++ a5L b := b6
  have b7 : a5L b = symsB (sX b) ++ a6L b := b7
  rw [hy] at b7
  rw [← b7, ← b6, ← b5, ← t2, ← b3, ← b2, ← b1]
  exact b0
end Go.Proofs.YtceebkojjmmjmaaDoor

