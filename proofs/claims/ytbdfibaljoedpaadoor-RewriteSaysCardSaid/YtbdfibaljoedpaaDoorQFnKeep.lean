/- Contracts that the proofs use. -/
import Derived.Test.YtbdfibaljoedpaaDoorQFnLaw11
set_option linter.unusedVariables false
set_option linter.unusedSimpArgs false
namespace Go.Proofs.YtbdfibaljoedpaaDoor
open Go.RowKit Go.Sy Go.Fac
section
variable {ea : Int → Addr} {has : Int → Prop} {rest : List (Nat × SVal)}
def isN (c m : List Int) (i : Nat) : Bool := decide (m.getD i 0 = 1) && !decide (isaClass (c.getD i 0 / 16777216) = 1)
def KeptC (c m C M T : List Int) : Prop := c.length ≤ 10000 ∧ m.length = c.length ∧ C.length ≤ 10000 ∧ M.length = C.length ∧ T.length = c.length + 1 ∧
  ∀ i, i < c.length → ∃ p : Nat, T.getD i 0 = p ∧ i ≤ p ∧ p < C.length ∧
    (isN c m i = true → T.getD (i + 1) 0 = p + 2 ∧ p + 1 < C.length ∧ C.getD p 0 = 1610612736 ∧ M.getD p 0 = 1 ∧ M.getD (p + 1) 0 = 0 ∧ backB (C.getD (p + 1) 0) = true ∧ (backI (C.getD (p + 1) 0)).op = c.getD i 0 / 16777216) ∧
    (isN c m i = false → T.getD (i + 1) 0 = p + 1 ∧ C.getD p 0 = c.getD i 0 ∧ M.getD p 0 = m.getD i 0)
def KeptS (c T : List Int) (sy sy2 : List Sm) : Prop := c.length ≤ 10000 ∧ T.length = c.length + 1 ∧ sy.length ≤ 10000 ∧ sy2.length = sy.length ∧
  ∀ i, i < sy.length → ((sy.getD i RT.sym.dflt).in_ = 2 → 0 ≤ (sy.getD i RT.sym.dflt).value ∧ (sy.getD i RT.sym.dflt).value < T.length) ∧ (sy2.getD i RT.sym.dflt).name = (sy.getD i RT.sym.dflt).name ∧
    (sy2.getD i RT.sym.dflt).value = if (sy.getD i RT.sym.dflt).in_ = 2 then T.getD (sy.getD i RT.sym.dflt).value.toNat 0 else (sy.getD i RT.sym.dflt).value
theorem ifOk_fine {α : Type} {e : FErr} (h : e.isErr = false) (l : List α) : ifOk e l = l := by unfold ifOk; rw [if_neg (by rw [h]; simp)]
theorem get_mid {α : Type} (A B X : List α) (d : α) (j : Nat) (h : j < B.length) : (A ++ B ++ X).getD (A.length + j) d = B.getD j d := by
  rw [List.append_assoc, List.getD_eq_getElem?_getD, List.getElem?_append_right (by omega), List.getElem?_append_left (by omega), ← List.getD_eq_getElem?_getD]
  congr 1; omega
theorem rwC_pre (c m : List Int) (i : Nat) : ∀ j, ∃ X Y, rwC c m (i + j) = rwC c m i ++ X ∧ rwM c m (i + j) = rwM c m i ++ Y
  | 0 => ⟨[], [], by simp, by simp⟩
  | j + 1 => by
    obtain ⟨X, Y, h1, h2⟩ := rwC_pre c m i j
    exact ⟨_, _, by rw [show i + (j + 1) = (i + j) + 1 by omega, rwC, h1, List.append_assoc], by rw [show i + (j + 1) = (i + j) + 1 by omega, rwM, h2, List.append_assoc]⟩
theorem rwC_ge (c m : List Int) : ∀ i, i ≤ (rwC c m i).length
  | 0 => Nat.zero_le _
  | i + 1 => by
    have := rwC_ge c m i
    rw [rwC, List.length_append]
    split <;> simp only [List.length_cons, List.length_nil] <;> omega
theorem rwT_get (c m : List Int) {i : Nat} : ∀ n, i < n → (rwT c m n).getD i 0 = (rwC c m i).length
  | 0, h => by omega
  | n + 1, h => by
    have hl := rwT_len c m n
    rw [rwT, List.getD_eq_getElem?_getD]
    by_cases e : i < n
    · rw [List.getElem?_append_left (by omega), ← List.getD_eq_getElem?_getD, rwT_get c m n e]
    · have : i = n := by omega
      subst this
      rw [List.getElem?_append_right (by omega), hl, Nat.sub_self]; rfl
theorem place_get (c m : List Int) {i : Nat} (h : i ≤ c.length) : (rwTo c m ++ [((rwC c m c.length).length : Int)]).getD i 0 = (rwC c m i).length := by
  have hl := rwTo_len c m
  rw [List.getD_eq_getElem?_getD]
  by_cases e : i < c.length
  · rw [List.getElem?_append_left (by omega), ← List.getD_eq_getElem?_getD]; exact rwT_get c m _ e
  · have : i = c.length := by omega
    subst this
    rw [List.getElem?_append_right (by omega), hl, Nat.sub_self]; rfl
theorem class_rng (o : Int) : isaClass o = 0 ∨ isaClass o = 1 ∨ isaClass o = 2 ∨ isaClass o = 3 ∨ isaClass o = 4 := by
  unfold isaClass; split
  · simp
  · split
    · simp
    · split
      · simp
      · split <;> simp
theorem start_ok {d c m : List Int} {dr cr : List Rel} {sy : List Sm} (hv : (validE d c m dr cr sy).isErr = false) {i : Nat} (hi : i < c.length) (hm : m.getD i 0 = 1) :
    ofOk (c.getD i 0) = true ∧ (isaClass (c.getD i 0 / 16777216) = 1 ∨ isaClass (c.getD i 0 / 16777216) = 2 ∨ isaClass (c.getD i 0 / 16777216) = 3) := by
  obtain ⟨v1, v2, _, _, _, _, v3, _⟩ := valid_size hv
  have hw := firstE_all (fun i => wordE_np c m i) v3 i hi
  have hw' : (wordE c m i).isErr = false := hw
  unfold wordE at hw'
  rw [Int.toNat_natCast, if_pos hm] at hw'
  split at hw'
  · cases hw'
  · rename_i hb
    rw [Bool.or_eq_true, not_or] at hb
    have hb1 : insB c m i = true := by
      cases hh : insB c m i with
      | true => rfl
      | false => rw [hh] at hb; simp at hb
    have hb' := hb1
    unfold insB at hb'
    rw [Bool.and_eq_true, Int.toNat_natCast] at hb'
    have hop : (insI c m i).op = c.getD i 0 / 16777216 := by
      unfold insI
      rw [if_pos hb'.1, Int.toNat_natCast]
      unfold ofF; rw [if_pos hb'.2]
    have h4 : ¬ isaClass (c.getD i 0 / 16777216) = 4 := by
      have := hb.2
      rw [hop, decide_eq_true_eq] at this
      exact this
    have h0 : ¬ isaClass (c.getD i 0 / 16777216) = 0 := by
      have := hb'.2
      unfold ofOk wordOk at this
      simp only [Bool.and_eq_true, Bool.not_eq_true', beq_eq_false_iff_ne] at this
      exact this.1.1.1.1
    refine ⟨hb'.2, ?_⟩
    have := class_rng (c.getD i 0 / 16777216)
    omega
theorem isN_isF {d c m : List Int} {dr cr : List Rel} {sy : List Sm} (hv : (validE d c m dr cr sy).isErr = false) {i : Nat} (hi : i < c.length) : isN c m i = isF c m i := by
  unfold isN isF
  by_cases hm : m.getD i 0 = 1
  · obtain ⟨_, h⟩ := start_ok hv hi hm
    rw [decide_eq_true hm]
    rcases h with h | h | h <;> rw [h] <;> rfl
  · rw [decide_eq_false hm]; rfl
theorem class_lt {o : Int} (h : isaClass o = 2 ∨ isaClass o = 3) : 32 ≤ o ∧ o < 128 := by
  rcases h with h | h
  · have := class_2 h; omega
  · have := class_3 h; omega
theorem mark_back {w : Int} (h1 : ofOk w = true) (h2 : isaClass (w / 16777216) = 2 ∨ isaClass (w / 16777216) = 3) : backB (markW w) = true ∧ (backI (markW w)).op = w / 16777216 := by
  have hr := class_lt h2
  have e1 : markW w = 2147483648 + w := mark_or ⟨by omega, by omega⟩
  have e2 : unmark (markW w) = w := by
    have : unmark (markW w) = markW w % 2147483648 := mark_andNot
    rw [this, e1]; omega
  have e3 : (ofF w 0).op = w / 16777216 := by unfold ofF; rw [if_pos h1]
  have e4 : (markW w) % 2147483648 = w := by rw [e1]; omega
  have hb : backB (markW w) = true := by
    rw [backB_eq ⟨by omega, by omega⟩, e4, e3, h1, decide_eq_false (by omega : ¬ markW w < 2147483648)]
    rcases h2 with h | h <;> rw [h] <;> rfl
  exact ⟨hb, by unfold backI; rw [if_pos hb, e2, e3]⟩
theorem keptC_of {d c m : List Int} {dr cr : List Rel} {sy : List Sm} (hv : (validE d c m dr cr sy).isErr = false) : KeptC c m (rwC c m c.length) (rwM c m c.length) (rwTo c m ++ [((rwC c m c.length).length : Int)]) := by
  obtain ⟨v1, v2, _⟩ := valid_size hv
  have hL := rwC_len c m c.length
  have hT := rwTo_len c m
  refine ⟨by omega, v2, by omega, hL.2, by rw [List.length_append, hT]; rfl, fun i hi => ?_⟩
  obtain ⟨X, Y, hX, hY⟩ := rwC_pre c m (i + 1) (c.length - (i + 1))
  rw [show i + 1 + (c.length - (i + 1)) = c.length by omega] at hX hY
  have hge := rwC_ge c m i
  have hml := (rwC_len c m i).2
  have hp := place_get c m (Nat.le_of_lt hi)
  have hq := place_get c m (show i + 1 ≤ c.length from hi)
  have hlen : (rwC c m (i + 1)).length ≤ (rwC c m c.length).length := by rw [hX, List.length_append]; omega
  refine ⟨(rwC c m i).length, hp, hge, ?_, fun hn => ?_, fun hn => ?_⟩
  · have : (rwC c m i).length < (rwC c m (i + 1)).length := by
      rw [rwC, List.length_append]
      split <;> simp only [List.length_cons, List.length_nil] <;> omega
    omega
  · have hF : isF c m i = true := by rw [← isN_isF hv hi]; exact hn
    have hm : m.getD i 0 = 1 := by unfold isF at hF; rw [Bool.and_eq_true] at hF; exact of_decide_eq_true hF.1
    have hc : isaClass (c.getD i 0 / 16777216) = 2 ∨ isaClass (c.getD i 0 / 16777216) = 3 := by
      unfold isF at hF
      rw [Bool.and_eq_true, Bool.or_eq_true, decide_eq_true_eq, decide_eq_true_eq, decide_eq_true_eq] at hF
      exact hF.2
    obtain ⟨b1, b2⟩ := mark_back (start_ok hv hi hm).1 hc
    rw [rwC, if_pos hF] at hX hq hlen
    rw [rwM, if_pos hF] at hY
    have g0 := get_mid (rwC c m i) [hcW, markW (c.getD i 0)] X 0 0 (by simp)
    have g1 := get_mid (rwC c m i) [hcW, markW (c.getD i 0)] X 0 1 (by simp)
    have k0 := get_mid (rwM c m i) [1, 0] Y 0 0 (by simp)
    have k1 := get_mid (rwM c m i) [1, 0] Y 0 1 (by simp)
    rw [← hX] at g0 g1
    rw [← hY, hml] at k0 k1
    rw [List.length_append] at hlen hq
    have h2 : [hcW, markW (c.getD i 0)].length = 2 := rfl
    refine ⟨by rw [hq]; rfl, by omega, g0.trans rfl, k0, k1, by rw [g1]; exact b1, by rw [g1]; exact b2⟩
  · have hF : isF c m i = false := by rw [← isN_isF hv hi]; exact hn
    have hF' : ¬ isF c m i = true := by rw [hF]; simp
    rw [rwC, if_neg hF'] at hX hq
    rw [rwM, if_neg hF'] at hY
    have g0 := get_mid (rwC c m i) [c.getD i 0] X 0 0 (by simp)
    have k0 := get_mid (rwM c m i) [m.getD i 0] Y 0 0 (by simp)
    rw [← hX] at g0
    rw [← hY, hml] at k0
    rw [List.length_append] at hq
    exact ⟨by rw [hq]; rfl, g0, k0⟩
theorem keptS_of {d c m : List Int} {dr cr : List Rel} {sy : List Sm} (hv : (validE d c m dr cr sy).isErr = false) : KeptS c (rwTo c m ++ [((rwC c m c.length).length : Int)]) sy (sy.map (symTo (rwTo c m))) := by
  obtain ⟨v1, v2, v3, v4, v5, v6, _⟩ := valid_size hv
  have hT := rwTo_len c m
  refine ⟨by omega, by rw [List.length_append, hT]; rfl, by omega, List.length_map .., fun i hi => ?_⟩
  have hg : (sy.map (symTo (rwTo c m))).getD i RT.sym.dflt = symTo (rwTo c m) (sy.getD i RT.sym.dflt) := by
    rw [List.getD_eq_getElem?_getD, List.getD_eq_getElem?_getD, List.getElem?_map, List.getElem?_eq_getElem hi]; rfl
  have hc := fun h => valid_code hv hi h
  rw [hg]
  generalize sy.getD i RT.sym.dflt = x at *
  refine ⟨fun h => ?_, by unfold symTo; split <;> rfl, ?_⟩
  · have := hc h; rw [List.length_append, hT]; simp only [List.length_singleton]; omega
  · unfold symTo
    by_cases h : x.in_ = 2
    · have := hc h
      rw [if_pos h, if_pos h]
      show placeI _ _ = _
      unfold placeI
      rw [List.getD_eq_getElem?_getD, List.getD_eq_getElem?_getD, List.getElem?_append_left (by omega)]
    · rw [if_neg h, if_neg h]
end
end Go.Proofs.YtbdfibaljoedpaaDoor

