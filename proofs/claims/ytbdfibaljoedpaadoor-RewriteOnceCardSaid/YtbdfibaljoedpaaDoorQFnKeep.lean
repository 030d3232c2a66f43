/- Contracts that the proofs use. -/
import Derived.Test.YtbdfibaljoedpaaDoorQFnLaw11
set_option linter.unusedVariables false
set_option linter.unusedSimpArgs false
namespace Go.Proofs.YtbdfibaljoedpaaDoor
open Go.RowKit Go.Sy Go.Fac
section
variable {ea : Int → Addr} {has : Int → Prop} {rest : List (Nat × SVal)}
def isN (c m : List Int) (i : Nat) : Bool := decide (m.getD i 0 = 1) && !decide (isaClass (c.getD i 0 / 16777216) = 1)
def KeptC (c m C M T : List Int) : Prop := c.length ≤ 10000 ∧ m.length = c.length ∧ C.length ≤ 10000 ∧ M.length = C.length ∧ T.length = c.length + 1 ∧
  ∀ i, i < c.length → ∃ p : Nat, T.getD i 0 = p ∧ i ≤ p ∧ p < C.length ∧
    (isN c m i = true → T.getD (i + 1) 0 = p + 2 ∧ p + 1 < C.length ∧ C.getD p 0 = 1610612736 ∧ M.getD p 0 = 1 ∧ M.getD (p + 1) 0 = 0 ∧ backB (C.getD (p + 1) 0) = true ∧ (backI (C.getD (p + 1) 0)).op = c.getD i 0 / 16777216) ∧
    (isN c m i = false → T.getD (i + 1) 0 = p + 1 ∧ C.getD p 0 = c.getD i 0 ∧ M.getD p 0 = m.getD i 0)
def KeptS (c T : List Int) (sy sy2 : List Sm) : Prop := c.length ≤ 10000 ∧ T.length = c.length + 1 ∧ sy.length ≤ 10000 ∧ sy2.length = sy.length ∧
  ∀ i, i < sy.length → ((sy.getD i RT.sym.dflt).in_ = 2 → 0 ≤ (sy.getD i RT.sym.dflt).value ∧ (sy.getD i RT.sym.dflt).value < T.length) ∧ (sy2.getD i RT.sym.dflt).name = (sy.getD i RT.sym.dflt).name ∧
    (sy2.getD i RT.sym.dflt).value = if (sy.getD i RT.sym.dflt).in_ = 2 then T.getD (sy.getD i RT.sym.dflt).value.toNat 0 else (sy.getD i RT.sym.dflt).value
theorem ifOk_fine {α : Type} {e : FErr} (h : e.isErr = false) (l : List α) : ifOk e l = l := by unfold ifOk; rw [if_neg (by rw [h]; simp)]
theorem get_mid {α : Type} (A B X : List α) (d : α) (j : Nat) (h : j < B.length) : (A ++ B ++ X).getD (A.length + j) d = B.getD j d := by
  rw [List.append_assoc, List.getD_eq_getElem?_getD, List.getElem?_append_right (by omega), List.getElem?_append_left (by omega), ← List.getD_eq_getElem?_getD]
  congr 1; omega
theorem rwC_pre (c m : List Int) (i : Nat) : ∀ j, ∃ X Y, rwC c m (i + j) = rwC c m i ++ X ∧ rwM c m (i + j) = rwM c m i ++ Y
  | 0 => ⟨[], [], by simp, by simp⟩
  | j + 1 => by
    obtain ⟨X, Y, h1, h2⟩ := rwC_pre c m i j
    exact ⟨_, _, by rw [show i + (j + 1) = (i + j) + 1 by omega, rwC, h1, List.append_assoc], by rw [show i + (j + 1) = (i + j) + 1 by omega, rwM, h2, List.append_assoc]⟩
theorem rwC_ge (c m : List Int) : ∀ i, i ≤ (rwC c m i).length
  | 0 => Nat.zero_le _
  | i + 1 => by
    have := rwC_ge c m i
    rw [rwC, List.length_append]
    split <;> simp only [List.length_cons, List.length_nil] <;> omega
theorem rwT_get (c m : List Int) {i : Nat} : ∀ n, i < n → (rwT c m n).getD i 0 = (rwC c m i).length
  | 0, h => by omega
  | n + 1, h => by
    have hl := rwT_len c m n
    rw [rwT, List.getD_eq_getElem?_getD]
    by_cases e : i < n
    · rw [List.getElem?_append_left (by omega), ← List.getD_eq_getElem?_getD, rwT_get c m n e]
    · have : i = n := by omega
      subst this
      rw [List.getElem?_append_right (by omega), hl, Nat.sub_self]; rfl
theorem place_get (c m : List Int) {i : Nat} (h : i ≤ c.length) : (rwTo c m ++ [((rwC c m c.length).length : Int)]).getD i 0 = (rwC c m i).length := by
  have hl := rwTo_len c m
  rw [List.getD_eq_getElem?_getD]
  by_cases e : i < c.length
  · rw [List.getElem?_append_left (by omega), ← List.getD_eq_getElem?_getD]; exact rwT_get c m _ e
  · have : i = c.length := by omega
    subst this
    rw [List.getElem?_append_right (by omega), hl, Nat.sub_self]; rfl
theorem class_rng (o : Int) : isaClass o = 0 ∨ isaClass o = 1 ∨ isaClass o = 2 ∨ isaClass o = 3 ∨ isaClass o = 4 := by
  unfold isaClass; split
  · simp
  · split
    · simp
    · split
      · simp
      · split <;> simp
theorem start_ok {d c m : List Int} {dr cr : List Rel} {sy : List Sm} (hv : (validE d c m dr cr sy).isErr = false) {i : Nat} (hi : i < c.length) (hm : m.getD i 0 = 1) :
    ofOk (c.getD i 0) = true ∧ (isaClass (c.getD i 0 / 16777216) = 1 ∨ isaClass (c.getD i 0 / 16777216) = 2 ∨ isaClass (c.getD i 0 / 16777216) = 3) := by
  obtain ⟨v1, v2, _, _, _, _, v3, _⟩ := valid_size hv
  have hw := firstE_all (fun i => wordE_np c m i) v3 i hi
  have hw' : (wordE c m i).isErr = false := hw
  unfold wordE at hw'
  rw [Int.toNat_natCast, if_pos hm] at hw'
  split at hw'
  · cases hw'
  · rename_i hb
    rw [Bool.or_eq_true, not_or] at hb
    have hb1 : insB c m i = true := by
      cases hh : insB c m i with
      | true => rfl
      | false => rw [hh] at hb; simp at hb
    have hb' := hb1
    unfold insB at hb'
    rw [Bool.and_eq_true, Int.toNat_natCast] at hb'
    have hop : (insI c m i).op = c.getD i 0 / 16777216 := by
      unfold insI
      rw [if_pos hb'.1, Int.toNat_natCast]
      unfold ofF; rw [if_pos hb'.2]
    have h4 : ¬ isaClass (c.getD i 0 / 16777216) = 4 := by
      have := hb.2
      rw [hop, decide_eq_true_eq] at this
      exact this
    have h0 : ¬ isaClass (c.getD i 0 / 16777216) = 0 := by
      have := hb'.2
      unfold ofOk wordOk at this
      simp only [Bool.and_eq_true, Bool.not_eq_true', beq_eq_false_iff_ne] at this
      exact this.1.1.1.1
    refine ⟨hb'.2, ?_⟩
    have := class_rng (c.getD i 0 / 16777216)
    omega
theorem isN_isF {d c m : List Int} {dr cr : List Rel} {sy : List Sm} (hv : (validE d c m dr cr sy).isErr = false) {i : Nat} (hi : i < c.length) : isN c m i = isF c m i := by
  unfold isN isF
  by_cases hm : m.getD i 0 = 1
  · obtain ⟨_, h⟩ := start_ok hv hi hm
    rw [decide_eq_true hm]
    rcases h with h | h | h <;> rw [h] <;> rfl
  · rw [decide_eq_false hm]; rfl
theorem class_lt {o : Int} (h : isaClass o = 2 ∨ isaClass o = 3) : 32 ≤ o ∧ o < 128 := by
  rcases h with h | h
  · have := class_2 h; omega
  · have := class_3 h; omega
theorem mark_back {w : Int} (h1 : ofOk w = true) (h2 : isaClass (w / 16777216) = 2 ∨ isaClass (w / 16777216) = 3) : backB (markW w) = true ∧ (backI (markW w)).op = w / 16777216 := by
  have hr := class_lt h2
  have e1 : markW w = 2147483648 + w := mark_or ⟨by omega, by omega⟩
  have e2 : unmark (markW w) = w := by
    have : unmark (markW w) = markW w % 2147483648 := mark_andNot
    rw [this, e1]; omega
  have e3 : (ofF w 0).op = w / 16777216 := by unfold ofF; rw [if_pos h1]
  have e4 : (markW w) % 2147483648 = w := by rw [e1]; omega
  have hb : backB (markW w) = true := by
    rw [backB_eq ⟨by omega, by omega⟩, e4, e3, h1, decide_eq_false (by omega : ¬ markW w < 2147483648)]
    rcases h2 with h | h <;> rw [h] <;> rfl
  exact ⟨hb, by unfold backI; rw [if_pos hb, e2, e3]⟩
theorem keptC_of {d c m : List Int} {dr cr : List Rel} {sy : List Sm} (hv : (validE d c m dr cr sy).isErr = false) : KeptC c m (rwC c m c.length) (rwM c m c.length) (rwTo c m ++ [((rwC c m c.length).length : Int)]) := by
  obtain ⟨v1, v2, _⟩ := valid_size hv
  have hL := rwC_len c m c.length
  have hT := rwTo_len c m
  refine ⟨by omega, v2, by omega, hL.2, by rw [List.length_append, hT]; rfl, fun i hi => ?_⟩
  obtain ⟨X, Y, hX, hY⟩ := rwC_pre c m (i + 1) (c.length - (i + 1))
  rw [show i + 1 + (c.length - (i + 1)) = c.length by omega] at hX hY
  have hge := rwC_ge c m i
  have hml := (rwC_len c m i).2
  have hp := place_get c m (Nat.le_of_lt hi)
  have hq := place_get c m (show i + 1 ≤ c.length from hi)
  have hlen : (rwC c m (i + 1)).length ≤ (rwC c m c.length).length := by rw [hX, List.length_append]; omega
  refine ⟨(rwC c m i).length, hp, hge, ?_, fun hn => ?_, fun hn => ?_⟩
  · have : (rwC c m i).length < (rwC c m (i + 1)).length := by
      rw [rwC, List.length_append]
      split <;> simp only [List.length_cons, List.length_nil] <;> omega
    omega
  · have hF : isF c m i = true := by rw [← isN_isF hv hi]; exact hn
    have hm : m.getD i 0 = 1 := by unfold isF at hF; rw [Bool.and_eq_true] at hF; exact of_decide_eq_true hF.1
    have hc : isaClass (c.getD i 0 / 16777216) = 2 ∨ isaClass (c.getD i 0 / 16777216) = 3 := by
      unfold isF at hF
      rw [Bool.and_eq_true, Bool.or_eq_true, decide_eq_true_eq, decide_eq_true_eq, decide_eq_true_eq] at hF
      exact hF.2
    obtain ⟨b1, b2⟩ := mark_back (start_ok hv hi hm).1 hc
    rw [rwC, if_pos hF] at hX hq hlen
    rw [rwM, if_pos hF] at hY
    have g0 := get_mid (rwC c m i) [hcW, markW (c.getD i 0)] X 0 0 (by simp)
    have g1 := get_mid (rwC c m i) [hcW, markW (c.getD i 0)] X 0 1 (by simp)
    have k0 := get_mid (rwM c m i) [1, 0] Y 0 0 (by simp)
    have k1 := get_mid (rwM c m i) [1, 0] Y 0 1 (by simp)
    rw [← hX] at g0 g1
    rw [← hY, hml] at k0 k1
    rw [List.length_append] at hlen hq
    have h2 : [hcW, markW (c.getD i 0)].length = 2 := rfl
    refine ⟨by rw [hq]; rfl, by omega, g0.trans rfl, k0, k1, by rw [g1]; exact b1, by rw [g1]; exact b2⟩
  · have hF : isF c m i = false := by rw [← isN_isF hv hi]; exact hn
    have hF' : ¬ isF c m i = true := by rw [hF]; simp
    rw [rwC, if_neg hF'] at hX hq
    rw [rwM, if_neg hF'] at hY
    have g0 := get_mid (rwC c m i) [c.getD i 0] X 0 0 (by simp)
    have k0 := get_mid (rwM c m i) [m.getD i 0] Y 0 0 (by simp)
    rw [← hX] at g0
    rw [← hY, hml] at k0
    rw [List.length_append] at hq
    exact ⟨by rw [hq]; rfl, g0, k0⟩
theorem keptS_of {d c m : List Int} {dr cr : List Rel} {sy : List Sm} (hv : (validE d c m dr cr sy).isErr = false) : KeptS c (rwTo c m ++ [((rwC c m c.length).length : Int)]) sy (sy.map (symTo (rwTo c m))) := by
  obtain ⟨v1, v2, v3, v4, v5, v6, _⟩ := valid_size hv
  have hT := rwTo_len c m
  refine ⟨by omega, by rw [List.length_append, hT]; rfl, by omega, List.length_map .., fun i hi => ?_⟩
  have hg : (sy.map (symTo (rwTo c m))).getD i RT.sym.dflt = symTo (rwTo c m) (sy.getD i RT.sym.dflt) := by
    rw [List.getD_eq_getElem?_getD, List.getD_eq_getElem?_getD, List.getElem?_map, List.getElem?_eq_getElem hi]; rfl
  have hc := fun h => valid_code hv hi h
  rw [hg]
  generalize sy.getD i RT.sym.dflt = x at *
  refine ⟨fun h => ?_, by unfold symTo; split <;> rfl, ?_⟩
  · have := hc h; rw [List.length_append, hT]; simp only [List.length_singleton]; omega
  · unfold symTo
    by_cases h : x.in_ = 2
    · have := hc h
      rw [if_pos h, if_pos h]
      show placeI _ _ = _
      unfold placeI
      rw [List.getD_eq_getElem?_getD, List.getD_eq_getElem?_getD, List.getElem?_append_left (by omega)]
    · rw [if_neg h, if_neg h]
def HKeepA (d c m : List Int) (dr cr : List Rel) (sy : List Sm) (d2 C M : List Int) (dr2 cr2 : List Rel) (sy2 : List Sm) (T : List Int) (i : Nat) : SState := { fr := [(1, .ptr 0 0), (3, .bool (.lit true)), (4, .ptr 1 0), (5, .ro .i64 T), (7, .int .i64 (.sym i 0 1000000))], hp := [(0, obBox d c m dr cr sy), (1, obBox d2 C M dr2 cr2 sy2)], next := 2, sz := 286 }
def XKeepA (d c m : List Int) (dr cr : List Rel) (sy : List Sm) (d2 C M : List Int) (dr2 cr2 : List Rel) (sy2 : List Sm) (T : List Int) : SState := { fr := [(1, .ptr 0 0), (3, .bool (.lit true)), (4, .ptr 1 0), (5, .ro .i64 T)], hp := [(0, obBox d c m dr cr sy), (1, obBox d2 C M dr2 cr2 sy2)], next := 2, sz := 286 }
def LKeepA (d c m : List Int) (dr cr : List Rel) (sy : List Sm) (d2 C M : List Int) (dr2 cr2 : List Rel) (sy2 : List Sm) (T : List Int) : LSum := ⟨HKeepA d c m dr cr sy d2 C M dr2 cr2 sy2 T 0, fun k => k (.exit 0) (XKeepA d c m dr cr sy d2 C M dr2 cr2 sy2 T), KeptC c m C M T⟩
theorem bKeepA (rest : List (Nat × SVal)) (d c m : List Int) (dr cr : List Rel) (sy : List Sm) (d2 C M : List Int) (dr2 cr2 : List Rel) (sy2 : List Sm) (T : List Int) (i : Nat) : (Tr.sat (rnd1 (env (G7 ++ rest) [(32, kfirst11), (33, kDo), (17, kLight), (19, krClass), (38, kBack), (36, kfW), (37, kfR)]) (fun _ => True) (c.length) (HKeepA d c m dr cr sy d2 C M dr2 cr2 sy2 T) 0 (XKeepA d c m dr cr sy d2 C M dr2 cr2 sy2 T) i) (run (env (G7 ++ rest) [(32, kfirst11), (33, kDo), (17, kLight), (19, krClass), (38, kBack), (36, kfW), (37, kfR)]) [] (loopN (bodyOf Tryd.f7) 0) (HKeepA d c m dr cr sy d2 C M dr2 cr2 sy2 T i) .leaf)) = (
  (decide ((↑i : Int) < (↑(List.length c) : Int)) = true → ((0 : Int) ≤ (↑i : Int) ∧ (↑i : Int) < (↑(List.length T) : Int)) ∧ ((0 : Int) ≤ (↑i : Int) ∧ (↑i : Int) < (↑(List.length T) : Int) → ((decide (List.getD T (Int.toNat (↑i : Int)) (RT.dflt RT.i64) < (↑i : Int)) || decide ((↑(List.length C) : Int) ≤ List.getD T (Int.toNat (↑i : Int)) (RT.dflt RT.i64))) = true → False) ∧ ((decide (List.getD T (Int.toNat (↑i : Int)) (RT.dflt RT.i64) < (↑i : Int)) || decide ((↑(List.length C) : Int) ≤ List.getD T (Int.toNat (↑i : Int)) (RT.dflt RT.i64))) = false → ((0 : Int) ≤ (↑i : Int) ∧ (↑i : Int) < (↑(List.length c) : Int)) ∧ ((0 : Int) ≤ (↑i : Int) ∧ (↑i : Int) < (↑(List.length c) : Int) → ((0 : Int) ≤ (↑i : Int) ∧ (↑i : Int) < (↑(List.length m) : Int)) ∧ ((0 : Int) ≤ (↑i : Int) ∧ (↑i : Int) < (↑(List.length m) : Int) → ((!decide (List.getD m (Int.toNat (↑i : Int)) (RT.dflt RT.u8) = (1 : Int)) || decide (isaClass (List.getD c (Int.toNat (↑i : Int)) (RT.dflt RT.u32) / (16777216 : Int)) = (1 : Int))) = true → ((0 : Int) ≤ List.getD T (Int.toNat (↑i : Int)) (RT.dflt RT.i64) ∧ List.getD T (Int.toNat (↑i : Int)) (RT.dflt RT.i64) < (↑(List.length C) : Int)) ∧ ((0 : Int) ≤ List.getD T (Int.toNat (↑i : Int)) (RT.dflt RT.i64) ∧ List.getD T (Int.toNat (↑i : Int)) (RT.dflt RT.i64) < (↑(List.length C) : Int) → ((0 : Int) ≤ (↑i : Int) ∧ (↑i : Int) < (↑(List.length c) : Int)) ∧ ((0 : Int) ≤ (↑i : Int) ∧ (↑i : Int) < (↑(List.length c) : Int) → ((!!decide (List.getD C (Int.toNat (List.getD T (Int.toNat (↑i : Int)) (RT.dflt RT.i64))) (RT.dflt RT.u32) = List.getD c (Int.toNat (↑i : Int)) (RT.dflt RT.u32))) = true → (0 : Int) ≤ List.getD T (Int.toNat (↑i : Int)) (RT.dflt RT.i64) ∧ List.getD T (Int.toNat (↑i : Int)) (RT.dflt RT.i64) < (↑(List.length M) : Int)) ∧ (((!!decide (List.getD C (Int.toNat (List.getD T (Int.toNat (↑i : Int)) (RT.dflt RT.i64))) (RT.dflt RT.u32) = List.getD c (Int.toNat (↑i : Int)) (RT.dflt RT.u32))) = true → (0 : Int) ≤ List.getD T (Int.toNat (↑i : Int)) (RT.dflt RT.i64) ∧ List.getD T (Int.toNat (↑i : Int)) (RT.dflt RT.i64) < (↑(List.length M) : Int)) → ((!!decide (List.getD C (Int.toNat (List.getD T (Int.toNat (↑i : Int)) (RT.dflt RT.i64))) (RT.dflt RT.u32) = List.getD c (Int.toNat (↑i : Int)) (RT.dflt RT.u32))) = true → (0 : Int) ≤ (↑i : Int) ∧ (↑i : Int) < (↑(List.length m) : Int)) ∧ (((!!decide (List.getD C (Int.toNat (List.getD T (Int.toNat (↑i : Int)) (RT.dflt RT.i64))) (RT.dflt RT.u32) = List.getD c (Int.toNat (↑i : Int)) (RT.dflt RT.u32))) = true → (0 : Int) ≤ (↑i : Int) ∧ (↑i : Int) < (↑(List.length m) : Int)) → ((!(!decide (List.getD C (Int.toNat (List.getD T (Int.toNat (↑i : Int)) (RT.dflt RT.i64))) (RT.dflt RT.u32) = List.getD c (Int.toNat (↑i : Int)) (RT.dflt RT.u32)) || !decide (List.getD M (Int.toNat (List.getD T (Int.toNat (↑i : Int)) (RT.dflt RT.i64))) (RT.dflt RT.u8) = List.getD m (Int.toNat (↑i : Int)) (RT.dflt RT.u8)))) = true → (0 : Int) ≤ (↑i : Int) + (1 : Int) ∧ (↑i : Int) + (1 : Int) < (↑(List.length T) : Int)) ∧ (((!(!decide (List.getD C (Int.toNat (List.getD T (Int.toNat (↑i : Int)) (RT.dflt RT.i64))) (RT.dflt RT.u32) = List.getD c (Int.toNat (↑i : Int)) (RT.dflt RT.u32)) || !decide (List.getD M (Int.toNat (List.getD T (Int.toNat (↑i : Int)) (RT.dflt RT.i64))) (RT.dflt RT.u8) = List.getD m (Int.toNat (↑i : Int)) (RT.dflt RT.u8)))) = true → (0 : Int) ≤ (↑i : Int) + (1 : Int) ∧ (↑i : Int) + (1 : Int) < (↑(List.length T) : Int)) → ((!decide (List.getD C (Int.toNat (List.getD T (Int.toNat (↑i : Int)) (RT.dflt RT.i64))) (RT.dflt RT.u32) = List.getD c (Int.toNat (↑i : Int)) (RT.dflt RT.u32)) || !decide (List.getD M (Int.toNat (List.getD T (Int.toNat (↑i : Int)) (RT.dflt RT.i64))) (RT.dflt RT.u8) = List.getD m (Int.toNat (↑i : Int)) (RT.dflt RT.u8)) || !decide (List.getD T (Int.toNat ((↑i : Int) + (1 : Int))) (RT.dflt RT.i64) = IntKind.wrap IntKind.i64 (List.getD T (Int.toNat (↑i : Int)) (RT.dflt RT.i64) + (1 : Int)))) = true → False) ∧ ((!decide (List.getD C (Int.toNat (List.getD T (Int.toNat (↑i : Int)) (RT.dflt RT.i64))) (RT.dflt RT.u32) = List.getD c (Int.toNat (↑i : Int)) (RT.dflt RT.u32)) || !decide (List.getD M (Int.toNat (List.getD T (Int.toNat (↑i : Int)) (RT.dflt RT.i64))) (RT.dflt RT.u8) = List.getD m (Int.toNat (↑i : Int)) (RT.dflt RT.u8)) || !decide (List.getD T (Int.toNat ((↑i : Int) + (1 : Int))) (RT.dflt RT.i64) = IntKind.wrap IntKind.i64 (List.getD T (Int.toNat (↑i : Int)) (RT.dflt RT.i64) + (1 : Int)))) = false → i < List.length c ∧ True ∧ true = true ∧ T = T ∧ (↑i : Int) + (1 : Int) = (↑(i + (1 : Nat)) : Int) ∧ ((0 : Int) ≤ (↑(i + (1 : Nat)) : Int) ∧ (↑(i + (1 : Nat)) : Int) ≤ (1000000 : Int)) ∧ d = d ∧ c = c ∧ m = m ∧ dr = dr ∧ cr = cr ∧ sy = sy ∧ d2 = d2 ∧ C = C ∧ M = M ∧ dr2 = dr2 ∧ cr2 = cr2 ∧ sy2 = sy2))))))) ∧ ((!decide (List.getD m (Int.toNat (↑i : Int)) (RT.dflt RT.u8) = (1 : Int)) || decide (isaClass (List.getD c (Int.toNat (↑i : Int)) (RT.dflt RT.u32) / (16777216 : Int)) = (1 : Int))) = false → ((0 : Int) ≤ (↑i : Int) + (1 : Int) ∧ (↑i : Int) + (1 : Int) < (↑(List.length T) : Int)) ∧ ((0 : Int) ≤ (↑i : Int) + (1 : Int) ∧ (↑i : Int) + (1 : Int) < (↑(List.length T) : Int) → ((!!decide (List.getD T (Int.toNat ((↑i : Int) + (1 : Int))) (RT.dflt RT.i64) = IntKind.wrap IntKind.i64 (List.getD T (Int.toNat (↑i : Int)) (RT.dflt RT.i64) + (2 : Int)))) = true → (0 : Int) ≤ List.getD T (Int.toNat (↑i : Int)) (RT.dflt RT.i64) ∧ List.getD T (Int.toNat (↑i : Int)) (RT.dflt RT.i64) < (↑(List.length C) : Int)) ∧ (((!!decide (List.getD T (Int.toNat ((↑i : Int) + (1 : Int))) (RT.dflt RT.i64) = IntKind.wrap IntKind.i64 (List.getD T (Int.toNat (↑i : Int)) (RT.dflt RT.i64) + (2 : Int)))) = true → (0 : Int) ≤ List.getD T (Int.toNat (↑i : Int)) (RT.dflt RT.i64) ∧ List.getD T (Int.toNat (↑i : Int)) (RT.dflt RT.i64) < (↑(List.length C) : Int)) → ((!(!decide (List.getD T (Int.toNat ((↑i : Int) + (1 : Int))) (RT.dflt RT.i64) = IntKind.wrap IntKind.i64 (List.getD T (Int.toNat (↑i : Int)) (RT.dflt RT.i64) + (2 : Int))) || !decide (List.getD C (Int.toNat (List.getD T (Int.toNat (↑i : Int)) (RT.dflt RT.i64))) (RT.dflt RT.u32) = (1610612736 : Int)))) = true → (0 : Int) ≤ List.getD T (Int.toNat (↑i : Int)) (RT.dflt RT.i64) ∧ List.getD T (Int.toNat (↑i : Int)) (RT.dflt RT.i64) < (↑(List.length M) : Int)) ∧ (((!(!decide (List.getD T (Int.toNat ((↑i : Int) + (1 : Int))) (RT.dflt RT.i64) = IntKind.wrap IntKind.i64 (List.getD T (Int.toNat (↑i : Int)) (RT.dflt RT.i64) + (2 : Int))) || !decide (List.getD C (Int.toNat (List.getD T (Int.toNat (↑i : Int)) (RT.dflt RT.i64))) (RT.dflt RT.u32) = (1610612736 : Int)))) = true → (0 : Int) ≤ List.getD T (Int.toNat (↑i : Int)) (RT.dflt RT.i64) ∧ List.getD T (Int.toNat (↑i : Int)) (RT.dflt RT.i64) < (↑(List.length M) : Int)) → ((!(!decide (List.getD T (Int.toNat ((↑i : Int) + (1 : Int))) (RT.dflt RT.i64) = IntKind.wrap IntKind.i64 (List.getD T (Int.toNat (↑i : Int)) (RT.dflt RT.i64) + (2 : Int))) || !decide (List.getD C (Int.toNat (List.getD T (Int.toNat (↑i : Int)) (RT.dflt RT.i64))) (RT.dflt RT.u32) = (1610612736 : Int)) || !decide (List.getD M (Int.toNat (List.getD T (Int.toNat (↑i : Int)) (RT.dflt RT.i64))) (RT.dflt RT.u8) = (1 : Int)))) = true → (0 : Int) ≤ IntKind.wrap IntKind.i64 (List.getD T (Int.toNat (↑i : Int)) (RT.dflt RT.i64) + (1 : Int)) ∧ IntKind.wrap IntKind.i64 (List.getD T (Int.toNat (↑i : Int)) (RT.dflt RT.i64) + (1 : Int)) < (↑(List.length M) : Int)) ∧ (((!(!decide (List.getD T (Int.toNat ((↑i : Int) + (1 : Int))) (RT.dflt RT.i64) = IntKind.wrap IntKind.i64 (List.getD T (Int.toNat (↑i : Int)) (RT.dflt RT.i64) + (2 : Int))) || !decide (List.getD C (Int.toNat (List.getD T (Int.toNat (↑i : Int)) (RT.dflt RT.i64))) (RT.dflt RT.u32) = (1610612736 : Int)) || !decide (List.getD M (Int.toNat (List.getD T (Int.toNat (↑i : Int)) (RT.dflt RT.i64))) (RT.dflt RT.u8) = (1 : Int)))) = true → (0 : Int) ≤ IntKind.wrap IntKind.i64 (List.getD T (Int.toNat (↑i : Int)) (RT.dflt RT.i64) + (1 : Int)) ∧ IntKind.wrap IntKind.i64 (List.getD T (Int.toNat (↑i : Int)) (RT.dflt RT.i64) + (1 : Int)) < (↑(List.length M) : Int)) → ((!decide (List.getD T (Int.toNat ((↑i : Int) + (1 : Int))) (RT.dflt RT.i64) = IntKind.wrap IntKind.i64 (List.getD T (Int.toNat (↑i : Int)) (RT.dflt RT.i64) + (2 : Int))) || !decide (List.getD C (Int.toNat (List.getD T (Int.toNat (↑i : Int)) (RT.dflt RT.i64))) (RT.dflt RT.u32) = (1610612736 : Int)) || !decide (List.getD M (Int.toNat (List.getD T (Int.toNat (↑i : Int)) (RT.dflt RT.i64))) (RT.dflt RT.u8) = (1 : Int)) || !decide (List.getD M (Int.toNat (IntKind.wrap IntKind.i64 (List.getD T (Int.toNat (↑i : Int)) (RT.dflt RT.i64) + (1 : Int)))) (RT.dflt RT.u8) = (0 : Int))) = true → False) ∧ ((!decide (List.getD T (Int.toNat ((↑i : Int) + (1 : Int))) (RT.dflt RT.i64) = IntKind.wrap IntKind.i64 (List.getD T (Int.toNat (↑i : Int)) (RT.dflt RT.i64) + (2 : Int))) || !decide (List.getD C (Int.toNat (List.getD T (Int.toNat (↑i : Int)) (RT.dflt RT.i64))) (RT.dflt RT.u32) = (1610612736 : Int)) || !decide (List.getD M (Int.toNat (List.getD T (Int.toNat (↑i : Int)) (RT.dflt RT.i64))) (RT.dflt RT.u8) = (1 : Int)) || !decide (List.getD M (Int.toNat (IntKind.wrap IntKind.i64 (List.getD T (Int.toNat (↑i : Int)) (RT.dflt RT.i64) + (1 : Int)))) (RT.dflt RT.u8) = (0 : Int))) = false → ((0 : Int) ≤ IntKind.wrap IntKind.i64 (List.getD T (Int.toNat (↑i : Int)) (RT.dflt RT.i64) + (1 : Int)) ∧ IntKind.wrap IntKind.i64 (List.getD T (Int.toNat (↑i : Int)) (RT.dflt RT.i64) + (1 : Int)) < (↑(List.length C) : Int)) ∧ ((0 : Int) ≤ IntKind.wrap IntKind.i64 (List.getD T (Int.toNat (↑i : Int)) (RT.dflt RT.i64) + (1 : Int)) ∧ IntKind.wrap IntKind.i64 (List.getD T (Int.toNat (↑i : Int)) (RT.dflt RT.i64) + (1 : Int)) < (↑(List.length C) : Int) → ((!!backB (List.getD C (Int.toNat (IntKind.wrap IntKind.i64 (List.getD T (Int.toNat (↑i : Int)) (RT.dflt RT.i64) + (1 : Int)))) (RT.dflt RT.u32))) = true → (0 : Int) ≤ (↑i : Int) ∧ (↑i : Int) < (↑(List.length c) : Int)) ∧ (((!!backB (List.getD C (Int.toNat (IntKind.wrap IntKind.i64 (List.getD T (Int.toNat (↑i : Int)) (RT.dflt RT.i64) + (1 : Int)))) (RT.dflt RT.u32))) = true → (0 : Int) ≤ (↑i : Int) ∧ (↑i : Int) < (↑(List.length c) : Int)) → ((!backB (List.getD C (Int.toNat (IntKind.wrap IntKind.i64 (List.getD T (Int.toNat (↑i : Int)) (RT.dflt RT.i64) + (1 : Int)))) (RT.dflt RT.u32)) || !decide ((backI (List.getD C (Int.toNat (IntKind.wrap IntKind.i64 (List.getD T (Int.toNat (↑i : Int)) (RT.dflt RT.i64) + (1 : Int)))) (RT.dflt RT.u32))).op = List.getD c (Int.toNat (↑i : Int)) (RT.dflt RT.u32) / (16777216 : Int))) = true → False) ∧ ((!backB (List.getD C (Int.toNat (IntKind.wrap IntKind.i64 (List.getD T (Int.toNat (↑i : Int)) (RT.dflt RT.i64) + (1 : Int)))) (RT.dflt RT.u32)) || !decide ((backI (List.getD C (Int.toNat (IntKind.wrap IntKind.i64 (List.getD T (Int.toNat (↑i : Int)) (RT.dflt RT.i64) + (1 : Int)))) (RT.dflt RT.u32))).op = List.getD c (Int.toNat (↑i : Int)) (RT.dflt RT.u32) / (16777216 : Int))) = false → i < List.length c ∧ True ∧ true = true ∧ T = T ∧ (↑i : Int) + (1 : Int) = (↑(i + (1 : Nat)) : Int) ∧ ((0 : Int) ≤ (↑(i + (1 : Nat)) : Int) ∧ (↑(i + (1 : Nat)) : Int) ≤ (1000000 : Int)) ∧ d = d ∧ c = c ∧ m = m ∧ dr = dr ∧ cr = cr ∧ sy = sy ∧ d2 = d2 ∧ C = C ∧ M = M ∧ dr2 = dr2 ∧ cr2 = cr2 ∧ sy2 = sy2)))))))))))))) ∧ (decide ((↑i : Int) < (↑(List.length c) : Int)) = false → Nat.beq (0 : Nat) (0 : Nat) = true ∧ true = true ∧ T = T ∧ d = d ∧ c = c ∧ m = m ∧ dr = dr ∧ cr = cr ∧ sy = sy ∧ d2 = d2 ∧ C = C ∧ M = M ∧ dr2 = dr2 ∧ cr2 = cr2 ∧ sy2 = sy2)) := by kernel_rfl
set_option maxHeartbeats 4000000 in
theorem lKeepA (d c m : List Int) (dr cr : List Rel) (sy : List Sm) (d2 C M : List Int) (dr2 cr2 : List Rel) (sy2 : List Sm) (T : List Int) {W : World} {R own0 : Nat → Prop} {ρ0 : Nat → Option Value} (hown : HownOk (env (G7 ++ rest) [(32, kfirst11), (33, kDo), (17, kLight), (19, krClass), (38, kBack), (36, kfW), (37, kfR)]) own0 ρ0) : LOk Tryd.prog (env (G7 ++ rest) [(32, kfirst11), (33, kDo), (17, kLight), (19, krClass), (38, kBack), (36, kfW), (37, kfR)]) (ctx ea has) (G7 ++ rest) W R own0 ρ0 (loopN (bodyOf Tryd.f7) 0) (LKeepA d c m dr cr sy d2 C M dr2 cr2 sy2 T) := by
  refine loop1_ok (env_ok (con := [(32, kfirst11), (33, kDo), (17, kLight), (19, krClass), (38, kBack), (36, kfW), (37, kfR)]) ⟨cfirst11, cDo, cLight, crClass, cBack, cfW, cfR, trivial⟩) hown (ls := fun i => []) (fun i => noLoops (by kernel_rfl)) (fun hm i hi hj => (bKeepA rest d c m dr cr sy d2 C M dr2 cr2 sy2 T i).mpr ?_) 0 (fun hm => by first | exact Nat.zero_le _ | omega) (fun hm => trivial)
  obtain ⟨z1, z2, z3, z4, z5, hk⟩ := hm
  have d0 : RT.i64.dflt = (0 : Int) := rfl
  have d1 : RT.u8.dflt = (0 : Int) := rfl
  have d2 : RT.u32.dflt = (0 : Int) := rfl
  have e1 : ((i : Int) + 1).toNat = i + 1 := by omega
  refine ⟨fun h => ?_, fun h => by simp⟩
  have hlt : i < c.length := by have := of_decide_eq_true h; omega
  obtain ⟨p, h1, h2, h3, h4, h5⟩ := hk i hlt
  have w1 : IntKind.i64.wrap ((p : Int) + 1) = p + 1 := by rw [IntKind.wrap_i64]; omega
  have w2 : IntKind.i64.wrap ((p : Int) + 2) = p + 2 := by rw [IntKind.wrap_i64]; omega
  have e2 : ((p : Int) + 1).toNat = p + 1 := by omega
  have hN : (!decide (m.getD i 0 = 1) || decide (isaClass (c.getD i 0 / 16777216) = 1)) = !isN c m i := by unfold isN; rw [Bool.not_and, Bool.not_not]
  have b1 : (0 ≤ (i : Int) ∧ (i : Int) < T.length) := by omega
  have b2 : (0 ≤ (i : Int) ∧ (i : Int) < c.length) := by omega
  have b3 : (0 ≤ (i : Int) ∧ (i : Int) < m.length) := by omega
  have b4 : (0 ≤ (p : Int) ∧ (p : Int) < C.length) := by omega
  have b5 : (0 ≤ (p : Int) ∧ (p : Int) < M.length) := by omega
  have b6 : (0 ≤ (i : Int) + 1 ∧ (i : Int) + 1 < T.length) := by omega
  have b7 : decide ((p : Int) < i) = false := decide_eq_false (by omega)
  have b8 : decide ((C.length : Int) ≤ p) = false := decide_eq_false (by omega)
  have b9 : 0 ≤ ((i + 1 : Nat) : Int) ∧ ((i + 1 : Nat) : Int) ≤ 1000000 := by omega
  have b0 : (i : Int) + 1 = ((i + 1 : Nat) : Int) := by omega
  simp only [d0, d1, d2, Int.toNat_natCast, e1, h1, w1, w2, e2, hN, b1, b2, b3, b4, b5, b6, b7, b8, b9, hlt]
  cases hb : isN c m i with
  | true =>
    obtain ⟨a1, a2, a3, a4, a5, a6, a7⟩ := h4 hb
    have c1 : (0 ≤ (p : Int) + 1 ∧ (p : Int) + 1 < C.length) := by omega
    have c2 : (0 ≤ (p : Int) + 1 ∧ (p : Int) + 1 < M.length) := by omega
    simp only [a1, a3, a4, a5, a6, a7, c1, c2]
    simp
  | false =>
    obtain ⟨a1, a2, a3⟩ := h5 hb
    simp only [a1, a2, a3]
    simp
def HKeepB (d c m : List Int) (dr cr : List Rel) (sy : List Sm) (d2 C M : List Int) (dr2 cr2 : List Rel) (sy2 : List Sm) (T : List Int) (i : Nat) : SState := { fr := [(1, .ptr 0 0), (3, .bool (.lit true)), (4, .ptr 1 0), (5, .ro .i64 T), (12, .int .i64 (.sym i 0 1000000))], hp := [(0, obBox d c m dr cr sy), (1, obBox d2 C M dr2 cr2 sy2)], next := 2, sz := 286 }
def XKeepB (d c m : List Int) (dr cr : List Rel) (sy : List Sm) (d2 C M : List Int) (dr2 cr2 : List Rel) (sy2 : List Sm) (T : List Int) : SState := { fr := [(3, .bool (.lit true))], hp := [], next := 0, sz := 286 }
def LKeepB (d c m : List Int) (dr cr : List Rel) (sy : List Sm) (d2 C M : List Int) (dr2 cr2 : List Rel) (sy2 : List Sm) (T : List Int) : LSum := ⟨HKeepB d c m dr cr sy d2 C M dr2 cr2 sy2 T 0, fun k => k (.exit 2) (XKeepB d c m dr cr sy d2 C M dr2 cr2 sy2 T), KeptS c T sy sy2⟩
theorem bKeepB (rest : List (Nat × SVal)) (d c m : List Int) (dr cr : List Rel) (sy : List Sm) (d2 C M : List Int) (dr2 cr2 : List Rel) (sy2 : List Sm) (T : List Int) (i : Nat) : (Tr.sat (rnd1 (env (G7 ++ rest) [(32, kfirst11), (33, kDo), (17, kLight), (19, krClass), (38, kBack), (36, kfW), (37, kfR)]) (fun _ => True) (sy.length) (HKeepB d c m dr cr sy d2 C M dr2 cr2 sy2 T) 2 (XKeepB d c m dr cr sy d2 C M dr2 cr2 sy2 T) i) (run (env (G7 ++ rest) [(32, kfirst11), (33, kDo), (17, kLight), (19, krClass), (38, kBack), (36, kfW), (37, kfR)]) [] (loopN (bodyOf Tryd.f7) 1) (HKeepB d c m dr cr sy d2 C M dr2 cr2 sy2 T i) .leaf)) = (
  (decide ((↑i : Int) < (↑(List.length sy) : Int)) = true → ((0 : Int) ≤ (↑i : Int) ∧ (↑i : Int) < (↑(List.length sy) : Int)) ∧ ((0 : Int) ≤ (↑i : Int) ∧ (↑i : Int) < (↑(List.length sy) : Int) → ((0 : Int) ≤ (↑i : Int) ∧ (↑i : Int) < (↑(List.length sy) : Int)) ∧ ((0 : Int) ≤ (↑i : Int) ∧ (↑i : Int) < (↑(List.length sy) : Int) → (decide ((List.getD sy (Int.toNat (↑i : Int)) (RT.dflt RT.sym)).in_ = (2 : Int)) = true → ((0 : Int) ≤ (List.getD sy (Int.toNat (↑i : Int)) (RT.dflt RT.sym)).value ∧ (List.getD sy (Int.toNat (↑i : Int)) (RT.dflt RT.sym)).value < (↑(List.length T) : Int)) ∧ ((0 : Int) ≤ (List.getD sy (Int.toNat (↑i : Int)) (RT.dflt RT.sym)).value ∧ (List.getD sy (Int.toNat (↑i : Int)) (RT.dflt RT.sym)).value < (↑(List.length T) : Int) → ((0 : Int) ≤ (↑i : Int) ∧ (↑i : Int) < (↑(List.length sy2) : Int)) ∧ ((0 : Int) ≤ (↑i : Int) ∧ (↑i : Int) < (↑(List.length sy2) : Int) → ((!!decide ((List.getD sy2 (Int.toNat (↑i : Int)) (RT.dflt RT.sym)).value = List.getD T (Int.toNat (List.getD sy (Int.toNat (↑i : Int)) (RT.dflt RT.sym)).value) (RT.dflt RT.i64))) = true → (0 : Int) ≤ (↑i : Int) ∧ (↑i : Int) < (↑(List.length sy2) : Int)) ∧ (((!!decide ((List.getD sy2 (Int.toNat (↑i : Int)) (RT.dflt RT.sym)).value = List.getD T (Int.toNat (List.getD sy (Int.toNat (↑i : Int)) (RT.dflt RT.sym)).value) (RT.dflt RT.i64))) = true → (0 : Int) ≤ (↑i : Int) ∧ (↑i : Int) < (↑(List.length sy2) : Int)) → ((!!decide ((List.getD sy2 (Int.toNat (↑i : Int)) (RT.dflt RT.sym)).value = List.getD T (Int.toNat (List.getD sy (Int.toNat (↑i : Int)) (RT.dflt RT.sym)).value) (RT.dflt RT.i64))) = true → (0 : Int) ≤ (↑i : Int) ∧ (↑i : Int) < (↑(List.length sy) : Int)) ∧ (((!!decide ((List.getD sy2 (Int.toNat (↑i : Int)) (RT.dflt RT.sym)).value = List.getD T (Int.toNat (List.getD sy (Int.toNat (↑i : Int)) (RT.dflt RT.sym)).value) (RT.dflt RT.i64))) = true → (0 : Int) ≤ (↑i : Int) ∧ (↑i : Int) < (↑(List.length sy) : Int)) → ((!decide ((List.getD sy2 (Int.toNat (↑i : Int)) (RT.dflt RT.sym)).value = List.getD T (Int.toNat (List.getD sy (Int.toNat (↑i : Int)) (RT.dflt RT.sym)).value) (RT.dflt RT.i64)) || !decide ((List.getD sy2 (Int.toNat (↑i : Int)) (RT.dflt RT.sym)).name = (List.getD sy (Int.toNat (↑i : Int)) (RT.dflt RT.sym)).name)) = true → False) ∧ ((!decide ((List.getD sy2 (Int.toNat (↑i : Int)) (RT.dflt RT.sym)).value = List.getD T (Int.toNat (List.getD sy (Int.toNat (↑i : Int)) (RT.dflt RT.sym)).value) (RT.dflt RT.i64)) || !decide ((List.getD sy2 (Int.toNat (↑i : Int)) (RT.dflt RT.sym)).name = (List.getD sy (Int.toNat (↑i : Int)) (RT.dflt RT.sym)).name)) = false → i < List.length sy ∧ True ∧ true = true ∧ T = T ∧ (↑i : Int) + (1 : Int) = (↑(i + (1 : Nat)) : Int) ∧ ((0 : Int) ≤ (↑(i + (1 : Nat)) : Int) ∧ (↑(i + (1 : Nat)) : Int) ≤ (1000000 : Int)) ∧ d = d ∧ c = c ∧ m = m ∧ dr = dr ∧ cr = cr ∧ sy = sy ∧ d2 = d2 ∧ C = C ∧ M = M ∧ dr2 = dr2 ∧ cr2 = cr2 ∧ sy2 = sy2)))))) ∧ (decide ((List.getD sy (Int.toNat (↑i : Int)) (RT.dflt RT.sym)).in_ = (2 : Int)) = false → ((0 : Int) ≤ (↑i : Int) ∧ (↑i : Int) < (↑(List.length sy2) : Int)) ∧ ((0 : Int) ≤ (↑i : Int) ∧ (↑i : Int) < (↑(List.length sy2) : Int) → ((!!decide ((List.getD sy2 (Int.toNat (↑i : Int)) (RT.dflt RT.sym)).value = (List.getD sy (Int.toNat (↑i : Int)) (RT.dflt RT.sym)).value)) = true → (0 : Int) ≤ (↑i : Int) ∧ (↑i : Int) < (↑(List.length sy2) : Int)) ∧ (((!!decide ((List.getD sy2 (Int.toNat (↑i : Int)) (RT.dflt RT.sym)).value = (List.getD sy (Int.toNat (↑i : Int)) (RT.dflt RT.sym)).value)) = true → (0 : Int) ≤ (↑i : Int) ∧ (↑i : Int) < (↑(List.length sy2) : Int)) → ((!!decide ((List.getD sy2 (Int.toNat (↑i : Int)) (RT.dflt RT.sym)).value = (List.getD sy (Int.toNat (↑i : Int)) (RT.dflt RT.sym)).value)) = true → (0 : Int) ≤ (↑i : Int) ∧ (↑i : Int) < (↑(List.length sy) : Int)) ∧ (((!!decide ((List.getD sy2 (Int.toNat (↑i : Int)) (RT.dflt RT.sym)).value = (List.getD sy (Int.toNat (↑i : Int)) (RT.dflt RT.sym)).value)) = true → (0 : Int) ≤ (↑i : Int) ∧ (↑i : Int) < (↑(List.length sy) : Int)) → ((!decide ((List.getD sy2 (Int.toNat (↑i : Int)) (RT.dflt RT.sym)).value = (List.getD sy (Int.toNat (↑i : Int)) (RT.dflt RT.sym)).value) || !decide ((List.getD sy2 (Int.toNat (↑i : Int)) (RT.dflt RT.sym)).name = (List.getD sy (Int.toNat (↑i : Int)) (RT.dflt RT.sym)).name)) = true → False) ∧ ((!decide ((List.getD sy2 (Int.toNat (↑i : Int)) (RT.dflt RT.sym)).value = (List.getD sy (Int.toNat (↑i : Int)) (RT.dflt RT.sym)).value) || !decide ((List.getD sy2 (Int.toNat (↑i : Int)) (RT.dflt RT.sym)).name = (List.getD sy (Int.toNat (↑i : Int)) (RT.dflt RT.sym)).name)) = false → i < List.length sy ∧ True ∧ true = true ∧ T = T ∧ (↑i : Int) + (1 : Int) = (↑(i + (1 : Nat)) : Int) ∧ ((0 : Int) ≤ (↑(i + (1 : Nat)) : Int) ∧ (↑(i + (1 : Nat)) : Int) ≤ (1000000 : Int)) ∧ d = d ∧ c = c ∧ m = m ∧ dr = dr ∧ cr = cr ∧ sy = sy ∧ d2 = d2 ∧ C = C ∧ M = M ∧ dr2 = dr2 ∧ cr2 = cr2 ∧ sy2 = sy2)))))))) ∧ (decide ((↑i : Int) < (↑(List.length sy) : Int)) = false → Nat.beq (2 : Nat) (2 : Nat) = true ∧ true = true)) := by kernel_rfl
set_option maxHeartbeats 4000000 in
theorem lKeepB (d c m : List Int) (dr cr : List Rel) (sy : List Sm) (d2 C M : List Int) (dr2 cr2 : List Rel) (sy2 : List Sm) (T : List Int) {W : World} {R own0 : Nat → Prop} {ρ0 : Nat → Option Value} (hown : HownOk (env (G7 ++ rest) [(32, kfirst11), (33, kDo), (17, kLight), (19, krClass), (38, kBack), (36, kfW), (37, kfR)]) own0 ρ0) : LOk Tryd.prog (env (G7 ++ rest) [(32, kfirst11), (33, kDo), (17, kLight), (19, krClass), (38, kBack), (36, kfW), (37, kfR)]) (ctx ea has) (G7 ++ rest) W R own0 ρ0 (loopN (bodyOf Tryd.f7) 1) (LKeepB d c m dr cr sy d2 C M dr2 cr2 sy2 T) := by
  refine loop1_ok (env_ok (con := [(32, kfirst11), (33, kDo), (17, kLight), (19, krClass), (38, kBack), (36, kfW), (37, kfR)]) ⟨cfirst11, cDo, cLight, crClass, cBack, cfW, cfR, trivial⟩) hown (ls := fun i => []) (fun i => noLoops (by kernel_rfl)) (fun hm i hi hj => (bKeepB rest d c m dr cr sy d2 C M dr2 cr2 sy2 T i).mpr ?_) 0 (fun hm => by first | exact Nat.zero_le _ | omega) (fun hm => trivial)
  obtain ⟨z1, z5, z6, z7, hk⟩ := hm
  have d0 : RT.i64.dflt = (0 : Int) := rfl
  refine ⟨fun h => ?_, fun h => by simp⟩
  have hlt : i < sy.length := by have := of_decide_eq_true h; omega
  obtain ⟨h1, h2, h3⟩ := hk i hlt
  have b1 : (0 ≤ (i : Int) ∧ (i : Int) < sy.length) := by omega
  have b2 : (0 ≤ (i : Int) ∧ (i : Int) < sy2.length) := by omega
  have b9 : 0 ≤ ((i + 1 : Nat) : Int) ∧ ((i + 1 : Nat) : Int) ≤ 1000000 := by omega
  simp only [d0, Int.toNat_natCast, h2, h3, b1, b2, b9, hlt]
  by_cases g : (sy.getD i RT.sym.dflt).in_ = 2
  · have h1 := h1 g
    simp only [if_pos g, decide_eq_true g, h1]
    simp
  · simp only [if_neg g, decide_eq_false g]
    simp
def kRewriteKeeps : List SVal → Nat → Acc ORes := fun a n => match a with | [.agg [.ro .u32 d, .ro .u32 c, .ro .u8 m, .ro .rel dr, .ro .rel cr, .ro .sym sy]] => .ret ({ v := .bool (.lit true) }) | _ => .fail "RewriteKeeps"
theorem argRewriteKeeps (d c m : List Int) (dr cr : List Rel) (sy : List Sm) : (all (subL 134 none' [] deep [.agg [.ro .u32 d, .ro .u32 c, .ro .u8 m, .ro .rel dr, .ro .rel cr, .ro .sym sy]] [.agg [.ro .u32 d, .ro .u32 c, .ro .u8 m, .ro .rel dr, .ro .rel cr, .ro .sym sy]])) = (
  d = d ∧ c = c ∧ m = m ∧ dr = dr ∧ cr = cr ∧ sy = sy) := by kernel_rfl
theorem runRewriteKeeps (rest : List (Nat × SVal)) (d c m : List Int) (dr cr : List Rel) (sy : List Sm) : (Tr.sat (plainQ (.bool (.lit true))) (run (env (G7 ++ rest) [(32, kfirst11), (33, kDo), (17, kLight), (19, krClass), (38, kBack), (36, kfW), (37, kfR)]) [(12, LKeepA d c m dr cr sy (ifOk (doE d c m dr cr sy) d) (doC (doE d c m dr cr sy) c m) (doM (doE d c m dr cr sy) c m) (ifOk (doE d c m dr cr sy) dr) (doR (doE d c m dr cr sy) c m cr) (doS (doE d c m dr cr sy) c m sy) (doT (doE d c m dr cr sy) c m)), (27, LKeepB d c m dr cr sy (ifOk (doE d c m dr cr sy) d) (doC (doE d c m dr cr sy) c m) (doM (doE d c m dr cr sy) c m) (ifOk (doE d c m dr cr sy) dr) (doR (doE d c m dr cr sy) c m cr) (doS (doE d c m dr cr sy) c m sy) (doT (doE d c m dr cr sy) c m))] (bodyOf Tryd.f7) (start [.agg [.ro .u32 d, .ro .u32 c, .ro .u8 m, .ro .rel dr, .ro .rel cr, .ro .sym sy]] 286) (ends (env (G7 ++ rest) [(32, kfirst11), (33, kDo), (17, kLight), (19, krClass), (38, kBack), (36, kfW), (37, kfR)]) Tryd.f7.results.toList))) = (
  ((0 : Int) ≤ (200 : Int) ∧ (200 : Int) ≤ (1000000 : Int)) ∧ ((0 : Int) ≤ (200 : Int) ∧ (200 : Int) ≤ (1000000 : Int) → ((!(!lightB d c m dr cr sy (200 : Int) && noneP (longP sy) (List.length sy))) = true → true = true) ∧ ((!(!lightB d c m dr cr sy (200 : Int) && noneP (longP sy) (List.length sy))) = false → ((!!FErr.isErr (doE d c m dr cr sy)) = true → decide ((↑(List.length (doC (doE d c m dr cr sy) c m)) : Int) = (0 : Int)) = true) ∧ ((!!FErr.isErr (doE d c m dr cr sy)) = false → ((!(decide (IntKind.wrap IntKind.i64 ((2 : Int) * (↑(List.length c) : Int)) < (↑(List.length (doC (doE d c m dr cr sy) c m)) : Int)) || !decide ((↑(List.length (doM (doE d c m dr cr sy) c m)) : Int) = (↑(List.length (doC (doE d c m dr cr sy) c m)) : Int)) || !decide ((↑(List.length (doT (doE d c m dr cr sy) c m)) : Int) = IntKind.wrap IntKind.i64 ((↑(List.length c) : Int) + (1 : Int))))) = true → (0 : Int) ≤ (↑(List.length c) : Int) ∧ (↑(List.length c) : Int) < (↑(List.length (doT (doE d c m dr cr sy) c m)) : Int)) ∧ (((!(decide (IntKind.wrap IntKind.i64 ((2 : Int) * (↑(List.length c) : Int)) < (↑(List.length (doC (doE d c m dr cr sy) c m)) : Int)) || !decide ((↑(List.length (doM (doE d c m dr cr sy) c m)) : Int) = (↑(List.length (doC (doE d c m dr cr sy) c m)) : Int)) || !decide ((↑(List.length (doT (doE d c m dr cr sy) c m)) : Int) = IntKind.wrap IntKind.i64 ((↑(List.length c) : Int) + (1 : Int))))) = true → (0 : Int) ≤ (↑(List.length c) : Int) ∧ (↑(List.length c) : Int) < (↑(List.length (doT (doE d c m dr cr sy) c m)) : Int)) → ((!(decide (IntKind.wrap IntKind.i64 ((2 : Int) * (↑(List.length c) : Int)) < (↑(List.length (doC (doE d c m dr cr sy) c m)) : Int)) || !decide ((↑(List.length (doM (doE d c m dr cr sy) c m)) : Int) = (↑(List.length (doC (doE d c m dr cr sy) c m)) : Int)) || !decide ((↑(List.length (doT (doE d c m dr cr sy) c m)) : Int) = IntKind.wrap IntKind.i64 ((↑(List.length c) : Int) + (1 : Int))) || !decide (List.getD (doT (doE d c m dr cr sy) c m) (Int.toNat (↑(List.length c) : Int)) (RT.dflt RT.i64) = (↑(List.length (doC (doE d c m dr cr sy) c m)) : Int)))) = true → List.length (ifOk (doE d c m dr cr sy) d) ≤ (1000000 : Nat)) ∧ (((!(decide (IntKind.wrap IntKind.i64 ((2 : Int) * (↑(List.length c) : Int)) < (↑(List.length (doC (doE d c m dr cr sy) c m)) : Int)) || !decide ((↑(List.length (doM (doE d c m dr cr sy) c m)) : Int) = (↑(List.length (doC (doE d c m dr cr sy) c m)) : Int)) || !decide ((↑(List.length (doT (doE d c m dr cr sy) c m)) : Int) = IntKind.wrap IntKind.i64 ((↑(List.length c) : Int) + (1 : Int))) || !decide (List.getD (doT (doE d c m dr cr sy) c m) (Int.toNat (↑(List.length c) : Int)) (RT.dflt RT.i64) = (↑(List.length (doC (doE d c m dr cr sy) c m)) : Int)))) = true → List.length (ifOk (doE d c m dr cr sy) d) ≤ (1000000 : Nat)) → ((!(decide (IntKind.wrap IntKind.i64 ((2 : Int) * (↑(List.length c) : Int)) < (↑(List.length (doC (doE d c m dr cr sy) c m)) : Int)) || !decide ((↑(List.length (doM (doE d c m dr cr sy) c m)) : Int) = (↑(List.length (doC (doE d c m dr cr sy) c m)) : Int)) || !decide ((↑(List.length (doT (doE d c m dr cr sy) c m)) : Int) = IntKind.wrap IntKind.i64 ((↑(List.length c) : Int) + (1 : Int))) || !decide (List.getD (doT (doE d c m dr cr sy) c m) (Int.toNat (↑(List.length c) : Int)) (RT.dflt RT.i64) = (↑(List.length (doC (doE d c m dr cr sy) c m)) : Int)) || !decide (ifOk (doE d c m dr cr sy) d = d))) = true → List.length (ifOk (doE d c m dr cr sy) dr) ≤ (1000000 : Nat)) ∧ (((!(decide (IntKind.wrap IntKind.i64 ((2 : Int) * (↑(List.length c) : Int)) < (↑(List.length (doC (doE d c m dr cr sy) c m)) : Int)) || !decide ((↑(List.length (doM (doE d c m dr cr sy) c m)) : Int) = (↑(List.length (doC (doE d c m dr cr sy) c m)) : Int)) || !decide ((↑(List.length (doT (doE d c m dr cr sy) c m)) : Int) = IntKind.wrap IntKind.i64 ((↑(List.length c) : Int) + (1 : Int))) || !decide (List.getD (doT (doE d c m dr cr sy) c m) (Int.toNat (↑(List.length c) : Int)) (RT.dflt RT.i64) = (↑(List.length (doC (doE d c m dr cr sy) c m)) : Int)) || !decide (ifOk (doE d c m dr cr sy) d = d))) = true → List.length (ifOk (doE d c m dr cr sy) dr) ≤ (1000000 : Nat)) → ((decide (IntKind.wrap IntKind.i64 ((2 : Int) * (↑(List.length c) : Int)) < (↑(List.length (doC (doE d c m dr cr sy) c m)) : Int)) || !decide ((↑(List.length (doM (doE d c m dr cr sy) c m)) : Int) = (↑(List.length (doC (doE d c m dr cr sy) c m)) : Int)) || !decide ((↑(List.length (doT (doE d c m dr cr sy) c m)) : Int) = IntKind.wrap IntKind.i64 ((↑(List.length c) : Int) + (1 : Int))) || !decide (List.getD (doT (doE d c m dr cr sy) c m) (Int.toNat (↑(List.length c) : Int)) (RT.dflt RT.i64) = (↑(List.length (doC (doE d c m dr cr sy) c m)) : Int)) || !decide (ifOk (doE d c m dr cr sy) d = d) || !decide (ifOk (doE d c m dr cr sy) dr = dr) || !decide ((↑(List.length (doR (doE d c m dr cr sy) c m cr)) : Int) = (↑(List.length cr) : Int)) || !decide ((↑(List.length (doS (doE d c m dr cr sy) c m sy)) : Int) = (↑(List.length sy) : Int))) = true → false = true) ∧ ((decide (IntKind.wrap IntKind.i64 ((2 : Int) * (↑(List.length c) : Int)) < (↑(List.length (doC (doE d c m dr cr sy) c m)) : Int)) || !decide ((↑(List.length (doM (doE d c m dr cr sy) c m)) : Int) = (↑(List.length (doC (doE d c m dr cr sy) c m)) : Int)) || !decide ((↑(List.length (doT (doE d c m dr cr sy) c m)) : Int) = IntKind.wrap IntKind.i64 ((↑(List.length c) : Int) + (1 : Int))) || !decide (List.getD (doT (doE d c m dr cr sy) c m) (Int.toNat (↑(List.length c) : Int)) (RT.dflt RT.i64) = (↑(List.length (doC (doE d c m dr cr sy) c m)) : Int)) || !decide (ifOk (doE d c m dr cr sy) d = d) || !decide (ifOk (doE d c m dr cr sy) dr = dr) || !decide ((↑(List.length (doR (doE d c m dr cr sy) c m cr)) : Int) = (↑(List.length cr) : Int)) || !decide ((↑(List.length (doS (doE d c m dr cr sy) c m sy)) : Int) = (↑(List.length sy) : Int))) = false → (KeptC c m (doC (doE d c m dr cr sy) c m) (doM (doE d c m dr cr sy) c m) (doT (doE d c m dr cr sy) c m) ∧ true = true ∧ doT (doE d c m dr cr sy) c m = doT (doE d c m dr cr sy) c m ∧ (0 : Int) = (↑(0 : Nat) : Int) ∧ d = d ∧ c = c ∧ m = m ∧ dr = dr ∧ cr = cr ∧ sy = sy ∧ ifOk (doE d c m dr cr sy) d = ifOk (doE d c m dr cr sy) d ∧ doC (doE d c m dr cr sy) c m = doC (doE d c m dr cr sy) c m ∧ doM (doE d c m dr cr sy) c m = doM (doE d c m dr cr sy) c m ∧ ifOk (doE d c m dr cr sy) dr = ifOk (doE d c m dr cr sy) dr ∧ doR (doE d c m dr cr sy) c m cr = doR (doE d c m dr cr sy) c m cr ∧ doS (doE d c m dr cr sy) c m sy = doS (doE d c m dr cr sy) c m sy) ∧ (KeptC c m (doC (doE d c m dr cr sy) c m) (doM (doE d c m dr cr sy) c m) (doT (doE d c m dr cr sy) c m) ∧ true = true ∧ doT (doE d c m dr cr sy) c m = doT (doE d c m dr cr sy) c m ∧ (0 : Int) = (↑(0 : Nat) : Int) ∧ d = d ∧ c = c ∧ m = m ∧ dr = dr ∧ cr = cr ∧ sy = sy ∧ ifOk (doE d c m dr cr sy) d = ifOk (doE d c m dr cr sy) d ∧ doC (doE d c m dr cr sy) c m = doC (doE d c m dr cr sy) c m ∧ doM (doE d c m dr cr sy) c m = doM (doE d c m dr cr sy) c m ∧ ifOk (doE d c m dr cr sy) dr = ifOk (doE d c m dr cr sy) dr ∧ doR (doE d c m dr cr sy) c m cr = doR (doE d c m dr cr sy) c m cr ∧ doS (doE d c m dr cr sy) c m sy = doS (doE d c m dr cr sy) c m sy → (KeptS c (doT (doE d c m dr cr sy) c m) sy (doS (doE d c m dr cr sy) c m sy) ∧ true = true ∧ doT (doE d c m dr cr sy) c m = doT (doE d c m dr cr sy) c m ∧ (0 : Int) = (↑(0 : Nat) : Int) ∧ d = d ∧ c = c ∧ m = m ∧ dr = dr ∧ cr = cr ∧ sy = sy ∧ ifOk (doE d c m dr cr sy) d = ifOk (doE d c m dr cr sy) d ∧ doC (doE d c m dr cr sy) c m = doC (doE d c m dr cr sy) c m ∧ doM (doE d c m dr cr sy) c m = doM (doE d c m dr cr sy) c m ∧ ifOk (doE d c m dr cr sy) dr = ifOk (doE d c m dr cr sy) dr ∧ doR (doE d c m dr cr sy) c m cr = doR (doE d c m dr cr sy) c m cr ∧ doS (doE d c m dr cr sy) c m sy = doS (doE d c m dr cr sy) c m sy) ∧ (KeptS c (doT (doE d c m dr cr sy) c m) sy (doS (doE d c m dr cr sy) c m sy) ∧ true = true ∧ doT (doE d c m dr cr sy) c m = doT (doE d c m dr cr sy) c m ∧ (0 : Int) = (↑(0 : Nat) : Int) ∧ d = d ∧ c = c ∧ m = m ∧ dr = dr ∧ cr = cr ∧ sy = sy ∧ ifOk (doE d c m dr cr sy) d = ifOk (doE d c m dr cr sy) d ∧ doC (doE d c m dr cr sy) c m = doC (doE d c m dr cr sy) c m ∧ doM (doE d c m dr cr sy) c m = doM (doE d c m dr cr sy) c m ∧ ifOk (doE d c m dr cr sy) dr = ifOk (doE d c m dr cr sy) dr ∧ doR (doE d c m dr cr sy) c m cr = doR (doE d c m dr cr sy) c m cr ∧ doS (doE d c m dr cr sy) c m sy = doS (doE d c m dr cr sy) c m sy → true = true)))))))))) := by kernel_rfl
set_option maxHeartbeats 4000000 in
theorem cRewriteKeeps : Con ea has (G7 ++ rest) 7 kRewriteKeeps := by
  refine plain_mk Tryd.func7 286 (con := [(32, kfirst11), (33, kDo), (17, kLight), (19, krClass), (38, kBack), (36, kfW), (37, kfR)]) ⟨cfirst11, cDo, cLight, crClass, cBack, cfW, cfR, trivial⟩ (fun hA hr hv => ?_) (by kernel_rfl) (by kernel_rfl) Tryd.ntmps7
  unfold kRewriteKeeps at hr; split at hr
  · rename_i d c m dr cr sy
    have := ret_ok hr; subst this
    refine ⟨_, [(12, LKeepA d c m dr cr sy (ifOk (doE d c m dr cr sy) d) (doC (doE d c m dr cr sy) c m) (doM (doE d c m dr cr sy) c m) (ifOk (doE d c m dr cr sy) dr) (doR (doE d c m dr cr sy) c m cr) (doS (doE d c m dr cr sy) c m sy) (doT (doE d c m dr cr sy) c m)), (27, LKeepB d c m dr cr sy (ifOk (doE d c m dr cr sy) d) (doC (doE d c m dr cr sy) c m) (doM (doE d c m dr cr sy) c m) (ifOk (doE d c m dr cr sy) dr) (doR (doE d c m dr cr sy) c m cr) (doS (doE d c m dr cr sy) c m sy) (doT (doE d c m dr cr sy) c m))], rfl, rfl, (argRewriteKeeps d c m dr cr sy).mpr (by simp), rfl, (fun W R ρ0 own0 hown => hl2 (by kernel_rfl) (by kernel_rfl) (lKeepA d c m dr cr sy (ifOk (doE d c m dr cr sy) d) (doC (doE d c m dr cr sy) c m) (doM (doE d c m dr cr sy) c m) (ifOk (doE d c m dr cr sy) dr) (doR (doE d c m dr cr sy) c m cr) (doS (doE d c m dr cr sy) c m sy) (doT (doE d c m dr cr sy) c m) hown) (by kernel_rfl) (lKeepB d c m dr cr sy (ifOk (doE d c m dr cr sy) d) (doC (doE d c m dr cr sy) c m) (doM (doE d c m dr cr sy) c m) (ifOk (doE d c m dr cr sy) dr) (doR (doE d c m dr cr sy) c m cr) (doS (doE d c m dr cr sy) c m sy) (doT (doE d c m dr cr sy) c m) hown)), (runRewriteKeeps rest d c m dr cr sy).mpr ?_⟩
    clear hr
    refine ⟨by decide, fun _ => ⟨fun _ => rfl, fun _ => ⟨fun h => ?_, fun h => ?_⟩⟩⟩
    · have h : (doE d c m dr cr sy).isErr = true := by simpa using h
      have : doC (doE d c m dr cr sy) c m = [] := by unfold doC ifOk; rw [if_pos h]
      rw [this]; rfl
    have h : (doE d c m dr cr sy).isErr = false := by simpa using h
    have hv : (validE d c m dr cr sy).isErr = false := by
      cases hh : (validE d c m dr cr sy).isErr with
      | false => rfl
      | true => rw [doE, if_pos hh, hh] at h; cases h
    generalize doE d c m dr cr sy = e at *
    obtain ⟨v1, v2, v3, v4, v5, v6, _⟩ := valid_size hv
    have kc : KeptC c m (doC e c m) (doM e c m) (doT e c m) := by unfold doC doM doT; rw [ifOk_fine h, ifOk_fine h, ifOk_fine h]; exact keptC_of hv
    have ks : KeptS c (doT e c m) sy (doS e c m sy) := by unfold doT doS; rw [ifOk_fine h, ifOk_fine h]; exact keptS_of hv
    have q1 : (doC e c m).length ≤ 2 * c.length := by unfold doC; rw [ifOk_fine h]; exact (rwC_len c m c.length).1
    have q2 : (doT e c m).getD c.length 0 = (doC e c m).length := by unfold doC doT; rw [ifOk_fine h, ifOk_fine h]; exact place_get c m (Nat.le_refl _)
    have q3 : (doR e c m cr).length = cr.length := by unfold doR; rw [ifOk_fine h]; exact List.length_map ..
    have q4 : (doS e c m sy).length = sy.length := by unfold doS; rw [ifOk_fine h]; exact List.length_map ..
    rw [ifOk_fine h d, ifOk_fine h dr]
    generalize doC e c m = C at *
    generalize doM e c m = M at *
    generalize doT e c m = T at *
    generalize doR e c m cr = cr2 at *
    generalize doS e c m sy = sy2 at *
    have z1 := kc.2.2.2.1
    have z2 := kc.2.2.2.2.1
    have d0 : RT.i64.dflt = (0 : Int) := rfl
    have w1 : IntKind.i64.wrap (2 * (c.length : Int)) = 2 * c.length := by rw [IntKind.wrap_i64]; omega
    have w2 : IntKind.i64.wrap ((c.length : Int) + 1) = c.length + 1 := by rw [IntKind.wrap_i64]; omega
    have b1 : decide ((2 * c.length : Int) < C.length) = false := decide_eq_false (by omega)
    have b2 : decide ((M.length : Int) = C.length) = true := decide_eq_true (by omega)
    have b3 : decide ((T.length : Int) = c.length + 1) = true := decide_eq_true (by omega)
    have b4 : (0 ≤ (c.length : Int) ∧ (c.length : Int) < T.length) := by omega
    have b5 : decide ((cr2.length : Int) = cr.length) = true := decide_eq_true (by omega)
    have b6 : decide ((sy2.length : Int) = sy.length) = true := decide_eq_true (by omega)
    have b7 : d.length ≤ 1000000 := by omega
    have b8 : dr.length ≤ 1000000 := by omega
    simp only [Int.toNat_natCast, d0, w1, w2, q2, b1, b2, b3, b4, b5, b6, b7, b8, kc, ks]
    simp
  · cases hr
end
end Go.Proofs.YtbdfibaljoedpaaDoor

