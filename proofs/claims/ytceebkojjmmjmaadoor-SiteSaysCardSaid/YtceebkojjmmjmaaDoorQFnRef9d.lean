/- Contracts that the proofs use. -/
import Derived.Test.YtceebkojjmmjmaaDoorQFnRef9b
set_option linter.unusedVariables false
set_option linter.unusedSimpArgs false
set_option linter.unusedSectionVars false
set_option linter.unusedSectionVars false
namespace Go.Proofs.YtceebkojjmmjmaaDoor
open Go.RowKit Go.Sy Go.Fac
theorem firstE_ext {f g : Nat → FErr} : ∀ n, (∀ i, i < n → firstE f i = .fine → f i = g i) → firstE f n = firstE g n
  | 0, _ => rfl
  | n + 1, h => by
    have ih := firstE_ext n fun i hi => h i (by omega)
    rw [firstE, firstE, ← ih]
    by_cases e : (firstE f n).isErr = true
    · rw [if_pos e, if_pos e]
    · have : firstE f n = .fine := fine_of (by simpa using e)
      rw [if_neg e, if_neg e, h n (by omega) this]
theorem badE_np (n : Int) : (badE n).isPlaced = false := by unfold badE; split <;> rfl
theorem badE_zero {n : Int} (h : (badE n).isErr = false) : n = 0 := by
  unfold badE at h
  split at h
  · assumption
  · cases h
theorem class_4 (o : Int) : decide (isaClass o = 4) = decide (o = 96) := by
  rw [decide_eq_decide]
  unfold isaClass
  constructor
  · intro h
    split at h
    · cases h
    · split at h
      · cases h
      · split at h
        · cases h
        · split at h
          · assumption
          · cases h
  · intro h
    subst h
    decide
theorem begM_is {c m : List Int} (hl : m.length = c.length) {j : Nat} (hj : j < c.length) : begM c m j = decide (m.getD j 0 = 1) := by
  unfold begM
  rw [Int.toNat_natCast, decide_eq_false (by omega : ¬ (j : Int) < 0), decide_eq_false (by omega : ¬ (c.length : Int) ≤ j), decide_eq_false (by omega : ¬ (m.length : Int) ≤ j)]
  simp
theorem ins_is {c m : List Int} (hl : m.length = c.length) {j : Nat} (hj : j < c.length) (hm : m.getD j 0 = 1) : insB c m j = ofOk (c.getD j 0) ∧ insI c m j = inS c j := by
  have hb := begM_is hl hj
  rw [decide_eq_true hm] at hb
  unfold insB insI
  rw [hb, Int.toNat_natCast, if_pos rfl]
  exact ⟨Bool.true_and _, rfl⟩
theorem start9 {c m : List Int} {j : Nat} (h : (wd9 c m j).isErr = false) (hm : m.getD j 0 = 1) : ofOk (c.getD j 0) = true := by
  have := badE_zero h
  unfold bad9 at this
  rw [if_neg (show ¬ m.getD j 0 = 0 by omega), if_pos hm] at this
  split at this
  · cases this
  · rename_i g
    unfold no9 at g
    rw [Bool.or_eq_true, not_or] at g
    simpa using g.1
theorem wd9_eq {c m : List Int} (hl : m.length = c.length) {i : Nat} (hi : i < c.length) (hf : firstE (wd9 c m) i = .fine) : wd9 c m i = wdE c m i := by
  have t1 : ((i : Int) + 1).toNat = i + 1 := by omega
  unfold wd9 bad9 wdE wordE
  rw [Int.toNat_natCast, t1]
  by_cases m0 : m.getD i 0 = 0
  · rw [if_pos m0, if_neg (show ¬ m.getD i 0 = 1 by omega), if_pos m0]
    have : (decide ((i : Int) = 0) || !twoB c m ((i : Int) - 1)) = !ahead9 c m i := by
      by_cases h0 : i = 0
      · subst h0; simp [ahead9]
      · have e : (i : Int) - 1 = ((i - 1 : Nat) : Int) := by omega
        unfold twoB ahead9
        rw [e, decide_eq_false (by omega : ¬ (i : Int) = 0), decide_eq_true (by omega : 0 < i)]
        by_cases m1 : m.getD (i - 1) 0 = 1
        · obtain ⟨a, b⟩ := ins_is hl (show i - 1 < c.length by omega) m1
          have ho := start9 (firstE_all (fun j => badE_np _) (show (firstE (wd9 c m) i).isErr = false by rw [hf]; rfl) (i - 1) (by omega)) m1
          have : (inS c (i - 1)).op = opW (c.getD (i - 1) 0) := by unfold inS ofF; rw [if_pos ho]
          rw [a, b, ho, this, decide_eq_true m1]
          rfl
        · have hb := begM_is hl (show i - 1 < c.length by omega)
          rw [decide_eq_false m1] at hb
          unfold insB
          rw [hb, decide_eq_false m1]
          rfl
    rw [this]
    cases ahead9 c m i <;> rfl
  · rw [if_neg m0]
    by_cases m1 : m.getD i 0 = 1
    · obtain ⟨a, b⟩ := ins_is hl hi m1
      have e1 : (!insB c m i || decide (isaClass (insI c m i).op = 4)) = no9 c i := by rw [a, b, class_4]; rfl
      have e2 : (isaTwo (insI c m i).op && (decide ((c.length : Int) ≤ (i : Int) + 1) || !decide (m.getD (i + 1) 0 = 0))) = two9 c m i := by
        rw [b, show decide ((c.length : Int) ≤ (i : Int) + 1) = decide (c.length ≤ i + 1) by rw [decide_eq_decide]; omega]; rfl
      rw [if_pos m1, if_pos m1, e1, e2]
      cases no9 c i <;> cases two9 c m i <;> rfl
    · rw [if_neg m1, if_neg m1, if_neg m0]
      split <;> rfl
theorem code9_eq {c m : List Int} (hl : m.length = c.length) : firstE (wd9 c m) c.length = firstE (wdE c m) c.length := firstE_ext _ fun i hi hf => wd9_eq hl hi hf
theorem size_zero (nm : ByteArray) : decide (nm.size = 0) = decide (nm = ByteArray.empty) := by
  rw [decide_eq_decide]
  constructor
  · intro h
    cases nm with
    | mk a =>
      have : a = #[] := Array.eq_empty_of_size_eq_zero h
      rw [this]; rfl
  · intro h; subst h; rfl
theorem nam9_ok (sy : List Sm) (o : Nat) : nam9 sy o = if symOk (sy.getD o RT.sym.dflt).name = true then 0 else 103 := by
  unfold nam9 symOk
  rw [size_zero]
  cases decide ((sy.getD o RT.sym.dflt).name = ByteArray.empty) || decide (32 < ((sy.getD o RT.sym.dflt).name.size : Int)) <;> rfl
theorem dup9_is {sy : List Sm} {o : Nat} (h : nam9 sy o = 0) : ∀ n, (dup9 sy o n = 0 ∧ ∀ j, j < n → (sy.getD j RT.sym.dflt).name ≠ (sy.getD o RT.sym.dflt).name) ∨ (dup9 sy o n = 106 ∧ ∃ j, j < n ∧ (sy.getD j RT.sym.dflt).name = (sy.getD o RT.sym.dflt).name)
  | 0 => .inl ⟨h, fun j hj => by omega⟩
  | n + 1 => by
    rw [dup9]
    rcases dup9_is h n with ⟨a, b⟩ | ⟨a, j, b, e⟩
    · rw [if_pos a]
      by_cases g : (sy.getD n RT.sym.dflt).name = (sy.getD o RT.sym.dflt).name
      · rw [if_pos g]; exact .inr ⟨rfl, n, by omega, g⟩
      · rw [if_neg g]
        refine .inl ⟨rfl, fun j hj => ?_⟩
        by_cases e : j = n
        · rw [e]; exact g
        · exact b j (by omega)
    · rw [if_neg (by omega)]
      exact .inr ⟨a, j, by omega, e⟩
theorem mp_is {sy : List Sm} {nm : ByteArray} (h : symOk nm = true) : ∀ n, (0 < mapGet (mpS sy n) nm ↔ ∃ j, j < n ∧ (sy.getD j RT.sym.dflt).name = nm)
  | 0 => ⟨fun g => by simp [mpS, mapGet] at g, fun ⟨j, hj, _⟩ => by omega⟩
  | n + 1 => by
    have ih := mp_is (sy := sy) h n
    have hle := mpS_le sy nm n
    have key : 0 < mapGet (mpS sy (n + 1)) nm ↔ (0 < mapGet (mpS sy n) nm ∨ (sy.getD n RT.sym.dflt).name = nm) := by
      rw [mpS, symMp]
      by_cases e : (sy.getD n RT.sym.dflt).name = nm
      · rw [e, if_neg (by rw [h]; simp), get_put]
        constructor
        · intro _; exact .inr rfl
        · intro _; omega
      · by_cases k : symOk (sy.getD n RT.sym.dflt).name = false
        · rw [if_pos k]
          exact ⟨.inl, fun g => g.elim id fun g => (e g).elim⟩
        · rw [if_neg k, get_put_ne _ _ _ _ e]
          exact ⟨.inl, fun g => g.elim id fun g => (e g).elim⟩
    rw [key, ih]
    constructor
    · rintro (⟨j, a, b⟩ | g)
      · exact ⟨j, by omega, b⟩
      · exact ⟨n, by omega, g⟩
    · rintro ⟨j, a, b⟩
      by_cases e : j = n
      · subst e; exact .inr b
      · exact .inl ⟨j, by omega, b⟩
theorem good9_fine (d c m : List Int) (x : Sm) : good9 d c m x = symFine d c m x.in_ x.value x.global := by
  unfold good9 symFine
  by_cases h1 : x.in_ = 1
  · rw [if_pos h1, if_pos h1, Bool.eq_iff_iff]
    simp only [Bool.and_eq_true, Bool.or_eq_true, decide_eq_true_eq]
    omega
  · rw [if_neg h1, if_neg h1]
theorem sy9_eq (d c m : List Int) (sy : List Sm) (i : Nat) : sy9 d c m sy i = syE d c m sy i := by
  unfold sy9 bsy9 syE symE
  rw [good9_fine]
  have hn := nam9_ok sy i
  by_cases k : symOk (sy.getD i RT.sym.dflt).name = true
  · rw [if_pos k] at hn
    rw [if_neg (show ¬ symOk (sy.getD i RT.sym.dflt).name = false by rw [k]; simp)]
    have hm := mp_is (sy := sy) k i
    rcases dup9_is hn i with ⟨a, b⟩ | ⟨a, b⟩
    · have : ¬ 1 < mapGet (mpS sy i) (sy.getD i RT.sym.dflt).name + 1 := fun g => by
        obtain ⟨j, h1, h2⟩ := hm.1 (by omega)
        exact b j h1 h2
      rw [if_pos a, if_neg this]
      split <;> rfl
    · have : 0 < mapGet (mpS sy i) (sy.getD i RT.sym.dflt).name := hm.2 b
      rw [a, if_neg (show ¬ (106 : Int) = 0 by decide), if_pos (show 1 < mapGet (mpS sy i) (sy.getD i RT.sym.dflt).name + 1 by omega)]
      rfl
  · rw [if_neg k] at hn
    have k' : symOk (sy.getD i RT.sym.dflt).name = false := by simpa using k
    have : dup9 sy i i = 103 := by
      have e : dup9 sy i 0 = 103 := hn
      rw [dup9_stay sy i (by rw [e]; decide) i (Nat.zero_le _), e]
    rw [if_pos k', this]
    rfl
theorem syms9_eq (d c m : List Int) (sy : List Sm) : firstE (sy9 d c m sy) sy.length = firstE (syE d c m sy) sy.length := firstE_ext _ fun i _ _ => sy9_eq d c m sy i
theorem dr9_eq (d : List Int) (dr : List Rel) (sy : List Sm) (i : Nat) : dr9 d dr sy i = drE d dr sy i := by
  have hr : rng9 dr d.length sy i (!decide ((dr.getD i RT.rel.dflt).kind = 1)) = relocB sy.length (dr.getD i RT.rel.dflt).at_ (dr.getD i RT.rel.dflt).kind (dr.getD i RT.rel.dflt).sym (dr.getD i RT.rel.dflt).add (lastR dr i) d.length 1 := by
    unfold rng9 relocB farB9
    rw [Bool.eq_iff_iff]
    simp only [Bool.or_eq_true, decide_eq_true_eq, Bool.not_eq_true', decide_eq_false_iff_not]
    omega
  unfold dr9 bdr9 drE relocE
  simp only
  rw [hr]
  cases relocB sy.length (dr.getD i RT.rel.dflt).at_ (dr.getD i RT.rel.dflt).kind (dr.getD i RT.rel.dflt).sym (dr.getD i RT.rel.dflt).add (lastR dr i) d.length 1 with
  | true => rfl
  | false =>
    have hd : (!FErr.fine.isErr && !decide ((dr.getD i RT.rel.dflt).add = 0) && !decide ((sy.getD (dr.getD i RT.rel.dflt).sym.toNat RT.sym.dflt).in_ = 1)) = dat9 dr sy i := rfl
    have hf : (if false = true then FErr.bare 103 else FErr.fine) = FErr.fine := rfl
    rw [hf, hd]
    cases dat9 dr sy i <;> rfl
theorem drels9_eq (d : List Int) (dr : List Rel) (sy : List Sm) : firstE (dr9 d dr sy) dr.length = firstE (drE d dr sy) dr.length := firstE_ext _ fun i _ _ => dr9_eq d dr sy i
end Go.Proofs.YtceebkojjmmjmaaDoor

