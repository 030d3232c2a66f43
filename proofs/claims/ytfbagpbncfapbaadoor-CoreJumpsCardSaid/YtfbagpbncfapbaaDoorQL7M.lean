/- Contracts that the proofs use. -/
import Derived.Test.YtfbagpbncfapbaaDoorQFnL7
set_option linter.unusedVariables false
set_option linter.unusedSimpArgs false
namespace Go.Proofs.YtfbagpbncfapbaaDoor
open Go.RowKit Go.Sy Go.Fac
structure Mapd (M : List Int) (w u : Bool) (f : Nat → Int) : Prop where
  len : M.length = 384
  lo : ∀ k, k < 32 → M.getD k 0 = (mapT w u).getD k 0
  hi : ∀ k, k < 352 → M.getD (32 + k) 0 = f k
theorem mapT_hi (w u : Bool) (k : Nat) (h : 28 ≤ k) : (mapT w u).getD k 0 = 0 := by
  have e : ∃ A : List Int, mapT w u = A ++ List.replicate 356 0 ∧ A.length = 28 := ⟨_, rfl, by simp⟩
  obtain ⟨A, e, hA⟩ := e
  rw [e, List.getD_eq_getElem?_getD, List.getElem?_append_right (by omega)]
  rw [List.getElem?_replicate]
  split <;> rfl
theorem mapd (l : List Int) (w u : Bool) : Mapd (mapL l w u) w u (fun k => l.getD k 0) := by
  have hT := mapT_len w u
  have e0 : ((mapT w u).take 32).length = 32 := by rw [List.length_take]; omega
  refine ⟨map_len _ _ _ hT (Nat.min_le_left ..) (Nat.min_le_right ..), fun k hk => ?_, fun k hk => ?_⟩
  · unfold mapL mapI
    rw [List.getD_eq_getElem?_getD, List.getElem?_append_left (by omega), List.getElem?_take_of_lt hk, ← List.getD_eq_getElem?_getD]
  · unfold mapL mapI
    rw [List.getD_eq_getElem?_getD, List.getElem?_append_right (by omega), e0, show 32 + k - 32 = k by omega]
    by_cases h : k < min l.length 352
    · rw [List.getElem?_append_left (by rw [List.length_take]; omega), List.getElem?_take_of_lt h, ← List.getD_eq_getElem?_getD]
    · have h1 : (l.take (min l.length 352)).length = min l.length 352 := by rw [List.length_take]; omega
      rw [List.getElem?_append_right (by omega), h1, List.getElem?_drop, show 32 + min l.length 352 + (k - min l.length 352) = 32 + k by omega, ← List.getD_eq_getElem?_getD, mapT_hi w u _ (by omega)]
      rw [List.getD_eq_getElem?_getD, List.getElem?_eq_none (by omega)]; rfl
theorem memL_of {M : List Int} (h : M.length = 384) : memL M = M := by
  unfold memL memI; rw [h, List.take_of_length_le (by omega)]; simp
section
variable {M : List Int} {w u : Bool} {f : Nat → Int}
theorem Mapd.rdlo (h : Mapd M w u f) {k : Int} (h0 : 0 ≤ k) (h1 : k < 32) : rd M k = rd (mapT w u) k := by
  have hT := mapT_len w u
  unfold rd
  rw [if_pos (inM_iff.2 (by rw [h.len]; omega)), if_pos (inM_iff.2 (by rw [hT]; omega)), h.lo _ (by omega)]
theorem Mapd.rdhi (h : Mapd M w u f) {k : Int} (h0 : 0 ≤ k) (h1 : k < 352) : rd M (32 + k) = f k.toNat := by
  unfold rd
  rw [if_pos (inM_iff.2 (by rw [h.len]; omega)), show (32 + k).toNat = 32 + k.toNat by omega, h.hi _ (by omega)]
theorem Mapd.frN (h : Mapd M w u f) : Fac.frN M = 24 := by unfold Fac.frN; rw [h.len]; rfl
theorem frT : Fac.frN (mapT w u) = 24 := by unfold Fac.frN; rw [mapT_len]; rfl
theorem Mapd.wr (h : Mapd M w u f) {k : Int} (h0 : 0 ≤ k) (h1 : k < 352) (v : Int) : Mapd (wr M (32 + k) v) w u (fun j => if j = k.toNat then v else f j) := by
  have hi : inM M (32 + k) = true := inM_iff.2 (by rw [h.len]; omega)
  have e : (32 + k).toNat = 32 + k.toNat := by omega
  unfold Fac.wr
  rw [if_pos hi, e]
  refine ⟨by rw [List.length_set]; exact h.len, fun j hj => ?_, fun j hj => ?_⟩
  · rw [← h.lo j hj, List.getD_eq_getElem?_getD, List.getElem?_set_ne (by omega), ← List.getD_eq_getElem?_getD]
  · by_cases e1 : j = k.toNat
    · subst e1
      rw [if_pos rfl, List.getD_eq_getElem?_getD, List.getElem?_set_self (by rw [h.len]; omega)]; rfl
    · rw [if_neg e1, ← h.hi j hj, List.getD_eq_getElem?_getD, List.getElem?_set_ne (by omega), ← List.getD_eq_getElem?_getD]
theorem tabT : ∀ w u : Bool, (∀ i : Fin 16, enF (entW (mapT w u) 0 (i.val : Int)) = 0 ∨ enF (entW (mapT w u) 0 (i.val : Int)) = 1) ∧
    ∀ p : Fin 256, pgOk (mapT w u) 0 (p.val : Int) = decide (p.val % 128 < 12) ∧ (p.val % 128 < 12 → enW (pgW (mapT w u) 0 (p.val : Int)) = (w && decide (p.val % 128 < 6)) ∧ enU (pgW (mapT w u) 0 (p.val : Int)) = u ∧ enF (pgW (mapT w u) 0 (p.val : Int)) = 2 + ((p.val % 128 : Nat) : Int)) := by decide +kernel
theorem Mapd.ent (h : Mapd M w u f) {g i : Int} (hg : g = 0 ∨ g = 1) (h0 : 0 ≤ i) (h1 : i < 16) : entOk M g i = entOk (mapT w u) g i ∧ entW M g i = entW (mapT w u) g i := by
  have e : rd M (g * 16 + i) = rd (mapT w u) (g * 16 + i) := h.rdlo (by omega) (by omega)
  have e1 : entOk M g i = entOk (mapT w u) g i := by unfold entOk; rw [h.frN, frT, e]
  exact ⟨e1, by unfold entW; rw [e1, e]⟩
theorem Mapd.page (h : Mapd M w u f) {p : Int} (h0 : 0 ≤ p) (h1 : p < 256) : pgOk M 0 p = pgOk (mapT w u) 0 p ∧ pgW M 0 p = pgW (mapT w u) 0 p := by
  obtain ⟨a1, a2⟩ := h.ent (g := 0) (i := p / 16) (.inl rfl) (by omega) (by omega)
  have hf := (tabT w u).1 ⟨(p / 16).toNat, by omega⟩
  rw [show (((p / 16).toNat : Nat) : Int) = p / 16 by omega] at hf
  obtain ⟨b1, b2⟩ := h.ent (g := enF (entW (mapT w u) 0 (p / 16))) (i := p % 16) hf (by omega) (by omega)
  have e : pgOk M 0 p = pgOk (mapT w u) 0 p := by unfold pgOk; rw [a1, a2, b1]
  exact ⟨e, by unfold pgW; rw [e, a2, b2]⟩
def mOk (w u : Bool) (a : Int) (wr us : Bool) : Bool := decide (a < 4096) && decide (a % 2048 < 192) && !(wr && !(w && decide (a % 2048 < 96))) && !(us && !u)
theorem Mapd.walk (h : Mapd M w u f) {a : Int} (h0 : 0 ≤ a) (wr us : Bool) : wkOk M 0 a wr us = mOk w u a wr us ∧ (mOk w u a wr us = true → wkA M 0 a wr us = 32 + a % 2048) := by
  by_cases h1 : a < 4096
  · obtain ⟨p1, p2⟩ := h.page (p := a / 16) (by omega) (by omega)
    have ht := (tabT w u).2 ⟨(a / 16).toNat, by omega⟩
    simp only [show (((a / 16).toNat : Nat) : Int) = a / 16 by omega] at ht
    obtain ⟨t1, t2⟩ := ht
    have ek : wkOk M 0 a wr us = mOk w u a wr us := by
      unfold wkOk mOk
      rw [p1, p2, t1, h.frN, decide_eq_true h1]
      by_cases hk : (a / 16).toNat % 128 < 12
      · obtain ⟨t2, t3, t4⟩ := t2 hk
        rw [t2, t3, t4, decide_eq_true hk]
        have k1 : decide (a % 2048 < 192) = true := decide_eq_true (by omega)
        have k2 : decide ((a / 16).toNat % 128 < 6) = decide (a % 2048 < 96) := decide_eq_decide.2 (by omega)
        have k3 : decide (2 + (((a / 16).toNat % 128 : Nat) : Int) < 24) = true := decide_eq_true (by omega)
        rw [k1, k2, k3]; simp
      · have k1 : decide (a % 2048 < 192) = false := decide_eq_false (by omega)
        rw [k1, decide_eq_false hk]; simp
    refine ⟨ek, fun hm => ?_⟩
    have hk : (a / 16).toNat % 128 < 12 := by
      unfold mOk at hm
      simp only [Bool.and_eq_true, decide_eq_true_eq] at hm
      omega
    unfold wkA
    rw [if_pos (by rw [ek]; exact hm), p2, (t2 hk).2.2]
    omega
  · have : mOk w u a wr us = false := by unfold mOk; rw [decide_eq_false h1]; simp
    refine ⟨?_, fun h => by rw [this] at h; cases h⟩
    rw [this]; unfold wkOk; rw [decide_eq_false h1]; simp
theorem Mapd.rdOk (h : Mapd M w u f) {a : Int} (h0 : 0 ≤ a) (us : Bool) : Fac.rdOk M 0 a us = mOk w u a false us := (h.walk h0 false us).1
theorem Mapd.rdW (h : Mapd M w u f) {a : Int} (h0 : 0 ≤ a) (h1 : a < 192) {us : Bool} (hu : us = true → u = true) : Fac.rdOk M 0 a us = true ∧ Fac.rdW M 0 a us = f a.toNat := by
  have hm : mOk w u a false us = true := by
    unfold mOk; rw [decide_eq_true (by omega : a < 4096), decide_eq_true (by omega : a % 2048 < 192)]
    cases us <;> simp_all
  have hk : Fac.rdOk M 0 a us = true := by rw [h.rdOk h0]; exact hm
  refine ⟨hk, ?_⟩
  unfold Fac.rdW
  rw [if_pos hk, (h.walk h0 false us).2 hm, show a % 2048 = a by omega, h.rdhi h0 (by omega)]
theorem Mapd.far (h : Mapd M w u f) {a : Int} (h0 : 192 ≤ a) (h1 : a < 2048) (wr us : Bool) : wkOk M 0 a wr us = false := by
  rw [(h.walk (by omega) wr us).1]
  unfold mOk; rw [decide_eq_false (by omega : ¬ a % 2048 < 192)]; simp
theorem Mapd.shut (h : Mapd M w false f) {a : Int} (h0 : 0 ≤ a) (wr : Bool) : wkOk M 0 a wr true = false := by
  rw [(h.walk h0 wr true).1]; unfold mOk; simp
theorem Mapd.fetch1 (h : Mapd M w u f) {a : Int} (h0 : 0 ≤ a) (h1 : a < 192) {us : Bool} (hu : us = true → u = true) (ho : ofOk (f a.toNat) = true) (ht : isaTwo (ofF (f a.toNat) 0).op = false) : fetchS M 0 a us = ⟨0, 0, ofF (f a.toNat) 0, 1⟩ := by
  obtain ⟨e1, e2⟩ := h.rdW h0 h1 hu
  rw [fetchS_def]; simp [e1, e2, ho, ht]
theorem Mapd.fetch2 (h : Mapd M w u f) {a : Int} (h0 : 0 ≤ a) (h1 : a < 191) {us : Bool} (hu : us = true → u = true) (ho : ofOk (f a.toNat) = true) (ht : isaTwo (ofF (f a.toNat) 0).op = true) : fetchS M 0 a us = ⟨0, 0, { ofF (f a.toNat) 0 with imm := f (a.toNat + 1) }, 2⟩ := by
  obtain ⟨e1, e2⟩ := h.rdW h0 (by omega) hu
  obtain ⟨e3, e4⟩ := h.rdW (a := a + 1) (by omega) (by omega) hu
  have ew : w32 (a + 1) = a + 1 := by show IntKind.u32.wrap (a + 1) = a + 1; rw [IntKind.wrap_u32]; omega
  rw [fetchS_def]; simp [e1, e2, ho, ht, ew, e3, e4, show (a + 1).toNat = a.toNat + 1 by omega]
theorem Mapd.fetch_bad (h : Mapd M w u f) {a : Int} (h0 : 0 ≤ a) (h1 : a < 192) {us : Bool} (hu : us = true → u = true) (ho : ofOk (f a.toNat) = false) : fetchS M 0 a us = ⟨4, 0, In5.nul, 0⟩ := by
  obtain ⟨e1, e2⟩ := h.rdW h0 h1 hu
  rw [fetchS_def]; simp [e1, e2, ho]
theorem fetch_far {a : Int} {r : Int} {us : Bool} (h : Fac.rdOk M r a us = false) : fetchS M r a us = ⟨1, a, In5.nul, 0⟩ := by
  rw [fetchS_def]; simp [h]
end
theorem of_word {i : In5} (h : In5.ok i = true) (x : Int) : ofOk (wordW i.op i.a i.b i.c i.imm) = true ∧ ofF (wordW i.op i.a i.b i.c i.imm) x = { i with imm := if isaTwo i.op = true then x else 0 } := by
  have hr := word_rng h
  have e : wordW i.op i.a i.b i.c i.imm = wordVal i.op i.a i.b i.c := by unfold wordW; exact if_pos h
  obtain ⟨⟨a1, a2⟩, ⟨b1, b2⟩, ⟨c1, c2⟩, o1, o2⟩ := hr
  have e1 : wordVal i.op i.a i.b i.c / 16777216 = i.op := by unfold wordVal; omega
  have e2 : wordVal i.op i.a i.b i.c / 65536 % 256 = i.a := by unfold wordVal; omega
  have e3 : wordVal i.op i.a i.b i.c / 256 % 256 = i.b := by unfold wordVal; omega
  have e4 : wordVal i.op i.a i.b i.c % 256 = i.c := by unfold wordVal; omega
  have ho : ofOk (wordVal i.op i.a i.b i.c) = true := by
    unfold ofOk; rw [e1, e2, e3, e4]
    unfold In5.ok at h
    cases ht : isaTwo i.op with
    | true => rw [← ofOk_imm ht]; exact h
    | false =>
      have : i.imm = 0 := by
        unfold wordOk at h
        simp only [Bool.and_eq_true] at h
        have := h.2
        rw [ht] at this; simpa using this
      rw [this] at h; exact h
  rw [e]
  refine ⟨ho, ?_⟩
  unfold ofF ofImm; rw [if_pos ho, e1, e2, e3, e4]
end Go.Proofs.YtfbagpbncfapbaaDoor

