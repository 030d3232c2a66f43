/- Contracts that the proofs use. -/
import Derived.Test.YtceebkojjmmjmaaDoorQFnText
set_option linter.unusedVariables false
set_option linter.unusedSimpArgs false
namespace Go.Proofs.YtceebkojjmmjmaaDoor
open Go.RowKit Go.Sy Go.Fac
def bl (s : ByteArray) : List UInt8 := s.data.toList
theorem bl_app (s t : ByteArray) : bl (s ++ t) = bl s ++ bl t := by unfold bl; simp [ByteArray.data_append]
theorem bl_len (s : ByteArray) : (bl s).length = s.size := rfl
theorem bl_inj {s t : ByteArray} (h : bl s = bl t) : s = t := by
  apply ByteArray.ext
  exact Array.toList_inj.1 h
def Tl (t : List UInt8) : Prop := t = [] ∨ ∃ r, t = 32 :: r
theorem Tl.app {p t : List UInt8} (hp : Tl p) (ht : Tl t) : Tl (p ++ t) := by
  rcases hp with rfl | ⟨r, rfl⟩
  · exact ht
  · exact .inr ⟨r ++ t, rfl⟩
theorem cut_inj : ∀ {x y t t' : List UInt8}, 32 ∉ x → 32 ∉ y → Tl t → Tl t' → x ++ t = y ++ t' → x = y ∧ t = t'
  | [], [], _, _, _, _, _, _, h => ⟨rfl, h⟩
  | [], c :: y, t, t', _, hy, ht, _, h => by
    exfalso
    rcases ht with rfl | ⟨r, rfl⟩
    · cases h
    · simp at h; exact hy (by rw [h.1]; exact List.mem_cons_self)
  | a :: x, [], t, t', hx, _, _, ht', h => by
    exfalso
    rcases ht' with rfl | ⟨r, rfl⟩
    · cases h
    · simp at h; exact hx (by rw [h.1]; exact List.mem_cons_self)
  | a :: x, c :: y, t, t', hx, hy, ht, ht', h => by
    simp at h
    obtain ⟨e1, e2⟩ := cut_inj (fun m => hx (List.mem_cons_of_mem _ m)) (fun m => hy (List.mem_cons_of_mem _ m)) ht ht' h.2
    exact ⟨by rw [h.1, e1], e2⟩
def decV (l : List UInt8) : Nat := l.foldl (fun a c => 10 * a + (c.toNat - 48)) 0
theorem decV_of (u : Nat) : decV (Lib.decDigits u) = u := by
  induction u using Nat.strongRecOn with
  | _ u ih =>
    rw [Lib.decDigits]
    split
    · simp [decV]; omega
    · have := ih (u / 10) (by omega)
      unfold decV at *
      rw [List.foldl_append, this]
      simp; omega
theorem dec_no (u : Nat) : (32 : UInt8) ∉ Lib.decDigits u := by
  have k : ∀ d : Nat, d < 10 → (32 : UInt8) ≠ UInt8.ofNat (48 + d) := fun d hd e => by
    have := congrArg UInt8.toNat e
    simp at this; omega
  induction u using Nat.strongRecOn with
  | _ u ih =>
    rw [Lib.decDigits]
    split
    · rename_i h; simpa using k u h
    · intro hm
      rcases List.mem_append.1 hm with hm | hm
      · exact ih (u / 10) (by omega) hm
      · exact k (u % 10) (by omega) (by simpa using hm)
theorem itoa_bl {x : Int} (h0 : 0 ≤ x) (h1 : x ≤ 255) : bl (itoaB x) = Lib.decDigits x.toNat := by
  rw [itoaB_of (by omega) (by omega)]
  show Lib.itoa x = _
  unfold Lib.itoa
  rw [if_neg (by omega)]
theorem part_tl (k x : Int) : Tl (bl (partB k x)) := by
  unfold partB; split
  · rw [bl_app]; exact .inr ⟨_, rfl⟩
  · split
    · rw [bl_app]; exact .inr ⟨_, rfl⟩
    · exact .inl rfl
theorem part_inj {k x y : Int} {t t' : List UInt8} (hk : k = 0 ∨ k = 1 ∨ k = 2) (hx : fitsM x k = true) (hy : fitsM y k = true) (ht : Tl t) (ht' : Tl t') (h : bl (partB k x) ++ t = bl (partB k y) ++ t') : x = y ∧ t = t' := by
  simp only [fitsM, most, Bool.and_eq_true, decide_eq_true_eq] at hx hy
  rcases hk with rfl | rfl | rfl
  · simp at hx hy
    refine ⟨by omega, ?_⟩
    simpa [partB] using h
  all_goals
    simp at hx hy
    have bx := itoa_bl (x := x) (by omega) (by omega)
    have by' := itoa_bl (x := y) (by omega) (by omega)
    simp only [partB, if_pos, bl_app, List.append_assoc] at h
    simp (config := { decide := true }) only [if_true, if_false, bl_app, List.append_assoc, bx, by', List.append_cancel_left_eq] at h
    obtain ⟨e1, e2⟩ := cut_inj (dec_no _) (dec_no _) ht ht' h
    have := congrArg decV e1
    rw [decV_of, decV_of] at this
    exact ⟨by omega, e2⟩
theorem name_no (op : Int) (h : isaClass op ≠ 0) : (32 : UInt8) ∉ bl (nameM op) ∧ 2 ≤ (nameM op).size := by
  have r : 1 ≤ op ∧ op ≤ 96 := by unfold isaClass at h; (repeat' split at h) <;> omega
  have all : ∀ n : Fin 97, isaClass (n.val : Int) ≠ 0 → (32 : UInt8) ∉ bl (nameM (n.val : Int)) ∧ 2 ≤ (nameM (n.val : Int)).size := by decide +kernel
  have := all ⟨op.toNat, by omega⟩
  simp only [show ((op.toNat : Nat) : Int) = op by omega] at this
  exact this h
theorem name_inj {op op' : Int} (h : isaClass op ≠ 0) (h' : isaClass op' ≠ 0) (e : bl (nameM op) = bl (nameM op')) : op = op' := by
  have r : 1 ≤ op ∧ op ≤ 96 := by unfold isaClass at h; (repeat' split at h) <;> omega
  have r' : 1 ≤ op' ∧ op' ≤ 96 := by unfold isaClass at h'; (repeat' split at h') <;> omega
  have all : ∀ n m : Fin 97, isaClass (n.val : Int) ≠ 0 → isaClass (m.val : Int) ≠ 0 → bl (nameM (n.val : Int)) = bl (nameM (m.val : Int)) → n = m := by decide +kernel
  have := all ⟨op.toNat, by omega⟩ ⟨op'.toNat, by omega⟩
  simp only [show ((op.toNat : Nat) : Int) = op by omega, show ((op'.toNat : Nat) : Int) = op' by omega] at this
  have := congrArg Fin.val (this h h' e)
  simp at this
  omega
def hexU (d : Int) : UInt8 := UInt8.ofNat (hexC d).toNat
theorem hexU_inj {x y : Int} (hx : 0 ≤ x ∧ x < 16) (hy : 0 ≤ y ∧ y < 16) (e : hexU x = hexU y) : x = y := by
  have all : ∀ n m : Fin 16, hexU (n.val : Int) = hexU (m.val : Int) → n = m := by decide +kernel
  have := all ⟨x.toNat, by omega⟩ ⟨y.toNat, by omega⟩
  simp only [show ((x.toNat : Nat) : Int) = x by omega, show ((y.toNat : Nat) : Int) = y by omega] at this
  have := congrArg Fin.val (this e)
  simp at this
  omega
theorem hexX_get (u : Int) : ∀ i, i ≤ 16 → ∀ j, j < i → (hexX u i)[64 - j]? = some (hexC (hexQ u j % 16))
  | 0, _, j, hj => by omega
  | i + 1, hi, j, hj => by
    have hl := hexX_len u i
    have e : (64 - (i : Int)).toNat = 64 - i := by omega
    rw [hexX, e, List.getElem?_set]
    by_cases h : i = j
    · subst h; rw [if_pos rfl, if_pos (by omega)]
    · rw [if_neg (by omega)]; exact hexX_get u i (by omega) j (by omega)
theorem hexB_bl (u : Int) : bl (hexB u) = (((hexX u (hexK u)).set (64 - hexK u) (hexC (hexQ u (hexK u)))).drop (64 - hexK u)).map (fun n => UInt8.ofNat n.toNat) := by
  unfold hexB bl
  rw [strOfNums_data]
  have : (64 - (hexK u : Int)).toNat = 64 - hexK u := by omega
  rw [this]
theorem hexB_inj {u v : Int} (hu : 0 ≤ u ∧ u ≤ 18446744073709551615) (hv : 0 ≤ v ∧ v ≤ 18446744073709551615) (h : bl (hexB u) = bl (hexB v)) : u = v := by
  rw [hexB_bl, hexB_bl] at h
  have ku := hexK_le hu
  have kv := hexK_le hv
  have eu := hexK_end hu
  have ev := hexK_end hv
  have qu := fun i => hexQ_in u hu i
  have qv := fun i => hexQ_in v hv i
  have hk : hexK u = hexK v := by
    have := congrArg List.length h
    simp only [List.length_map, List.length_drop, List.length_set, hexX_len] at this
    omega
  rw [← hk] at h ev
  generalize hexK u = K at *
  have at_ : ∀ j, j ≤ K → (((hexX u K).set (64 - K) (hexC (hexQ u K)))[64 - j]?).map (fun n => UInt8.ofNat n.toNat) = (((hexX v K).set (64 - K) (hexC (hexQ v K)))[64 - j]?).map (fun n => UInt8.ofNat n.toNat) := fun j hj => by
    have := congrArg (fun l => l[K - j]?) h
    simp only [List.getElem?_map, List.getElem?_drop] at this
    rw [show 64 - K + (K - j) = 64 - j by omega] at this
    exact this
  have top : hexQ u K = hexQ v K := by
    have := at_ K (Nat.le_refl _)
    rw [List.getElem?_set_self (by rw [hexX_len]; omega), List.getElem?_set_self (by rw [hexX_len]; omega)] at this
    exact hexU_inj ⟨(qu K).1, eu⟩ ⟨(qv K).1, ev⟩ (by simpa [hexU] using this)
  have low : ∀ j, j < K → hexQ u j % 16 = hexQ v j % 16 := fun j hj => by
    have := at_ j (by omega)
    rw [List.getElem?_set_ne (by omega), List.getElem?_set_ne (by omega), hexX_get u K (by omega) j hj, hexX_get v K (by omega) j hj] at this
    exact hexU_inj (by omega) (by omega) (by simpa [hexU] using this)
  have all : ∀ n, n ≤ K → hexQ u (K - n) = hexQ v (K - n) := by
    intro n
    induction n with
    | zero => intro _; exact top
    | succ n ih =>
      intro hn
      have i1 := ih (by omega)
      have l1 := low (K - (n + 1)) (by omega)
      rw [show K - n = (K - (n + 1)) + 1 by omega] at i1
      simp only [hexQ] at i1
      omega
  have := all K (Nat.le_refl _)
  rw [Nat.sub_self] at this
  exact this
def tailH (op imm : Int) : List UInt8 := if isaTwo op = true then 32 :: 48 :: 120 :: bl (hexB imm) else []
theorem text_bl (op a b c imm : Int) : bl (textM op a b c imm) = bl (nameM op) ++ (bl (partB (kA op) a) ++ (bl (partB (kB op) b) ++ (bl (partB (kC op) c) ++ tailH op imm))) := by
  have t3 : txtP op a b c 3 = nameM op ++ partB (kA op) a ++ partB (kB op) b ++ partB (kC op) c := rfl
  unfold textM tailH
  split
  · rw [t3]; simp only [bl_app, List.append_assoc]; rfl
  · rw [t3]; simp only [bl_app, List.append_assoc, List.append_nil]
theorem tail_tl (op imm : Int) : Tl (tailH op imm) := by
  unfold tailH; split
  · exact .inr ⟨_, rfl⟩
  · exact .inl rfl
theorem text_two {op a b c imm : Int} (h : isaClass op ≠ 0) : 2 ≤ (textM op a b c imm).size := by
  have := (name_no op h).2
  have e := congrArg List.length (text_bl op a b c imm)
  simp only [List.length_append, bl_len] at e
  omega
theorem ok_parts {op a b c imm : Int} (h : wordOk op a b c imm = true) : isaClass op ≠ 0 ∧ fitsM a (kA op) = true ∧ fitsM b (kB op) = true ∧ fitsM c (kC op) = true ∧ (isaTwo op = false → imm = 0) := by
  unfold wordOk at h
  simp only [Bool.and_eq_true, Bool.not_eq_true', Bool.or_eq_true] at h
  obtain ⟨⟨⟨⟨g1, g2⟩, g3⟩, g4⟩, g5⟩ := h
  refine ⟨by simpa using g1, g2, g3, g4, fun ht => ?_⟩
  rw [ht] at g5
  simpa using g5
theorem text_inj {op a b c imm op' a' b' c' imm' : Int} (h : wordOk op a b c imm = true) (h' : wordOk op' a' b' c' imm' = true) (hi : 0 ≤ imm ∧ imm ≤ 4294967295) (hi' : 0 ≤ imm' ∧ imm' ≤ 4294967295)
    (e : textM op a b c imm = textM op' a' b' c' imm') : op = op' ∧ a = a' ∧ b = b' ∧ c = c' ∧ imm = imm' := by
  obtain ⟨k1, fa, fb, fc, fi⟩ := ok_parts h
  obtain ⟨k1', fa', fb', fc', fi'⟩ := ok_parts h'
  have e := congrArg bl e
  rw [text_bl, text_bl] at e
  obtain ⟨e0, e⟩ := cut_inj (name_no op k1).1 (name_no op' k1').1 ((part_tl _ _).app ((part_tl _ _).app ((part_tl _ _).app (tail_tl _ _)))) ((part_tl _ _).app ((part_tl _ _).app ((part_tl _ _).app (tail_tl _ _)))) e
  have eo := name_inj k1 k1' e0
  subst eo
  obtain ⟨e1, e⟩ := part_inj (kA_in op) fa fa' ((part_tl _ _).app ((part_tl _ _).app (tail_tl _ _))) ((part_tl _ _).app ((part_tl _ _).app (tail_tl _ _))) e
  obtain ⟨e2, e⟩ := part_inj (kB_in op) fb fb' ((part_tl _ _).app (tail_tl _ _)) ((part_tl _ _).app (tail_tl _ _)) e
  obtain ⟨e3, e⟩ := part_inj (kC_in op) fc fc' (tail_tl _ _) (tail_tl _ _) e
  refine ⟨rfl, e1, e2, e3, ?_⟩
  unfold tailH at e
  cases ht : isaTwo op with
  | false => rw [fi ht, fi' ht]
  | true =>
    rw [ht, if_pos rfl, if_pos rfl] at e
    simp only [List.cons.injEq, true_and] at e
    exact hexB_inj (by omega) (by omega) e
theorem of_wordI {op a b c imm : Int} (h : wordOk op a b c imm = true) : ofOk (wordW op a b c imm) = true ∧ ofF (wordW op a b c imm) imm = ⟨op, a, b, c, imm⟩ ∧ wordW op a b c imm = wordVal op a b c ∧ (1 ≤ op ∧ op ≤ 96) ∧ (0 ≤ a ∧ a ≤ 255) ∧ (0 ≤ b ∧ b ≤ 255) ∧ (0 ≤ c ∧ c ≤ 255) := by
  obtain ⟨k1, fa, fb, fc, fi⟩ := ok_parts h
  have r : 1 ≤ op ∧ op ≤ 96 := by unfold isaClass at k1; (repeat' split at k1) <;> omega
  have ra := fits_in fa
  have rb := fits_in fb
  have rc := fits_in fc
  have e : wordW op a b c imm = wordVal op a b c := if_pos h
  have e1 : wordVal op a b c / 16777216 = op := by unfold wordVal; omega
  have e2 : wordVal op a b c / 65536 % 256 = a := by unfold wordVal; omega
  have e3 : wordVal op a b c / 256 % 256 = b := by unfold wordVal; omega
  have e4 : wordVal op a b c % 256 = c := by unfold wordVal; omega
  have ho : ofOk (wordVal op a b c) = true := by
    unfold ofOk; rw [e1, e2, e3, e4]
    unfold wordOk at h ⊢
    simp only [Bool.and_eq_true] at h ⊢
    exact ⟨h.1, by simp⟩
  refine ⟨by rw [e]; exact ho, ?_, e, r, ra, rb, rc⟩
  rw [e, ofF, if_pos ho, e1, e2, e3, e4]
  have : ofImm (wordVal op a b c) imm = imm := by
    unfold ofImm; rw [e1]
    cases ht : isaTwo op with
    | true => rfl
    | false => rw [fi ht]; rfl
  rw [this]
theorem word_injI {op a b c imm op' a' b' c' imm' : Int} (h : wordOk op a b c imm = true) (h' : wordOk op' a' b' c' imm' = true) (e : wordW op a b c imm = wordW op' a' b' c' imm') : op = op' ∧ a = a' ∧ b = b' ∧ c = c' := by
  obtain ⟨_, _, e1, r, ra, rb, rc⟩ := of_wordI h
  obtain ⟨_, _, e1', r', ra', rb', rc'⟩ := of_wordI h'
  rw [e1, e1'] at e
  unfold wordVal at e
  omega
end Go.Proofs.YtceebkojjmmjmaaDoor

