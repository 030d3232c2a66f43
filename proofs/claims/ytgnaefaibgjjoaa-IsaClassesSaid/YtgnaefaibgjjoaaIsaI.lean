/- chapter 1, IsaImm: the walk. -/
import Derived.Test.YtgnaefaibgjjoaaIsaG
set_option linter.unusedVariables false
set_option linter.unusedSimpArgs false
namespace Go.Proofs.Ytgnaefaibgjjoaa
open Go.RowKit Go.Kit

theorem tclass_is (op : Int) (w : World) {t : Bool} (h : (isaClass op == 0) = t) :
    Calls Try.prog 11 #[.agg #[], .int .i64 op] w fun e w' => ∃ k : Int, (k == 0) = t ∧ e = .returned (.int .i64 k) ∧ Below w.heap.size w w' :=
  (tclass_any op w).mono fun _ _ ⟨he, hw⟩ => ⟨_, h, he, hw⟩
theorem same_is (a b c d i a' b' c' d' i' : Int) (w : World) {t : Bool} (h : (a == a' && b == b' && c == c' && d == d' && i == i') = t) :
    Calls Try.prog 14 #[.agg #[.int .i64 a, .int .i64 b, .int .i64 c, .int .i64 d, .int .u32 i], .agg #[.int .i64 a', .int .i64 b', .int .i64 c', .int .i64 d', .int .u32 i']] w
      (Gives w (.bool t)) := h ▸ same_any a b c d i a' b' c' d' i' w
theorem val_op {op : Int} : wordVal op 0 0 0 = op * 16777216 := by unfold wordVal; omega
/-- Of, of a word that is an instruction's. -/
theorem of_word (op a b c imm j : Int) (W : World) (ho : 1 ≤ op ∧ op ≤ 255) (ha : 0 ≤ a ∧ a ≤ 255) (hb : 0 ≤ b ∧ b ≤ 255) (hc : 0 ≤ c ∧ c ≤ 255) (h : wordOk op a b c 0 = true) (hj : (if isaTwo op = true then imm else 0) = j) :
    Calls Try.prog 13 #[.int .u32 (wordVal op a b c), .int .u32 imm] W (Gives W (.tuple #[.agg #[.int .i64 op, .int .i64 a, .int .i64 b, .int .i64 c, .int .u32 j], .bool true])) := by
  have e1 : wordVal op a b c / 16777216 = op := by unfold wordVal; omega
  have e2 : wordVal op a b c / 65536 % 256 = a := by unfold wordVal; omega
  have e3 : wordVal op a b c / 256 % 256 = b := by unfold wordVal; omega
  have e4 : wordVal op a b c % 256 = c := by unfold wordVal; omega
  have := of_yes (wordVal op a b c) imm W (by unfold wordVal; omega) (by unfold ofOk; rw [e1, e2, e3, e4]; exact h)
  unfold ofImm at this
  rw [e1, e2, e3, e4, hj] at this
  exact this

set_option maxRecDepth 100000 in
set_option maxHeartbeats 1000000 in
theorem imm_zero (op imm : Int) (w : World) (h : (isaClass op == 0) = true) :
    Calls Try.prog 4 #[.int .i64 op, .int .u32 imm] w (Gives w (.bool true)) := by
  have hw : wordOk op 0 0 0 imm = false := by unfold wordOk; rw [h]; rfl
  go_enter Try.func4, Try.ntmps4
  go_wp2_with (first | (go_at_call 6; refine (first_any _).mono ?_; rintro e w' ⟨rfl, hb⟩; obtain ⟨g1, rfl⟩ := ext_of w.heap.size w.heap.size [] hb rfl (Nat.le_refl _) (by simp)) | (go_at_call 10; refine (tables_any _).mono ?_; rintro e w' ⟨rfl, hb⟩; obtain ⟨g2, rfl⟩ := ext_of w.heap.size _ [] hb (by go_simp; rfl) (by go_simp) (by simp)) | (go_at_call 9; refine (word_is _ _ _ _ _ _ hw).mono ?_; rintro e w' ⟨rfl, hb⟩; obtain ⟨g3, rfl⟩ := ext_of w.heap.size (g2.top + 1 + 1) [g2.top, g2.top + 1] hb (by go_simp) (by go_simp) (by go_simp)) | (go_at_call 11; refine (tclass_is _ _ h).mono ?_; rintro e w' ⟨k, hk, rfl, hb⟩; obtain ⟨g4, rfl⟩ := ext_of w.heap.size g3.top [g2.top, g2.top + 1] hb (by go_simp) (by go_simp) (by go_simp)))
  go_ret
  refine gives rfl ?_
  repeat (first | exact since_refl _ | apply since_ext | apply since_alloc)

/-- An instruction that has no second word is given one. -/
theorem imm_bad (op imm : Int) (w : World) (h : (isaClass op == 0) = false) (ht : isaTwo op = false) (hi : (imm == 0) = false) :
    Calls Try.prog 4 #[.int .i64 op, .int .u32 imm] w (Gives w (.bool true)) := by
  have hw : wordOk op 0 0 0 imm = false := by unfold wordOk; rw [ht]; simp at hi; simp [hi]
  have HW := hid hw; clear hw
  go_enter Try.func4, Try.ntmps4
  go_wp2_with (first | (go_at_call 6; refine (first_any _).mono ?_; rintro e w' ⟨rfl, hb⟩; obtain ⟨g1, rfl⟩ := ext_of w.heap.size w.heap.size [] hb rfl (Nat.le_refl _) (by simp)) | (go_at_call 10; refine (tables_any _).mono ?_; rintro e w' ⟨rfl, hb⟩; obtain ⟨g2, rfl⟩ := ext_of w.heap.size _ [] hb (by go_simp; rfl) (by go_simp) (by simp)) | (go_at_call 9; (with_reducible refine (word_is _ _ _ _ _ _ HW.out).mono ?_); rintro e w' ⟨rfl, hb⟩; obtain ⟨g3, rfl⟩ := ext_of w.heap.size _ [g2.top, g2.top + 1] hb (by first | (go_simp; rfl) | rfl) (by go_simp) (by go_simp)) | (go_at_call 11; (with_reducible refine (tclass_is _ _ h).mono ?_); rintro e w' ⟨k, hk, rfl, hb⟩; obtain ⟨g4, rfl⟩ := ext_of w.heap.size _ [g2.top, g2.top + 1] hb (by first | (go_simp; rfl) | rfl) (by go_simp) (by go_simp)) | (go_at_call 12; (with_reducible refine (ttwo_is _ _ ht).mono ?_); rintro e w' ⟨rfl, hb⟩; obtain ⟨g5, rfl⟩ := ext_of w.heap.size _ [g2.top, g2.top + 1] hb (by first | (go_simp; rfl) | rfl) (by go_simp) (by go_simp)))
  go_ret
  refine gives rfl ?_
  repeat (first | exact since_refl _ | apply since_ext | apply since_alloc)

theorem word_val (op a b c i : Int) (w : World) (h : wordOk op a b c i = true) :
    Calls Try.prog 9 #[.agg #[.int .i64 op, .int .i64 a, .int .i64 b, .int .i64 c, .int .u32 i]] w
      (Gives w (.tuple #[.int .u32 (wordVal op a b c), .bool true])) := word_yes op a b c i w h

set_option maxRecDepth 100000 in
set_option maxHeartbeats 1000000 in
theorem imm_two (op imm : Int) (w : World) (h : (isaClass op == 0) = false) (hI : 0 ≤ imm ∧ imm < 4294967296) (ht : isaTwo op = true) :
    Calls Try.prog 4 #[.int .i64 op, .int .u32 imm] w (Gives w (.bool true)) := by
  have h0 : (0 : Int) ≤ 0 ∧ (0 : Int) ≤ 255 := by omega
  have ho : 1 ≤ op ∧ op ≤ 255 := by have := class_in h; omega
  have HW := hid (show wordOk op 0 0 0 imm = true by unfold wordOk; rw [h, fits_zero, fits_zero, fits_zero, ht]; simp)
  have HO := hid (show wordOk op 0 0 0 0 = true by unfold wordOk; rw [h, fits_zero, fits_zero, fits_zero]; simp)
  have HJ := hid (show (if isaTwo op = true then imm else 0) = imm by rw [ht]; simp)
  have HJ2 := hid (show (if isaTwo op = true then ((imm + 1) % 4294967296) else 0) = ((imm + 1) % 4294967296) by rw [ht]; simp)
  have HS1 := hid (show (op == op && (0 : Int) == 0 && (0 : Int) == 0 && (0 : Int) == 0 && imm == imm) = true by simp)
  have HS2 := hid (show (op == op && (0 : Int) == 0 && (0 : Int) == 0 && (0 : Int) == 0 && imm == ((imm + 1) % 4294967296)) = false by (have e : (imm == (imm + 1) % 4294967296) = false := by (rw [beq_eq_false_iff_ne]; omega)); rw [e]; simp)
  have HI := hid hI; clear hI
  have HV := hid (show wordW op 0 0 0 imm = wordVal op 0 0 0 by unfold wordW; rw [HW.out]; rfl)
  go_enter Try.func4, Try.ntmps4
  go_wp2_with (first | (go_at_call 6; refine (first_any _).mono ?_; rintro e w' ⟨rfl, hb⟩; obtain ⟨g1, rfl⟩ := ext_of w.heap.size w.heap.size [] hb rfl (Nat.le_refl _) (by simp)) | (go_at_call 10; refine (tables_any _).mono ?_; rintro e w' ⟨rfl, hb⟩; obtain ⟨g2, rfl⟩ := ext_of w.heap.size _ [] hb (by go_simp; rfl) (by go_simp) (by simp)) | (go_at_call 9; (with_reducible refine (word_val _ _ _ _ _ _ HW.out).mono ?_); rintro e w' ⟨rfl, hb⟩; obtain ⟨g3, rfl⟩ := ext_of w.heap.size _ [g2.top, g2.top + 1] hb (by first | (go_simp; rfl) | rfl) (by go_simp) (by go_simp)) | (go_at_call 11; (with_reducible refine (tclass_is _ _ h).mono ?_); rintro e w' ⟨k, hk, rfl, hb⟩; obtain ⟨g4, rfl⟩ := ext_of w.heap.size _ [g2.top, g2.top + 1] hb (by first | (go_simp; rfl) | rfl) (by go_simp) (by go_simp)) | (go_at_call 12; (with_reducible refine (ttwo_is _ _ ht).mono ?_); rintro e w' ⟨rfl, hb⟩; obtain ⟨g5, rfl⟩ := ext_of w.heap.size _ [g2.top, g2.top + 1] hb (by first | (go_simp; rfl) | rfl) (by go_simp) (by go_simp)) | (go_at_call 13; (with_reducible refine (of_word _ _ _ _ _ _ _ ho h0 h0 h0 HO.out HJ.out).mono ?_); rintro e w' ⟨rfl, hb⟩; obtain ⟨g6, rfl⟩ := ext_of w.heap.size _ [g2.top, g2.top + 1] hb (by first | (go_simp; rfl) | rfl) (by go_simp) (by go_simp)) | (go_at_call 13; (with_reducible refine (of_word _ _ _ _ _ _ _ ho h0 h0 h0 HO.out HJ2.out).mono ?_); rintro e w' ⟨rfl, hb⟩; obtain ⟨g7, rfl⟩ := ext_of w.heap.size _ [g2.top, g2.top + 1, g6.top] hb (by first | (go_simp; rfl) | rfl) (by go_simp) (by go_simp)))
  refine wp_region_ext w.heap.size _ [g2.top, g2.top + 1, g6.top, g7.top] (by kernel_rfl) (by kernel_rfl) (by first | (go_simp; rfl) | rfl) (by go_simp) (by go_simp) (fun hne => ?_)
  repeat (go_big_quiet_step ((first | (go_at_call 14; with_reducible refine quiet_ext (by go_simp) (same_is _ _ _ _ _ _ _ _ _ _ _ HS1.out)) | (go_at_call 14; with_reducible refine quiet_ext (by go_simp) (same_is _ _ _ _ _ _ _ _ _ _ _ HS2.out)) | (go_at_call 12; with_reducible refine quiet_ext (by go_simp) (ttwo_is _ _ ht)))))
  refine wpQuiet_nil ?_
  intro g; clear hne
  go_wp2
  go_ret
  refine gives rfl ?_
  repeat (first | exact since_refl _ | apply since_ext | apply since_alloc)

set_option maxRecDepth 100000 in
set_option maxHeartbeats 1000000 in
theorem imm_one (op : Int) (w : World) (h : (isaClass op == 0) = false) (hI : 0 ≤ (0 : Int) ∧ (0 : Int) < 4294967296) (ht : isaTwo op = false) :
    Calls Try.prog 4 #[.int .i64 op, .int .u32 0] w (Gives w (.bool true)) := by
  have h0 : (0 : Int) ≤ 0 ∧ (0 : Int) ≤ 255 := by omega
  have ho : 1 ≤ op ∧ op ≤ 255 := by have := class_in h; omega
  have HW := hid (show wordOk op 0 0 0 0 = true by unfold wordOk; rw [h, fits_zero, fits_zero, fits_zero]; simp)
  have HO := hid (show wordOk op 0 0 0 0 = true by unfold wordOk; rw [h, fits_zero, fits_zero, fits_zero]; simp)
  have HJ := hid (show (if isaTwo op = true then (0 : Int) else 0) = 0 by rw [ht]; simp)
  have HJ2 := hid (show (if isaTwo op = true then (1 : Int) else 0) = 0 by rw [ht]; simp)
  have HS1 := hid (show (op == op && (0 : Int) == 0 && (0 : Int) == 0 && (0 : Int) == 0 && (0 : Int) == 0) = true by simp)
  have HS2 := hid (show (op == op && (0 : Int) == 0 && (0 : Int) == 0 && (0 : Int) == 0 && (0 : Int) == 0) = true by simp)
  have HI := hid hI; clear hI
  have HV := hid (show wordW op 0 0 0 0 = wordVal op 0 0 0 by unfold wordW; rw [HW.out]; rfl)
  go_enter Try.func4, Try.ntmps4
  go_wp2_with (first | (go_at_call 6; refine (first_any _).mono ?_; rintro e w' ⟨rfl, hb⟩; obtain ⟨g1, rfl⟩ := ext_of w.heap.size w.heap.size [] hb rfl (Nat.le_refl _) (by simp)) | (go_at_call 10; refine (tables_any _).mono ?_; rintro e w' ⟨rfl, hb⟩; obtain ⟨g2, rfl⟩ := ext_of w.heap.size _ [] hb (by go_simp; rfl) (by go_simp) (by simp)) | (go_at_call 9; (with_reducible refine (word_val _ _ _ _ _ _ HW.out).mono ?_); rintro e w' ⟨rfl, hb⟩; obtain ⟨g3, rfl⟩ := ext_of w.heap.size _ [g2.top, g2.top + 1] hb (by first | (go_simp; rfl) | rfl) (by go_simp) (by go_simp)) | (go_at_call 11; (with_reducible refine (tclass_is _ _ h).mono ?_); rintro e w' ⟨k, hk, rfl, hb⟩; obtain ⟨g4, rfl⟩ := ext_of w.heap.size _ [g2.top, g2.top + 1] hb (by first | (go_simp; rfl) | rfl) (by go_simp) (by go_simp)) | (go_at_call 12; (with_reducible refine (ttwo_is _ _ ht).mono ?_); rintro e w' ⟨rfl, hb⟩; obtain ⟨g5, rfl⟩ := ext_of w.heap.size _ [g2.top, g2.top + 1] hb (by first | (go_simp; rfl) | rfl) (by go_simp) (by go_simp)) | (go_at_call 13; (with_reducible refine (of_word _ _ _ _ _ _ _ ho h0 h0 h0 HO.out HJ.out).mono ?_); rintro e w' ⟨rfl, hb⟩; obtain ⟨g6, rfl⟩ := ext_of w.heap.size _ [g2.top, g2.top + 1] hb (by first | (go_simp; rfl) | rfl) (by go_simp) (by go_simp)) | (go_at_call 13; (with_reducible refine (of_word _ _ _ _ _ _ _ ho h0 h0 h0 HO.out HJ2.out).mono ?_); rintro e w' ⟨rfl, hb⟩; obtain ⟨g7, rfl⟩ := ext_of w.heap.size _ [g2.top, g2.top + 1, g6.top] hb (by first | (go_simp; rfl) | rfl) (by go_simp) (by go_simp)))
  refine wp_region_ext w.heap.size _ [g2.top, g2.top + 1, g6.top, g7.top] (by kernel_rfl) (by kernel_rfl) (by first | (go_simp; rfl) | rfl) (by go_simp) (by go_simp) (fun hne => ?_)
  repeat (go_big_quiet_step ((first | (go_at_call 14; with_reducible refine quiet_ext (by go_simp) (same_is _ _ _ _ _ _ _ _ _ _ _ HS1.out)) | (go_at_call 14; with_reducible refine quiet_ext (by go_simp) (same_is _ _ _ _ _ _ _ _ _ _ _ HS2.out)) | (go_at_call 12; with_reducible refine quiet_ext (by go_simp) (ttwo_is _ _ ht)))))
  refine wpQuiet_nil ?_
  intro g; clear hne
  go_wp2
  go_ret
  refine gives rfl ?_
  repeat (first | exact since_refl _ | apply since_ext | apply since_alloc)

theorem imm_walk (op imm : Int) (w : World) (hI : 0 ≤ imm ∧ imm < 4294967296) :
    Calls Try.prog 4 #[.int .i64 op, .int .u32 imm] w (Gives w (.bool true)) := by
  cases h : (isaClass op == 0)
  · cases ht : isaTwo op
    · by_cases hi : imm = 0
      · subst hi; exact imm_one op w h (by omega) ht
      · exact imm_bad op imm w h ht (by simpa using hi)
    · exact imm_two op imm w h hI ht
  · exact imm_zero op imm w h
end Go.Proofs.Ytgnaefaibgjjoaa
