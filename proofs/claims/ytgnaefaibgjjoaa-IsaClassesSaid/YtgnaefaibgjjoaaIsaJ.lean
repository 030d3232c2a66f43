/- chapter 1, IsaClasses: the walk. -/
import Derived.Test.YtgnaefaibgjjoaaIsaI
set_option linter.unusedVariables false
set_option linter.unusedSimpArgs false
namespace Go.Proofs.Ytgnaefaibgjjoaa
open Go.RowKit Go.Kit

theorem and255 (x : Int) : bits .and .i64 x 255 = x % 256 := by
  have h1 : 0 ≤ x % 18446744073709551616 := by omega
  obtain ⟨n, hn⟩ := Int.eq_ofNat_of_zero_le h1
  have e : BitVec.ofInt 64 x = BitVec.ofNat 64 n := by
    apply BitVec.eq_of_toNat_eq
    simp [BitVec.toNat_ofInt]; omega
  have hlt : n < 18446744073709551616 := by omega
  have e2 : (BitVec.ofInt 64 x &&& BitVec.ofInt 64 255).toNat = n % 256 := by
    have : BitVec.ofInt 64 255 = BitVec.ofNat 64 255 := by decide
    rw [e, this, BitVec.toNat_and, BitVec.toNat_ofNat, BitVec.toNat_ofNat, Nat.mod_eq_of_lt (by omega), Nat.mod_eq_of_lt (by decide)]
    exact Nat.and_two_pow_sub_one_eq_mod n 8
  have e3 : bits .and .i64 x 255 = IntKind.i64.wrap ((BitVec.ofInt 64 x &&& BitVec.ofInt 64 255).toNat : Nat) := rfl
  rw [e3, e2, IntKind.wrap_i64]
  omega
theorem dist_low (c : Int) : bits .and .i64 (wrap64 (dispM c - c)) 255 = 0 := by
  rw [and255]; unfold wrap64 dispM; omega
theorem dispM_in (c : Int) : -128 ≤ dispM c ∧ dispM c ≤ 127 := by unfold dispM; omega
theorem tclass_eq (op : Int) (w : World) {k : Int} (h : isaClass op = k) :
    Calls Try.prog 11 #[.agg #[], .int .i64 op] w (Gives w (.int .i64 k)) := h ▸ tclass_any op w
theorem tjumps_is (op : Int) (w : World) {t : Bool} (h : isaJumps op = t) :
    Calls Try.prog 15 #[.agg #[], .int .i64 op] w (Gives w (.bool t)) := h ▸ tjumps_any op w
theorem disp_is (c : Int) (w : World) {d : Int} (h : dispM c = d) :
    Calls Try.prog 16 #[.int .i64 c] w fun e w' => e = .returned (.int .i64 d) ∧ w' = w := h ▸ disp_any c w

set_option maxRecDepth 100000 in
set_option maxHeartbeats 1000000 in
theorem classes_no (v imm c : Int) (w : World) (hv : 0 ≤ v ∧ v < 4294967296) (h : ofOk v = false) (d : Int) (hd : dispM c = d) (d0 : -128 ≤ d) (d1 : d ≤ 127) (hm : bits .and .i64 (wrap64 (d - c)) 255 = 0) :
    Calls Try.prog 5 #[.int .u32 v, .int .u32 imm, .int .i64 c] w (Gives w (.bool true)) := by
  have HV := hid hv; clear hv
  have H := hid h; clear h
  have HD := hid hd; clear hd
  have C1 := hid (show isaClass 0 = 0 by decide)
  have C2 := hid (show isaClass 200 = 0 by decide)
  have C3 := hid (show isaClass (-1) = 0 by decide)
  go_enter Try.func5, Try.ntmps5
  go_wp2_with (first | (go_at_call 6; refine (first_any _).mono ?_; rintro e w' ⟨rfl, hb⟩; obtain ⟨g1, rfl⟩ := ext_of w.heap.size w.heap.size [] hb rfl (Nat.le_refl _) (by simp)) | (go_at_call 13; (with_reducible refine (of_no _ _ _ HV.out H.out).mono ?_); rintro e w' ⟨rfl, hb⟩; obtain ⟨g2, rfl⟩ := ext_of w.heap.size _ [] hb (by first | (go_simp; rfl) | rfl) (by go_simp) (by simp)) | (go_at_call 10; refine (tables_any _).mono ?_; rintro e w' ⟨rfl, hb⟩; obtain ⟨g3, rfl⟩ := ext_of w.heap.size _ [g2.top] hb (by go_simp; rfl) (by go_simp) (by go_simp)) | (go_at_call 16; refine (disp_is _ _ HD.out).mono ?_; rintro e w' ⟨rfl, rfl⟩) | (go_at_call 11; (with_reducible refine (tclass_eq 0 _ C1.out).mono ?_); rintro e w' ⟨rfl, hb⟩; obtain ⟨g7, rfl⟩ := ext_of w.heap.size _ [g2.top, g3.top] hb (by first | (go_simp; rfl) | rfl) (by go_simp) (by go_simp)) | (go_at_call 11; (with_reducible refine (tclass_eq 200 _ C2.out).mono ?_); rintro e w' ⟨rfl, hb⟩; obtain ⟨g8, rfl⟩ := ext_of w.heap.size _ [g2.top, g3.top] hb (by first | (go_simp; rfl) | rfl) (by go_simp) (by go_simp)) | (go_at_call 11; (with_reducible refine (tclass_eq (-1) _ C3.out).mono ?_); rintro e w' ⟨rfl, hb⟩; obtain ⟨g9, rfl⟩ := ext_of w.heap.size _ [g2.top, g3.top] hb (by first | (go_simp; rfl) | rfl) (by go_simp) (by go_simp)))
  go_ret
  refine gives rfl ?_
  repeat (first | exact since_refl _ | apply since_ext | apply since_alloc)

theorem of_is (w imm : Int) (W : World) (hw : 0 ≤ w ∧ w < 4294967296) (h : ofOk w = true) {j : Int} (hj : ofImm w imm = j) :
    Calls Try.prog 13 #[.int .u32 w, .int .u32 imm] W (Gives W (.tuple #[.agg #[.int .i64 (w / 16777216), .int .i64 (w / 65536 % 256), .int .i64 (w / 256 % 256), .int .i64 (w % 256), .int .u32 j], .bool true])) := hj ▸ of_yes w imm W hw h
theorem word_eq (op a b c i : Int) (w : World) (h : wordOk op a b c i = true) {v : Int} (hv : wordVal op a b c = v) :
    Calls Try.prog 9 #[.agg #[.int .i64 op, .int .i64 a, .int .i64 b, .int .i64 c, .int .u32 i]] w
      (Gives w (.tuple #[.int .u32 v, .bool true])) := hv ▸ word_yes op a b c i w h

theorem word_imm {v imm j : Int} (h : ofOk v = true) (hj : ofImm v imm = j) : wordOk (v / 16777216) (v / 65536 % 256) (v / 256 % 256) (v % 256) j = true := by
  unfold ofImm at hj
  cases ht : isaTwo (v / 16777216)
  · rw [ht] at hj; simp at hj; subst hj; exact h
  · exact (ofOk_imm ht).trans h
set_option maxRecDepth 100000 in
set_option maxHeartbeats 4000000 in
theorem classes_yes (v imm c : Int) (w : World) (hv : 0 ≤ v ∧ v < 4294967296) (h : ofOk v = true) (d : Int) (hd : dispM c = d) (d0 : -128 ≤ d) (d1 : d ≤ 127) (hm : bits .and .i64 (wrap64 (d - c)) 255 = 0)
    (k : Int) (two jumps : Bool) (hk : isaClass (v / 16777216) = k) (ht : isaTwo (v / 16777216) = two) (hj : isaJumps (v / 16777216) = jumps) (j : Int) (hi : ofImm v imm = j)
    (hc : (k = 1 ∧ two = false ∧ jumps = false ∧ j = 0) ∨ (k = 1 ∧ two = false ∧ jumps = true ∧ j = 0) ∨ (k = 1 ∧ two = true ∧ jumps = false ∧ j = imm) ∨ (k = 1 ∧ two = true ∧ jumps = true ∧ j = imm) ∨ (k = 2 ∧ two = false ∧ jumps = false ∧ j = 0) ∨ (k = 3 ∧ two = false ∧ jumps = false ∧ j = 0) ∨ (k = 4 ∧ two = true ∧ jumps = false ∧ j = imm)) :
    Calls Try.prog 5 #[.int .u32 v, .int .u32 imm, .int .i64 c] w (Gives w (.bool true)) := by
  have HV := hid hv; clear hv
  have H := hid h; clear h
  have HD := hid hd; clear hd
  have C1 := hid (show isaClass 0 = 0 by decide)
  have C2 := hid (show isaClass 200 = 0 by decide)
  have C3 := hid (show isaClass (-1) = 0 by decide)
  have HK := hid hk; clear hk
  have HT := hid ht; clear ht
  have HJ := hid hj; clear hj
  have HI := hid hi; clear hi
  have h0 : (v / 16777216 != 0) = true := by
    have H2 := H.out
    unfold ofOk wordOk at H2
    simp only [Bool.and_eq_true, Bool.not_eq_true'] at H2
    have := class_in H2.1.1.1.1
    simp; omega
  obtain ⟨rfl, rfl, rfl, rfl⟩ | ⟨rfl, rfl, rfl, rfl⟩ | ⟨rfl, rfl, rfl, rfl⟩ | ⟨rfl, rfl, rfl, rfl⟩ | ⟨rfl, rfl, rfl, rfl⟩ | ⟨rfl, rfl, rfl, rfl⟩ | ⟨rfl, rfl, rfl, rfl⟩ := hc
  all_goals
    have HW := hid (show wordOk (v / 16777216) (v / 65536 % 256) (v / 256 % 256) (v % 256) _ = true from (word_imm H.out HI.out))
    have HWv := hid (show wordVal (v / 16777216) (v / 65536 % 256) (v / 256 % 256) (v % 256) = v by have := HV.out; unfold wordVal; omega)
    go_enter Try.func5, Try.ntmps5
    go_wp2_with (first | (go_at_call 6; refine (first_any _).mono ?_; rintro e w' ⟨rfl, hb⟩; obtain ⟨g1, rfl⟩ := ext_of w.heap.size w.heap.size [] hb rfl (Nat.le_refl _) (by simp)) | (go_at_call 13; (with_reducible refine (of_is _ _ _ HV.out H.out HI.out).mono ?_); rintro e w' ⟨rfl, hb⟩; obtain ⟨g2, rfl⟩ := ext_of w.heap.size _ [] hb (by first | (go_simp; rfl) | rfl) (by go_simp) (by simp)) | (go_at_call 10; refine (tables_any _).mono ?_; rintro e w' ⟨rfl, hb⟩; obtain ⟨g3, rfl⟩ := ext_of w.heap.size _ [g2.top] hb (by go_simp; rfl) (by go_simp) (by go_simp)) | (go_at_call 16; refine (disp_is _ _ HD.out).mono ?_; rintro e w' ⟨rfl, rfl⟩) | (go_at_call 11; (with_reducible refine (tclass_eq 0 _ C1.out).mono ?_); rintro e w' ⟨rfl, hb⟩; obtain ⟨g7, rfl⟩ := ext_of w.heap.size _ [g2.top, g3.top] hb (by first | (go_simp; rfl) | rfl) (by go_simp) (by go_simp)) | (go_at_call 11; (with_reducible refine (tclass_eq 200 _ C2.out).mono ?_); rintro e w' ⟨rfl, hb⟩; obtain ⟨g8, rfl⟩ := ext_of w.heap.size _ [g2.top, g3.top] hb (by first | (go_simp; rfl) | rfl) (by go_simp) (by go_simp)) | (go_at_call 11; (with_reducible refine (tclass_eq (-1) _ C3.out).mono ?_); rintro e w' ⟨rfl, hb⟩; obtain ⟨g9, rfl⟩ := ext_of w.heap.size _ [g2.top, g3.top] hb (by first | (go_simp; rfl) | rfl) (by go_simp) (by go_simp)) | (go_at_call 11; (with_reducible refine (tclass_eq _ _ HK.out).mono ?_); rintro e w' ⟨rfl, hb⟩; obtain ⟨g4, rfl⟩ := ext_of w.heap.size _ [g2.top, g3.top] hb (by first | (go_simp; rfl) | rfl) (by go_simp) (by go_simp)) | (go_at_call 9; (with_reducible refine (word_eq _ _ _ _ _ _ HW.out HWv.out).mono ?_); rintro e w' ⟨rfl, hb⟩; obtain ⟨g5, rfl⟩ := ext_of w.heap.size _ [g2.top, g3.top] hb (by first | (go_simp; rfl) | rfl) (by go_simp) (by go_simp)) | (go_at_call 12; (with_reducible refine (ttwo_is _ _ HT.out).mono ?_); rintro e w' ⟨rfl, hb⟩; obtain ⟨g6, rfl⟩ := ext_of w.heap.size _ [g2.top, g3.top] hb (by first | (go_simp; rfl) | rfl) (by go_simp) (by go_simp)) | (go_at_call 15; (with_reducible refine (tjumps_is _ _ HJ.out).mono ?_); rintro e w' ⟨rfl, hb⟩; obtain ⟨g6j, rfl⟩ := ext_of w.heap.size _ [g2.top, g3.top] hb (by first | (go_simp; rfl) | rfl) (by go_simp) (by go_simp)))
    go_ret
    refine gives rfl ?_
    repeat (first | exact since_refl _ | apply since_ext | apply since_alloc)

theorem classes_cases (imm : Int) {op : Int} (h0 : 0 ≤ op) (h1 : op ≤ 96) (hc : (isaClass op == 0) = false) :
    (isaClass op = 1 ∧ isaTwo op = false ∧ isaJumps op = false ∧ (if isaTwo op = true then imm else 0) = 0) ∨ (isaClass op = 1 ∧ isaTwo op = false ∧ isaJumps op = true ∧ (if isaTwo op = true then imm else 0) = 0) ∨ (isaClass op = 1 ∧ isaTwo op = true ∧ isaJumps op = false ∧ (if isaTwo op = true then imm else 0) = imm) ∨ (isaClass op = 1 ∧ isaTwo op = true ∧ isaJumps op = true ∧ (if isaTwo op = true then imm else 0) = imm) ∨ (isaClass op = 2 ∧ isaTwo op = false ∧ isaJumps op = false ∧ (if isaTwo op = true then imm else 0) = 0) ∨ (isaClass op = 3 ∧ isaTwo op = false ∧ isaJumps op = false ∧ (if isaTwo op = true then imm else 0) = 0) ∨ (isaClass op = 4 ∧ isaTwo op = true ∧ isaJumps op = false ∧ (if isaTwo op = true then imm else 0) = imm) := by
  have h := ops_cases (P := fun op => (isaClass op == 0) = false → (isaClass op = 1 ∧ isaTwo op = false ∧ isaJumps op = false) ∨ (isaClass op = 1 ∧ isaTwo op = false ∧ isaJumps op = true) ∨ (isaClass op = 1 ∧ isaTwo op = true ∧ isaJumps op = false) ∨ (isaClass op = 1 ∧ isaTwo op = true ∧ isaJumps op = true) ∨ (isaClass op = 2 ∧ isaTwo op = false ∧ isaJumps op = false) ∨ (isaClass op = 3 ∧ isaTwo op = false ∧ isaJumps op = false) ∨ (isaClass op = 4 ∧ isaTwo op = true ∧ isaJumps op = false)) (by decide +kernel) h0 h1 hc
  cases ht : isaTwo op <;> simp only [ht] at h ⊢ <;> simpa using h

theorem classes_walk (v imm c : Int) (w : World) (hv : 0 ≤ v ∧ v < 4294967296) :
    Calls Try.prog 5 #[.int .u32 v, .int .u32 imm, .int .i64 c] w (Gives w (.bool true)) := by
  cases h : ofOk v
  · exact classes_no v imm c w hv h _ rfl (dispM_in c).1 (dispM_in c).2 (dist_low c)
  · have hc : (isaClass (v / 16777216) == 0) = false := by
      unfold ofOk wordOk at h
      simp only [Bool.and_eq_true, Bool.not_eq_true'] at h
      exact h.1.1.1.1
    have hb := class_in hc
    refine classes_yes v imm c w hv h _ rfl (dispM_in c).1 (dispM_in c).2 (dist_low c) _ _ _ rfl rfl rfl _ rfl ?_
    unfold ofImm
    exact classes_cases imm (by omega) (by omega) hc
end Go.Proofs.Ytgnaefaibgjjoaa
