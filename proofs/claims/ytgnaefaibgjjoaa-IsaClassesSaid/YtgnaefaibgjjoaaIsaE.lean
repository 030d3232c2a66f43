/- isa: Word: what it gives back. -/
import Derived.Test.YtgnaefaibgjjoaaIsaD
set_option linter.unusedVariables false
set_option linter.unusedSimpArgs false
namespace Go.Proofs.Ytgnaefaibgjjoaa
open Go.RowKit Go.Kit

set_option maxRecDepth 100000 in
set_option maxHeartbeats 1000000 in
theorem word_no (op a b c i : Int) (w : World) (h : wordOk op a b c i = false) :
    Calls Try.prog 9 #[.agg #[.int .i64 op, .int .i64 a, .int .i64 b, .int .i64 c, .int .u32 i]] w
      (Gives w (.tuple #[.int .u32 0, .bool false])) := by
  have hs : (isaClass op == 0) = true ∨ ((isaClass op == 0) = false ∧ (fitsM a (kA op) = false ∨ (fitsM a (kA op) = true ∧ (fitsM b (kB op) = false ∨ (fitsM b (kB op) = true ∧ (fitsM c (kC op) = false ∨ (fitsM c (kC op) = true ∧ (i != 0) = true ∧ isaTwo op = false))))))) := by
    revert h; unfold wordOk
    cases (isaClass op == 0) <;> cases fitsM a (kA op) <;> cases fitsM b (kB op) <;> cases fitsM c (kC op) <;> cases (i != 0) <;> cases isaTwo op <;> simp
  clear h
  rcases hs with h0 | ⟨h0, h1 | ⟨h1, h2 | ⟨h2, h3 | ⟨h3, h4, h5⟩⟩⟩⟩
  all_goals
    go_enter Try.func9, Try.ntmps9
    go_wp2_with (first | (go_at_call 17; refine (operands_any _ _).mono ?_; rintro e w' ⟨rfl, rfl⟩))
    refine wp_region_ext w.heap.size (w.heap.size + 1) [w.heap.size] (by kernel_rfl) (by kernel_rfl) (by go_simp) (by simp) (by simp) (fun hne => ?_)
    repeat (go_big_quiet_step ((first | (go_at_call 10; refine quiet_ext (by go_simp) (tables_any _)) | (go_at_call 11; refine quiet_ext (by go_simp) (tclass_any _ _)) | (go_at_call 12; refine quiet_ext (by go_simp) (ttwo_any _ _)) | (go_at_call 18; refine quiet_ext (by go_simp) (fits_m _ _ _ (by first | exact kA_in _ | exact kB_in _ | exact kC_in _))))))
    refine wpQuiet_nil ?_
    intro g; clear hne
    go_wp2
    go_ret2
    exact gives rfl (since_ext (since_alloc (since_refl _) _) g)

theorem v_pair {a b : Int} {k : IntKind} {c : Bool} (h : a = b) : Value.tuple #[.int k a, .bool c] = .tuple #[.int k b, .bool c] := by rw [h]

set_option maxRecDepth 100000 in
set_option maxHeartbeats 1000000 in
theorem word_yes (op a b c i : Int) (w : World) (h : wordOk op a b c i = true) :
    Calls Try.prog 9 #[.agg #[.int .i64 op, .int .i64 a, .int .i64 b, .int .i64 c, .int .u32 i]] w
      (Gives w (.tuple #[.int .u32 (wordVal op a b c), .bool true])) := by
  have hs : (isaClass op == 0) = false ∧ fitsM a (kA op) = true ∧ fitsM b (kB op) = true ∧ fitsM c (kC op) = true ∧ ((i != 0) = false ∨ ((i != 0) = true ∧ isaTwo op = true)) := by
    revert h; unfold wordOk
    cases (isaClass op == 0) <;> cases fitsM a (kA op) <;> cases fitsM b (kB op) <;> cases fitsM c (kC op) <;> cases (i != 0) <;> cases isaTwo op <;> simp
  clear h
  rcases hs with ⟨h0, h1, h2, h3, h4 | ⟨h4, h5⟩⟩
  all_goals
    have hw := word_bits (op := op) (by have := class_in h0; omega) (fits_in h1) (fits_in h2) (fits_in h3)
    have HW := hid hw; clear hw
    go_enter Try.func9, Try.ntmps9
    go_wp2_with (first | (go_at_call 17; refine (operands_any _ _).mono ?_; rintro e w' ⟨rfl, rfl⟩))
    refine wp_region_ext w.heap.size (w.heap.size + 1) [w.heap.size] (by kernel_rfl) (by kernel_rfl) (by go_simp) (by simp) (by simp) (fun hne => ?_)
    repeat (go_big_quiet_step ((first | (go_at_call 10; refine quiet_ext (by go_simp) (tables_any _)) | (go_at_call 11; refine quiet_ext (by go_simp) (tclass_any _ _)) | (go_at_call 12; refine quiet_ext (by go_simp) (ttwo_any _ _)) | (go_at_call 18; refine quiet_ext (by go_simp) (fits_m _ _ _ (by first | exact kA_in _ | exact kB_in _ | exact kC_in _))))))
    refine wpQuiet_nil ?_
    intro g; clear hne
    go_wp2
    go_ret2
    exact gives (v_pair HW.out) (since_ext (since_alloc (since_refl _) _) g)
end Go.Proofs.Ytgnaefaibgjjoaa
