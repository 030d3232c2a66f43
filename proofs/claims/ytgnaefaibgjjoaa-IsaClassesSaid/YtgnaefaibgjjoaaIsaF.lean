/- isa: Of: what it gives back. -/
import Derived.Test.YtgnaefaibgjjoaaIsaE
set_option linter.unusedVariables false
set_option linter.unusedSimpArgs false
namespace Go.Proofs.Ytgnaefaibgjjoaa
open Go.RowKit Go.Kit

theorem hi16_and (w : Int) (h : 0 ≤ w ∧ w < 4294967296) : bits .and .u32 (w / 65536) 255 = w / 65536 % 256 :=
  bits_mask .u32 32 (by decide) wraps32 8 (by decide) _ (by omega) (by omega)
theorem hi8_and (w : Int) (h : 0 ≤ w ∧ w < 4294967296) : bits .and .u32 (w / 256) 255 = w / 256 % 256 :=
  bits_mask .u32 32 (by decide) wraps32 8 (by decide) _ (by omega) (by omega)
theorem lo_and (w : Int) (h : 0 ≤ w ∧ w < 4294967296) : bits .and .u32 w 255 = w % 256 :=
  bits_mask .u32 32 (by decide) wraps32 8 (by decide) _ (by omega) (by omega)

theorem ttwo_is (op : Int) (w : World) {t : Bool} (h : isaTwo op = t) :
    Calls Try.prog 12 #[.agg #[], .int .i64 op] w (Gives w (.bool t)) := h ▸ ttwo_any op w

set_option maxRecDepth 100000 in
set_option maxHeartbeats 1000000 in
theorem of_two_yes (w imm : Int) (W : World) (hw : 0 ≤ w ∧ w < 4294967296) (ht : isaTwo (w / 16777216) = true) (h : wordOk (w / 16777216) (w / 65536 % 256) (w / 256 % 256) (w % 256) imm = true) :
    Calls Try.prog 13 #[.int .u32 w, .int .u32 imm] W (Gives W (.tuple #[.agg #[.int .i64 (w / 16777216), .int .i64 (w / 65536 % 256), .int .i64 (w / 256 % 256), .int .i64 (w % 256), .int .u32 imm], .bool true])) := by
  have e1 := hi16_and w hw
  have e2 := hi8_and w hw
  have e3 := lo_and w hw
  obtain ⟨b0, b1⟩ := hw
  go_enter Try.func13, Try.ntmps13
  go_wp2
  refine wp_region_ext W.heap.size (W.heap.size + 1 + 1) [W.heap.size, W.heap.size + 1] (by kernel_rfl) (by kernel_rfl) (by go_simp) (by go_simp) (by go_simp) (fun hne => ?_)
  repeat (go_big_quiet_step ((first | (go_at_call 10; refine quiet_ext (by go_simp) (tables_any _)) | (go_at_call 12; refine quiet_ext (by go_simp) (ttwo_is _ _ ht)))))
  refine wpQuiet_nil ?_
  intro g; clear hne
  go_wp2_with (first | (go_at_call 9; refine (word_yes _ _ _ _ _ _ h).mono ?_; rintro e w' ⟨rfl, hb⟩; obtain ⟨g2, rfl⟩ := ext_of W.heap.size g.top [W.heap.size, W.heap.size + 1] hb (by go_simp) (by go_simp) (by go_simp)))
  refine bodyPost_ret (v := .tuple #[.agg #[.int .i64 (w / 16777216), .int .i64 (w / 65536 % 256), .int .i64 (w / 256 % 256), .int .i64 (w % 256), .int .u32 imm], .bool true]) (by simp [results, Try.results13, go_sem]) rfl (gives rfl ?_)
  repeat (first | exact since_refl _ | apply since_ext | apply since_alloc | (refine since_set ?_ (by simp) _))

set_option maxRecDepth 100000 in
set_option maxHeartbeats 1000000 in
theorem of_two_no (w imm : Int) (W : World) (hw : 0 ≤ w ∧ w < 4294967296) (ht : isaTwo (w / 16777216) = true) (h : wordOk (w / 16777216) (w / 65536 % 256) (w / 256 % 256) (w % 256) imm = false) :
    Calls Try.prog 13 #[.int .u32 w, .int .u32 imm] W (Gives W (.tuple #[.agg #[.int .i64 0, .int .i64 0, .int .i64 0, .int .i64 0, .int .u32 0], .bool false])) := by
  have e1 := hi16_and w hw
  have e2 := hi8_and w hw
  have e3 := lo_and w hw
  obtain ⟨b0, b1⟩ := hw
  go_enter Try.func13, Try.ntmps13
  go_wp2
  refine wp_region_ext W.heap.size (W.heap.size + 1 + 1) [W.heap.size, W.heap.size + 1] (by kernel_rfl) (by kernel_rfl) (by go_simp) (by go_simp) (by go_simp) (fun hne => ?_)
  repeat (go_big_quiet_step ((first | (go_at_call 10; refine quiet_ext (by go_simp) (tables_any _)) | (go_at_call 12; refine quiet_ext (by go_simp) (ttwo_is _ _ ht)))))
  refine wpQuiet_nil ?_
  intro g; clear hne
  go_wp2_with (first | (go_at_call 9; refine (word_no _ _ _ _ _ _ h).mono ?_; rintro e w' ⟨rfl, hb⟩; obtain ⟨g2, rfl⟩ := ext_of W.heap.size g.top [W.heap.size, W.heap.size + 1] hb (by go_simp) (by go_simp) (by go_simp)))
  refine bodyPost_ret (v := .tuple #[.agg #[.int .i64 0, .int .i64 0, .int .i64 0, .int .i64 0, .int .u32 0], .bool false]) (by simp [results, Try.results13, go_sem]) rfl (gives rfl ?_)
  repeat (first | exact since_refl _ | apply since_ext | apply since_alloc | (refine since_set ?_ (by simp) _))

set_option maxRecDepth 100000 in
set_option maxHeartbeats 1000000 in
theorem of_one_yes (w imm : Int) (W : World) (hw : 0 ≤ w ∧ w < 4294967296) (ht : isaTwo (w / 16777216) = false) (h : wordOk (w / 16777216) (w / 65536 % 256) (w / 256 % 256) (w % 256) 0 = true) :
    Calls Try.prog 13 #[.int .u32 w, .int .u32 imm] W (Gives W (.tuple #[.agg #[.int .i64 (w / 16777216), .int .i64 (w / 65536 % 256), .int .i64 (w / 256 % 256), .int .i64 (w % 256), .int .u32 0], .bool true])) := by
  have e1 := hi16_and w hw
  have e2 := hi8_and w hw
  have e3 := lo_and w hw
  obtain ⟨b0, b1⟩ := hw
  go_enter Try.func13, Try.ntmps13
  go_wp2
  refine wp_region_ext W.heap.size (W.heap.size + 1 + 1) [W.heap.size, W.heap.size + 1] (by kernel_rfl) (by kernel_rfl) (by go_simp) (by go_simp) (by go_simp) (fun hne => ?_)
  repeat (go_big_quiet_step ((first | (go_at_call 10; refine quiet_ext (by go_simp) (tables_any _)) | (go_at_call 12; refine quiet_ext (by go_simp) (ttwo_is _ _ ht)))))
  refine wpQuiet_nil ?_
  intro g; clear hne
  go_wp2_with (first | (go_at_call 9; refine (word_yes _ _ _ _ _ _ h).mono ?_; rintro e w' ⟨rfl, hb⟩; obtain ⟨g2, rfl⟩ := ext_of W.heap.size g.top [W.heap.size, W.heap.size + 1] hb (by go_simp) (by go_simp) (by go_simp)))
  refine bodyPost_ret (v := .tuple #[.agg #[.int .i64 (w / 16777216), .int .i64 (w / 65536 % 256), .int .i64 (w / 256 % 256), .int .i64 (w % 256), .int .u32 0], .bool true]) (by simp [results, Try.results13, go_sem]) rfl (gives rfl ?_)
  repeat (first | exact since_refl _ | apply since_ext | apply since_alloc | (refine since_set ?_ (by simp) _))

set_option maxRecDepth 100000 in
set_option maxHeartbeats 1000000 in
theorem of_one_no (w imm : Int) (W : World) (hw : 0 ≤ w ∧ w < 4294967296) (ht : isaTwo (w / 16777216) = false) (h : wordOk (w / 16777216) (w / 65536 % 256) (w / 256 % 256) (w % 256) 0 = false) :
    Calls Try.prog 13 #[.int .u32 w, .int .u32 imm] W (Gives W (.tuple #[.agg #[.int .i64 0, .int .i64 0, .int .i64 0, .int .i64 0, .int .u32 0], .bool false])) := by
  have e1 := hi16_and w hw
  have e2 := hi8_and w hw
  have e3 := lo_and w hw
  obtain ⟨b0, b1⟩ := hw
  go_enter Try.func13, Try.ntmps13
  go_wp2
  refine wp_region_ext W.heap.size (W.heap.size + 1 + 1) [W.heap.size, W.heap.size + 1] (by kernel_rfl) (by kernel_rfl) (by go_simp) (by go_simp) (by go_simp) (fun hne => ?_)
  repeat (go_big_quiet_step ((first | (go_at_call 10; refine quiet_ext (by go_simp) (tables_any _)) | (go_at_call 12; refine quiet_ext (by go_simp) (ttwo_is _ _ ht)))))
  refine wpQuiet_nil ?_
  intro g; clear hne
  go_wp2_with (first | (go_at_call 9; refine (word_no _ _ _ _ _ _ h).mono ?_; rintro e w' ⟨rfl, hb⟩; obtain ⟨g2, rfl⟩ := ext_of W.heap.size g.top [W.heap.size, W.heap.size + 1] hb (by go_simp) (by go_simp) (by go_simp)))
  refine bodyPost_ret (v := .tuple #[.agg #[.int .i64 0, .int .i64 0, .int .i64 0, .int .i64 0, .int .u32 0], .bool false]) (by simp [results, Try.results13, go_sem]) rfl (gives rfl ?_)
  repeat (first | exact since_refl _ | apply since_ext | apply since_alloc | (refine since_set ?_ (by simp) _))

def ofImm (w imm : Int) : Int := if isaTwo (w / 16777216) = true then imm else 0
def ofOk (w : Int) : Bool := wordOk (w / 16777216) (w / 65536 % 256) (w / 256 % 256) (w % 256) 0
theorem ofOk_imm {op a b c imm : Int} (h : isaTwo op = true) : wordOk op a b c imm = wordOk op a b c 0 := by
  unfold wordOk; rw [h]; simp
theorem of_yes (w imm : Int) (W : World) (hw : 0 ≤ w ∧ w < 4294967296) (h : ofOk w = true) :
    Calls Try.prog 13 #[.int .u32 w, .int .u32 imm] W (Gives W (.tuple #[.agg #[.int .i64 (w / 16777216), .int .i64 (w / 65536 % 256), .int .i64 (w / 256 % 256), .int .i64 (w % 256), .int .u32 (ofImm w imm)], .bool true])) := by
  unfold ofImm
  cases ht : isaTwo (w / 16777216)
  · exact of_one_yes w imm W hw ht h
  · exact of_two_yes w imm W hw ht ((ofOk_imm ht).trans h)
theorem of_no (w imm : Int) (W : World) (hw : 0 ≤ w ∧ w < 4294967296) (h : ofOk w = false) :
    Calls Try.prog 13 #[.int .u32 w, .int .u32 imm] W (Gives W (.tuple #[.agg #[.int .i64 0, .int .i64 0, .int .i64 0, .int .i64 0, .int .u32 0], .bool false])) := by
  cases ht : isaTwo (w / 16777216)
  · exact of_one_no w imm W hw ht h
  · exact of_two_no w imm W hw ht ((ofOk_imm ht).trans h)
theorem first_any (w : World) : Calls Try.prog 6 #[] w (Gives w (.bool true)) := by
  go_enter Try.func6, Try.ntmps6
  go_wp2_with (first | (go_at_call 9; refine (word_yes _ _ _ _ _ _ (by decide)).mono ?_; rintro e w' ⟨rfl, hb⟩; obtain ⟨g2, rfl⟩ := ext_of w.heap.size w.heap.size [] hb rfl (Nat.le_refl _) (by simp)))
  go_ret
  exact gives rfl (since_ext (since_refl _) _)
end Go.Proofs.Ytgnaefaibgjjoaa
