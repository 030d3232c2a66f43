/- Contracts. -/
import Derived.Test.YtpjccdncokamlaaGreatDoorQSyTi
import Derived.Test.YtpjccdncokamlaaGreatDoorRows
set_option linter.unusedVariables false
set_option linter.unusedSimpArgs false
namespace Go.Proofs.YtpjccdncokamlaaGreatDoor
open Go.RowKit Go.Sy
def ti1 : TI := ⟨.func, 1, 8, .nilFunc, none⟩
theorem ti1_ok : TiOk Tryz.prog 1 ti1 := ti_mk (i := Tryz.t1) (z := .nilFunc) Tryz.underlying1 ⟨_, _, _, rfl⟩ (by kernel_rfl) (by kernel_rfl) (by kernel_rfl) (by kernel_rfl)
def ti2 : TI := ⟨.int .i64, 1, 8, .int .i64 (.lit 0), none⟩
theorem ti2_ok : TiOk Tryz.prog 2 ti2 := ti_mk (i := Tryz.t2) (z := .int .i64 0) Tryz.underlying2 rfl (by kernel_rfl) (by kernel_rfl) (by kernel_rfl) (by kernel_rfl)
def ti3 : TI := ⟨.int .i64, 1, 8, .int .i64 (.lit 0), some (.i64)⟩
theorem ti3_ok : TiOk Tryz.prog 3 ti3 := ti_mk (i := Tryz.t3) (z := .int .i64 0) Tryz.underlying3 rfl (by kernel_rfl) (by kernel_rfl) (by kernel_rfl) (by kernel_rfl)
def ti4 : TI := ⟨.bool, 1, 1, .bool (.lit false), some (.bool)⟩
theorem ti4_ok : TiOk Tryz.prog 4 ti4 := ti_mk (i := Tryz.t4) (z := .bool false) Tryz.underlying4 rfl (by kernel_rfl) (by kernel_rfl) (by kernel_rfl) (by kernel_rfl)
def ti9 : TI := ⟨.str, 1, 16, .str ByteArray.empty, some (.str)⟩
theorem ti9_ok : TiOk Tryz.prog 9 ti9 := ti_mk (i := Tryz.t9) (z := .string ByteArray.empty) Tryz.underlying9 rfl (by kernel_rfl) (by kernel_rfl) (by kernel_rfl) (by kernel_rfl)
def ti19 : TI := ⟨.struct [(0, 17, 1)], 1, 8, .agg [.nilptr], none⟩
theorem ti19_ok : TiOk Tryz.prog 19 ti19 := ti_mk (i := Tryz.t19) (z := .agg #[.pointer none]) Tryz.underlying19 ⟨_, rfl, (by kernel_rfl), fun f hf => by
    simp only [List.mem_cons, List.not_mem_nil, or_false] at hf
    subst hf
    · exact ⟨Tryz.t17, by kernel_rfl, by kernel_rfl, Nat.le_of_ble_eq_true (by kernel_rfl)⟩⟩ (by kernel_rfl) (by kernel_rfl) (by kernel_rfl) (by kernel_rfl)
def ti22 : TI := ⟨.slice 23, 1, 24, .nilslice, none⟩
theorem ti22_ok : TiOk Tryz.prog 22 ti22 := ti_mk (i := Tryz.t22) (z := .slice none 0 0) Tryz.underlying22 rfl (by kernel_rfl) (by kernel_rfl) (by kernel_rfl) (by kernel_rfl)
def ti23 : TI := ⟨.int .u32, 1, 4, .int .u32 (.lit 0), some (.u32)⟩
theorem ti23_ok : TiOk Tryz.prog 23 ti23 := ti_mk (i := Tryz.t23) (z := .int .u32 0) Tryz.underlying23 rfl (by kernel_rfl) (by kernel_rfl) (by kernel_rfl) (by kernel_rfl)
def ti24 : TI := ⟨.arr 16 23, 16, 64, .arr .u32 16 (List.replicate 16 0), none⟩
theorem ti24_ok : TiOk Tryz.prog 24 ti24 := ti_mk (i := Tryz.t24) (z := .agg #[.int .u32 0, .int .u32 0, .int .u32 0, .int .u32 0, .int .u32 0, .int .u32 0, .int .u32 0, .int .u32 0, .int .u32 0, .int .u32 0, .int .u32 0, .int .u32 0, .int .u32 0, .int .u32 0, .int .u32 0, .int .u32 0]) Tryz.underlying24 rfl (by kernel_rfl) (by kernel_rfl) (by kernel_rfl) (by kernel_rfl)
def ti25 : TI := ⟨.arr 16 23, 16, 64, .arr .u32 16 (List.replicate 16 0), none⟩
theorem ti25_ok : TiOk Tryz.prog 25 ti25 := ti_mk (i := Tryz.t25) (z := .agg #[.int .u32 0, .int .u32 0, .int .u32 0, .int .u32 0, .int .u32 0, .int .u32 0, .int .u32 0, .int .u32 0, .int .u32 0, .int .u32 0, .int .u32 0, .int .u32 0, .int .u32 0, .int .u32 0, .int .u32 0, .int .u32 0]) Tryz.underlying25 rfl (by kernel_rfl) (by kernel_rfl) (by kernel_rfl) (by kernel_rfl)
def ti27 : TI := ⟨.struct [(0, 25, 16), (16, 23, 1), (17, 4, 1), (18, 4, 1), (19, 23, 1), (20, 23, 1), (21, 23, 1), (22, 23, 1)], 23, 88, .agg [.arr .u32 16 (List.replicate 16 0), .int .u32 (.lit 0), .bool (.lit false), .bool (.lit false), .int .u32 (.lit 0), .int .u32 (.lit 0), .int .u32 (.lit 0), .int .u32 (.lit 0)], none⟩
theorem ti27_ok : TiOk Tryz.prog 27 ti27 := ti_mk (i := Tryz.t27) (z := .agg #[.int .u32 0, .int .u32 0, .int .u32 0, .int .u32 0, .int .u32 0, .int .u32 0, .int .u32 0, .int .u32 0, .int .u32 0, .int .u32 0, .int .u32 0, .int .u32 0, .int .u32 0, .int .u32 0, .int .u32 0, .int .u32 0, .int .u32 0, .bool false, .bool false, .int .u32 0, .int .u32 0, .int .u32 0, .int .u32 0]) Tryz.underlying27 ⟨_, rfl, (by kernel_rfl), fun f hf => by
    simp only [List.mem_cons, List.not_mem_nil, or_false] at hf
    rcases hf with rfl | rfl | rfl | rfl | rfl | rfl | rfl | rfl
    · exact ⟨Tryz.t25, by kernel_rfl, by kernel_rfl, Nat.le_of_ble_eq_true (by kernel_rfl)⟩
    · exact ⟨Tryz.t23, by kernel_rfl, by kernel_rfl, Nat.le_of_ble_eq_true (by kernel_rfl)⟩
    · exact ⟨Tryz.t4, by kernel_rfl, by kernel_rfl, Nat.le_of_ble_eq_true (by kernel_rfl)⟩
    · exact ⟨Tryz.t4, by kernel_rfl, by kernel_rfl, Nat.le_of_ble_eq_true (by kernel_rfl)⟩
    · exact ⟨Tryz.t23, by kernel_rfl, by kernel_rfl, Nat.le_of_ble_eq_true (by kernel_rfl)⟩
    · exact ⟨Tryz.t23, by kernel_rfl, by kernel_rfl, Nat.le_of_ble_eq_true (by kernel_rfl)⟩
    · exact ⟨Tryz.t23, by kernel_rfl, by kernel_rfl, Nat.le_of_ble_eq_true (by kernel_rfl)⟩
    · exact ⟨Tryz.t23, by kernel_rfl, by kernel_rfl, Nat.le_of_ble_eq_true (by kernel_rfl)⟩⟩ (by kernel_rfl) (by kernel_rfl) (by kernel_rfl) (by kernel_rfl)
def ti29 : TI := ⟨.ptr 109, 1, 8, .nilptr, none⟩
theorem ti29_ok : TiOk Tryz.prog 29 ti29 := ti_mk (i := Tryz.t29) (z := .pointer none) Tryz.underlying29 rfl (by kernel_rfl) (by kernel_rfl) (by kernel_rfl) (by kernel_rfl)
def ti30 : TI := ⟨.ptr 111, 1, 8, .nilptr, none⟩
theorem ti30_ok : TiOk Tryz.prog 30 ti30 := ti_mk (i := Tryz.t30) (z := .pointer none) Tryz.underlying30 rfl (by kernel_rfl) (by kernel_rfl) (by kernel_rfl) (by kernel_rfl)
def ti33 : TI := ⟨.ptr 66, 1, 8, .nilptr, none⟩
theorem ti33_ok : TiOk Tryz.prog 33 ti33 := ti_mk (i := Tryz.t33) (z := .pointer none) Tryz.underlying33 rfl (by kernel_rfl) (by kernel_rfl) (by kernel_rfl) (by kernel_rfl)
def ti35 : TI := ⟨.iface, 1, 16, .nilIface, some (.err)⟩
theorem ti35_ok : TiOk Tryz.prog 35 ti35 := ti_mk (i := Tryz.t35) (z := .nilIface) Tryz.underlying35 ⟨_, rfl⟩ (by kernel_rfl) (by kernel_rfl) (by kernel_rfl) (by kernel_rfl)
def ti39 : TI := ⟨.ptr 45, 1, 8, .nilptr, none⟩
theorem ti39_ok : TiOk Tryz.prog 39 ti39 := ti_mk (i := Tryz.t39) (z := .pointer none) Tryz.underlying39 rfl (by kernel_rfl) (by kernel_rfl) (by kernel_rfl) (by kernel_rfl)
def ti42 : TI := ⟨.ptr 73, 1, 8, .nilptr, none⟩
theorem ti42_ok : TiOk Tryz.prog 42 ti42 := ti_mk (i := Tryz.t42) (z := .pointer none) Tryz.underlying42 rfl (by kernel_rfl) (by kernel_rfl) (by kernel_rfl) (by kernel_rfl)
def ti43 : TI := ⟨.slice 94, 1, 24, .nilslice, none⟩
theorem ti43_ok : TiOk Tryz.prog 43 ti43 := ti_mk (i := Tryz.t43) (z := .slice none 0 0) Tryz.underlying43 rfl (by kernel_rfl) (by kernel_rfl) (by kernel_rfl) (by kernel_rfl)
def ti45 : TI := ⟨.struct [(0, 30, 1), (1, 27, 23), (24, 3, 1), (25, 42, 1), (26, 2, 1), (27, 4, 1), (28, 43, 1)], 29, 152, .agg [.nilptr, .arr .u32 16 (List.replicate 16 0), .int .u32 (.lit 0), .bool (.lit false), .bool (.lit false), .int .u32 (.lit 0), .int .u32 (.lit 0), .int .u32 (.lit 0), .int .u32 (.lit 0), .int .i64 (.lit 0), .nilptr, .int .i64 (.lit 0), .bool (.lit false), .nilslice], none⟩
theorem ti45_ok : TiOk Tryz.prog 45 ti45 := ti_mk (i := Tryz.t45) (z := .agg #[.pointer none, .int .u32 0, .int .u32 0, .int .u32 0, .int .u32 0, .int .u32 0, .int .u32 0, .int .u32 0, .int .u32 0, .int .u32 0, .int .u32 0, .int .u32 0, .int .u32 0, .int .u32 0, .int .u32 0, .int .u32 0, .int .u32 0, .int .u32 0, .bool false, .bool false, .int .u32 0, .int .u32 0, .int .u32 0, .int .u32 0, .int .i64 0, .pointer none, .int .i64 0, .bool false, .slice none 0 0]) Tryz.underlying45 ⟨_, rfl, (by kernel_rfl), fun f hf => by
    simp only [List.mem_cons, List.not_mem_nil, or_false] at hf
    rcases hf with rfl | rfl | rfl | rfl | rfl | rfl | rfl
    · exact ⟨Tryz.t30, by kernel_rfl, by kernel_rfl, Nat.le_of_ble_eq_true (by kernel_rfl)⟩
    · exact ⟨Tryz.t27, by kernel_rfl, by kernel_rfl, Nat.le_of_ble_eq_true (by kernel_rfl)⟩
    · exact ⟨Tryz.t3, by kernel_rfl, by kernel_rfl, Nat.le_of_ble_eq_true (by kernel_rfl)⟩
    · exact ⟨Tryz.t42, by kernel_rfl, by kernel_rfl, Nat.le_of_ble_eq_true (by kernel_rfl)⟩
    · exact ⟨Tryz.t2, by kernel_rfl, by kernel_rfl, Nat.le_of_ble_eq_true (by kernel_rfl)⟩
    · exact ⟨Tryz.t4, by kernel_rfl, by kernel_rfl, Nat.le_of_ble_eq_true (by kernel_rfl)⟩
    · exact ⟨Tryz.t43, by kernel_rfl, by kernel_rfl, Nat.le_of_ble_eq_true (by kernel_rfl)⟩⟩ (by kernel_rfl) (by kernel_rfl) (by kernel_rfl) (by kernel_rfl)
def ti54 : TI := ⟨.func, 1, 8, .nilFunc, none⟩
theorem ti54_ok : TiOk Tryz.prog 54 ti54 := ti_mk (i := Tryz.t54) (z := .nilFunc) Tryz.underlying54 ⟨_, _, _, rfl⟩ (by kernel_rfl) (by kernel_rfl) (by kernel_rfl) (by kernel_rfl)
def ti58 : TI := ⟨.struct [(0, 3, 1), (1, 4, 1), (2, 4, 1), (3, 4, 1)], 4, 16, .agg [.int .i64 (.lit 0), .bool (.lit false), .bool (.lit false), .bool (.lit false)], some (.flat (.int .i64) [.bool, .bool, .bool])⟩
theorem ti58_ok : TiOk Tryz.prog 58 ti58 := ti_mk (i := Tryz.t58) (z := .agg #[.int .i64 0, .bool false, .bool false, .bool false]) Tryz.underlying58 ⟨_, rfl, (by kernel_rfl), fun f hf => by
    simp only [List.mem_cons, List.not_mem_nil, or_false] at hf
    rcases hf with rfl | rfl | rfl | rfl
    · exact ⟨Tryz.t3, by kernel_rfl, by kernel_rfl, Nat.le_of_ble_eq_true (by kernel_rfl)⟩
    · exact ⟨Tryz.t4, by kernel_rfl, by kernel_rfl, Nat.le_of_ble_eq_true (by kernel_rfl)⟩
    · exact ⟨Tryz.t4, by kernel_rfl, by kernel_rfl, Nat.le_of_ble_eq_true (by kernel_rfl)⟩
    · exact ⟨Tryz.t4, by kernel_rfl, by kernel_rfl, Nat.le_of_ble_eq_true (by kernel_rfl)⟩⟩ (by kernel_rfl) (by kernel_rfl) (by kernel_rfl) (by kernel_rfl)
def ti60 : TI := ⟨.ptr 63, 1, 8, .nilptr, none⟩
theorem ti60_ok : TiOk Tryz.prog 60 ti60 := ti_mk (i := Tryz.t60) (z := .pointer none) Tryz.underlying60 rfl (by kernel_rfl) (by kernel_rfl) (by kernel_rfl) (by kernel_rfl)
def ti61 : TI := ⟨.slice 118, 1, 24, .nilslice, none⟩
theorem ti61_ok : TiOk Tryz.prog 61 ti61 := ti_mk (i := Tryz.t61) (z := .slice none 0 0) Tryz.underlying61 rfl (by kernel_rfl) (by kernel_rfl) (by kernel_rfl) (by kernel_rfl)
def ti63 : TI := ⟨.struct [(0, 22, 1), (1, 24, 16), (17, 4, 1), (18, 2, 1), (19, 61, 1)], 20, 128, .agg [.nilslice, .arr .u32 16 (List.replicate 16 0), .bool (.lit false), .int .i64 (.lit 0), .nilslice], none⟩
theorem ti63_ok : TiOk Tryz.prog 63 ti63 := ti_mk (i := Tryz.t63) (z := .agg #[.slice none 0 0, .int .u32 0, .int .u32 0, .int .u32 0, .int .u32 0, .int .u32 0, .int .u32 0, .int .u32 0, .int .u32 0, .int .u32 0, .int .u32 0, .int .u32 0, .int .u32 0, .int .u32 0, .int .u32 0, .int .u32 0, .int .u32 0, .bool false, .int .i64 0, .slice none 0 0]) Tryz.underlying63 ⟨_, rfl, (by kernel_rfl), fun f hf => by
    simp only [List.mem_cons, List.not_mem_nil, or_false] at hf
    rcases hf with rfl | rfl | rfl | rfl | rfl
    · exact ⟨Tryz.t22, by kernel_rfl, by kernel_rfl, Nat.le_of_ble_eq_true (by kernel_rfl)⟩
    · exact ⟨Tryz.t24, by kernel_rfl, by kernel_rfl, Nat.le_of_ble_eq_true (by kernel_rfl)⟩
    · exact ⟨Tryz.t4, by kernel_rfl, by kernel_rfl, Nat.le_of_ble_eq_true (by kernel_rfl)⟩
    · exact ⟨Tryz.t2, by kernel_rfl, by kernel_rfl, Nat.le_of_ble_eq_true (by kernel_rfl)⟩
    · exact ⟨Tryz.t61, by kernel_rfl, by kernel_rfl, Nat.le_of_ble_eq_true (by kernel_rfl)⟩⟩ (by kernel_rfl) (by kernel_rfl) (by kernel_rfl) (by kernel_rfl)
def ti64 : TI := ⟨.slice 161, 1, 24, .nilslice, none⟩
theorem ti64_ok : TiOk Tryz.prog 64 ti64 := ti_mk (i := Tryz.t64) (z := .slice none 0 0) Tryz.underlying64 rfl (by kernel_rfl) (by kernel_rfl) (by kernel_rfl) (by kernel_rfl)
def ti66 : TI := ⟨.struct [(0, 29, 1), (1, 27, 23), (24, 60, 1), (25, 3, 1), (26, 2, 1), (27, 4, 1), (28, 64, 1)], 29, 152, .agg [.nilptr, .arr .u32 16 (List.replicate 16 0), .int .u32 (.lit 0), .bool (.lit false), .bool (.lit false), .int .u32 (.lit 0), .int .u32 (.lit 0), .int .u32 (.lit 0), .int .u32 (.lit 0), .nilptr, .int .i64 (.lit 0), .int .i64 (.lit 0), .bool (.lit false), .nilslice], none⟩
theorem ti66_ok : TiOk Tryz.prog 66 ti66 := ti_mk (i := Tryz.t66) (z := .agg #[.pointer none, .int .u32 0, .int .u32 0, .int .u32 0, .int .u32 0, .int .u32 0, .int .u32 0, .int .u32 0, .int .u32 0, .int .u32 0, .int .u32 0, .int .u32 0, .int .u32 0, .int .u32 0, .int .u32 0, .int .u32 0, .int .u32 0, .int .u32 0, .bool false, .bool false, .int .u32 0, .int .u32 0, .int .u32 0, .int .u32 0, .pointer none, .int .i64 0, .int .i64 0, .bool false, .slice none 0 0]) Tryz.underlying66 ⟨_, rfl, (by kernel_rfl), fun f hf => by
    simp only [List.mem_cons, List.not_mem_nil, or_false] at hf
    rcases hf with rfl | rfl | rfl | rfl | rfl | rfl | rfl
    · exact ⟨Tryz.t29, by kernel_rfl, by kernel_rfl, Nat.le_of_ble_eq_true (by kernel_rfl)⟩
    · exact ⟨Tryz.t27, by kernel_rfl, by kernel_rfl, Nat.le_of_ble_eq_true (by kernel_rfl)⟩
    · exact ⟨Tryz.t60, by kernel_rfl, by kernel_rfl, Nat.le_of_ble_eq_true (by kernel_rfl)⟩
    · exact ⟨Tryz.t3, by kernel_rfl, by kernel_rfl, Nat.le_of_ble_eq_true (by kernel_rfl)⟩
    · exact ⟨Tryz.t2, by kernel_rfl, by kernel_rfl, Nat.le_of_ble_eq_true (by kernel_rfl)⟩
    · exact ⟨Tryz.t4, by kernel_rfl, by kernel_rfl, Nat.le_of_ble_eq_true (by kernel_rfl)⟩
    · exact ⟨Tryz.t64, by kernel_rfl, by kernel_rfl, Nat.le_of_ble_eq_true (by kernel_rfl)⟩⟩ (by kernel_rfl) (by kernel_rfl) (by kernel_rfl) (by kernel_rfl)
def ti69 : TI := ⟨.struct [(0, 3, 1), (1, 4, 1), (2, 3, 1)], 3, 24, .agg [.int .i64 (.lit 0), .bool (.lit false), .int .i64 (.lit 0)], some (.flat (.int .i64) [.bool, .int .i64])⟩
theorem ti69_ok : TiOk Tryz.prog 69 ti69 := ti_mk (i := Tryz.t69) (z := .agg #[.int .i64 0, .bool false, .int .i64 0]) Tryz.underlying69 ⟨_, rfl, (by kernel_rfl), fun f hf => by
    simp only [List.mem_cons, List.not_mem_nil, or_false] at hf
    rcases hf with rfl | rfl | rfl
    · exact ⟨Tryz.t3, by kernel_rfl, by kernel_rfl, Nat.le_of_ble_eq_true (by kernel_rfl)⟩
    · exact ⟨Tryz.t4, by kernel_rfl, by kernel_rfl, Nat.le_of_ble_eq_true (by kernel_rfl)⟩
    · exact ⟨Tryz.t3, by kernel_rfl, by kernel_rfl, Nat.le_of_ble_eq_true (by kernel_rfl)⟩⟩ (by kernel_rfl) (by kernel_rfl) (by kernel_rfl) (by kernel_rfl)
def ti73 : TI := ⟨.struct [(0, 22, 1), (1, 61, 1), (2, 24, 16), (18, 2, 1), (19, 4, 1)], 20, 128, .agg [.nilslice, .nilslice, .arr .u32 16 (List.replicate 16 0), .int .i64 (.lit 0), .bool (.lit false)], none⟩
theorem ti73_ok : TiOk Tryz.prog 73 ti73 := ti_mk (i := Tryz.t73) (z := .agg #[.slice none 0 0, .slice none 0 0, .int .u32 0, .int .u32 0, .int .u32 0, .int .u32 0, .int .u32 0, .int .u32 0, .int .u32 0, .int .u32 0, .int .u32 0, .int .u32 0, .int .u32 0, .int .u32 0, .int .u32 0, .int .u32 0, .int .u32 0, .int .u32 0, .int .i64 0, .bool false]) Tryz.underlying73 ⟨_, rfl, (by kernel_rfl), fun f hf => by
    simp only [List.mem_cons, List.not_mem_nil, or_false] at hf
    rcases hf with rfl | rfl | rfl | rfl | rfl
    · exact ⟨Tryz.t22, by kernel_rfl, by kernel_rfl, Nat.le_of_ble_eq_true (by kernel_rfl)⟩
    · exact ⟨Tryz.t61, by kernel_rfl, by kernel_rfl, Nat.le_of_ble_eq_true (by kernel_rfl)⟩
    · exact ⟨Tryz.t24, by kernel_rfl, by kernel_rfl, Nat.le_of_ble_eq_true (by kernel_rfl)⟩
    · exact ⟨Tryz.t2, by kernel_rfl, by kernel_rfl, Nat.le_of_ble_eq_true (by kernel_rfl)⟩
    · exact ⟨Tryz.t4, by kernel_rfl, by kernel_rfl, Nat.le_of_ble_eq_true (by kernel_rfl)⟩⟩ (by kernel_rfl) (by kernel_rfl) (by kernel_rfl) (by kernel_rfl)
def ti77 : TI := ⟨.struct [(0, 3, 1), (1, 3, 1), (2, 3, 1), (3, 3, 1), (4, 23, 1)], 5, 40, .agg [.int .i64 (.lit 0), .int .i64 (.lit 0), .int .i64 (.lit 0), .int .i64 (.lit 0), .int .u32 (.lit 0)], some (.instr)⟩
theorem ti77_ok : TiOk Tryz.prog 77 ti77 := ti_mk (i := Tryz.t77) (z := .agg #[.int .i64 0, .int .i64 0, .int .i64 0, .int .i64 0, .int .u32 0]) Tryz.underlying77 ⟨_, rfl, (by kernel_rfl), fun f hf => by
    simp only [List.mem_cons, List.not_mem_nil, or_false] at hf
    rcases hf with rfl | rfl | rfl | rfl | rfl
    · exact ⟨Tryz.t3, by kernel_rfl, by kernel_rfl, Nat.le_of_ble_eq_true (by kernel_rfl)⟩
    · exact ⟨Tryz.t3, by kernel_rfl, by kernel_rfl, Nat.le_of_ble_eq_true (by kernel_rfl)⟩
    · exact ⟨Tryz.t3, by kernel_rfl, by kernel_rfl, Nat.le_of_ble_eq_true (by kernel_rfl)⟩
    · exact ⟨Tryz.t3, by kernel_rfl, by kernel_rfl, Nat.le_of_ble_eq_true (by kernel_rfl)⟩
    · exact ⟨Tryz.t23, by kernel_rfl, by kernel_rfl, Nat.le_of_ble_eq_true (by kernel_rfl)⟩⟩ (by kernel_rfl) (by kernel_rfl) (by kernel_rfl) (by kernel_rfl)
def ti79 : TI := ⟨.struct [(0, 3, 1), (1, 23, 1), (2, 77, 5), (7, 23, 1)], 8, 64, .agg [.int .i64 (.lit 0), .int .u32 (.lit 0), .int .i64 (.lit 0), .int .i64 (.lit 0), .int .i64 (.lit 0), .int .i64 (.lit 0), .int .u32 (.lit 0), .int .u32 (.lit 0)], none⟩
theorem ti79_ok : TiOk Tryz.prog 79 ti79 := ti_mk (i := Tryz.t79) (z := .agg #[.int .i64 0, .int .u32 0, .int .i64 0, .int .i64 0, .int .i64 0, .int .i64 0, .int .u32 0, .int .u32 0]) Tryz.underlying79 ⟨_, rfl, (by kernel_rfl), fun f hf => by
    simp only [List.mem_cons, List.not_mem_nil, or_false] at hf
    rcases hf with rfl | rfl | rfl | rfl
    · exact ⟨Tryz.t3, by kernel_rfl, by kernel_rfl, Nat.le_of_ble_eq_true (by kernel_rfl)⟩
    · exact ⟨Tryz.t23, by kernel_rfl, by kernel_rfl, Nat.le_of_ble_eq_true (by kernel_rfl)⟩
    · exact ⟨Tryz.t77, by kernel_rfl, by kernel_rfl, Nat.le_of_ble_eq_true (by kernel_rfl)⟩
    · exact ⟨Tryz.t23, by kernel_rfl, by kernel_rfl, Nat.le_of_ble_eq_true (by kernel_rfl)⟩⟩ (by kernel_rfl) (by kernel_rfl) (by kernel_rfl) (by kernel_rfl)
def ti87 : TI := ⟨.struct [(0, 3, 1), (1, 23, 1), (2, 77, 5), (7, 23, 1)], 8, 64, .agg [.int .i64 (.lit 0), .int .u32 (.lit 0), .int .i64 (.lit 0), .int .i64 (.lit 0), .int .i64 (.lit 0), .int .i64 (.lit 0), .int .u32 (.lit 0), .int .u32 (.lit 0)], none⟩
theorem ti87_ok : TiOk Tryz.prog 87 ti87 := ti_mk (i := Tryz.t87) (z := .agg #[.int .i64 0, .int .u32 0, .int .i64 0, .int .i64 0, .int .i64 0, .int .i64 0, .int .u32 0, .int .u32 0]) Tryz.underlying87 ⟨_, rfl, (by kernel_rfl), fun f hf => by
    simp only [List.mem_cons, List.not_mem_nil, or_false] at hf
    rcases hf with rfl | rfl | rfl | rfl
    · exact ⟨Tryz.t3, by kernel_rfl, by kernel_rfl, Nat.le_of_ble_eq_true (by kernel_rfl)⟩
    · exact ⟨Tryz.t23, by kernel_rfl, by kernel_rfl, Nat.le_of_ble_eq_true (by kernel_rfl)⟩
    · exact ⟨Tryz.t77, by kernel_rfl, by kernel_rfl, Nat.le_of_ble_eq_true (by kernel_rfl)⟩
    · exact ⟨Tryz.t23, by kernel_rfl, by kernel_rfl, Nat.le_of_ble_eq_true (by kernel_rfl)⟩⟩ (by kernel_rfl) (by kernel_rfl) (by kernel_rfl) (by kernel_rfl)
def ti91 : TI := ⟨.ptr 27, 1, 8, .nilptr, none⟩
theorem ti91_ok : TiOk Tryz.prog 91 ti91 := ti_mk (i := Tryz.t91) (z := .pointer none) Tryz.underlying91 rfl (by kernel_rfl) (by kernel_rfl) (by kernel_rfl) (by kernel_rfl)
def ti94 : TI := ⟨.struct [(0, 3, 1), (1, 23, 1)], 2, 16, .agg [.int .i64 (.lit 0), .int .u32 (.lit 0)], some (.flat (.int .i64) [.int .u32])⟩
theorem ti94_ok : TiOk Tryz.prog 94 ti94 := ti_mk (i := Tryz.t94) (z := .agg #[.int .i64 0, .int .u32 0]) Tryz.underlying94 ⟨_, rfl, (by kernel_rfl), fun f hf => by
    simp only [List.mem_cons, List.not_mem_nil, or_false] at hf
    rcases hf with rfl | rfl
    · exact ⟨Tryz.t3, by kernel_rfl, by kernel_rfl, Nat.le_of_ble_eq_true (by kernel_rfl)⟩
    · exact ⟨Tryz.t23, by kernel_rfl, by kernel_rfl, Nat.le_of_ble_eq_true (by kernel_rfl)⟩⟩ (by kernel_rfl) (by kernel_rfl) (by kernel_rfl) (by kernel_rfl)
def ti109 : TI := ⟨.struct [(0, 22, 1)], 1, 24, .agg [.nilslice], none⟩
theorem ti109_ok : TiOk Tryz.prog 109 ti109 := ti_mk (i := Tryz.t109) (z := .agg #[.slice none 0 0]) Tryz.underlying109 ⟨_, rfl, (by kernel_rfl), fun f hf => by
    simp only [List.mem_cons, List.not_mem_nil, or_false] at hf
    subst hf
    · exact ⟨Tryz.t22, by kernel_rfl, by kernel_rfl, Nat.le_of_ble_eq_true (by kernel_rfl)⟩⟩ (by kernel_rfl) (by kernel_rfl) (by kernel_rfl) (by kernel_rfl)
def ti111 : TI := ⟨.struct [(0, 22, 1)], 1, 24, .agg [.nilslice], none⟩
theorem ti111_ok : TiOk Tryz.prog 111 ti111 := ti_mk (i := Tryz.t111) (z := .agg #[.slice none 0 0]) Tryz.underlying111 ⟨_, rfl, (by kernel_rfl), fun f hf => by
    simp only [List.mem_cons, List.not_mem_nil, or_false] at hf
    subst hf
    · exact ⟨Tryz.t22, by kernel_rfl, by kernel_rfl, Nat.le_of_ble_eq_true (by kernel_rfl)⟩⟩ (by kernel_rfl) (by kernel_rfl) (by kernel_rfl) (by kernel_rfl)
def ti118 : TI := ⟨.struct [(0, 3, 1), (1, 23, 1), (2, 23, 1)], 3, 16, .agg [.int .i64 (.lit 0), .int .u32 (.lit 0), .int .u32 (.lit 0)], some (.flat (.int .i64) [.int .u32, .int .u32])⟩
theorem ti118_ok : TiOk Tryz.prog 118 ti118 := ti_mk (i := Tryz.t118) (z := .agg #[.int .i64 0, .int .u32 0, .int .u32 0]) Tryz.underlying118 ⟨_, rfl, (by kernel_rfl), fun f hf => by
    simp only [List.mem_cons, List.not_mem_nil, or_false] at hf
    rcases hf with rfl | rfl | rfl
    · exact ⟨Tryz.t3, by kernel_rfl, by kernel_rfl, Nat.le_of_ble_eq_true (by kernel_rfl)⟩
    · exact ⟨Tryz.t23, by kernel_rfl, by kernel_rfl, Nat.le_of_ble_eq_true (by kernel_rfl)⟩
    · exact ⟨Tryz.t23, by kernel_rfl, by kernel_rfl, Nat.le_of_ble_eq_true (by kernel_rfl)⟩⟩ (by kernel_rfl) (by kernel_rfl) (by kernel_rfl) (by kernel_rfl)
def ti122 : TI := ⟨.func, 1, 8, .nilFunc, none⟩
theorem ti122_ok : TiOk Tryz.prog 122 ti122 := ti_mk (i := Tryz.t122) (z := .nilFunc) Tryz.underlying122 ⟨_, _, _, rfl⟩ (by kernel_rfl) (by kernel_rfl) (by kernel_rfl) (by kernel_rfl)
def ti124 : TI := ⟨.struct [], 0, 0, .agg [], none⟩
theorem ti124_ok : TiOk Tryz.prog 124 ti124 := ti_mk (i := Tryz.t124) (z := .agg #[]) Tryz.underlying124 ⟨_, rfl, (by kernel_rfl), fun f hf => by
    simp at hf⟩ (by kernel_rfl) (by kernel_rfl) (by kernel_rfl) (by kernel_rfl)
def ti138 : TI := ⟨.func, 1, 8, .nilFunc, none⟩
theorem ti138_ok : TiOk Tryz.prog 138 ti138 := ti_mk (i := Tryz.t138) (z := .nilFunc) Tryz.underlying138 ⟨_, _, _, rfl⟩ (by kernel_rfl) (by kernel_rfl) (by kernel_rfl) (by kernel_rfl)
def ti148 : TI := ⟨.func, 1, 8, .nilFunc, none⟩
theorem ti148_ok : TiOk Tryz.prog 148 ti148 := ti_mk (i := Tryz.t148) (z := .nilFunc) Tryz.underlying148 ⟨_, _, _, rfl⟩ (by kernel_rfl) (by kernel_rfl) (by kernel_rfl) (by kernel_rfl)
def ti150 : TI := ⟨.ptr 154, 1, 8, .nilptr, none⟩
theorem ti150_ok : TiOk Tryz.prog 150 ti150 := ti_mk (i := Tryz.t150) (z := .pointer none) Tryz.underlying150 rfl (by kernel_rfl) (by kernel_rfl) (by kernel_rfl) (by kernel_rfl)
def ti154 : TI := ⟨.struct [(0, 3, 1), (1, 35, 1)], 2, 24, .agg [.int .i64 (.lit 0), .nilIface], none⟩
theorem ti154_ok : TiOk Tryz.prog 154 ti154 := ti_mk (i := Tryz.t154) (z := .agg #[.int .i64 0, .nilIface]) Tryz.underlying154 ⟨_, rfl, (by kernel_rfl), fun f hf => by
    simp only [List.mem_cons, List.not_mem_nil, or_false] at hf
    rcases hf with rfl | rfl
    · exact ⟨Tryz.t3, by kernel_rfl, by kernel_rfl, Nat.le_of_ble_eq_true (by kernel_rfl)⟩
    · exact ⟨Tryz.t35, by kernel_rfl, by kernel_rfl, Nat.le_of_ble_eq_true (by kernel_rfl)⟩⟩ (by kernel_rfl) (by kernel_rfl) (by kernel_rfl) (by kernel_rfl)
def ti161 : TI := ⟨.struct [(0, 3, 1), (1, 23, 1)], 2, 16, .agg [.int .i64 (.lit 0), .int .u32 (.lit 0)], some (.flat (.int .i64) [.int .u32])⟩
theorem ti161_ok : TiOk Tryz.prog 161 ti161 := ti_mk (i := Tryz.t161) (z := .agg #[.int .i64 0, .int .u32 0]) Tryz.underlying161 ⟨_, rfl, (by kernel_rfl), fun f hf => by
    simp only [List.mem_cons, List.not_mem_nil, or_false] at hf
    rcases hf with rfl | rfl
    · exact ⟨Tryz.t3, by kernel_rfl, by kernel_rfl, Nat.le_of_ble_eq_true (by kernel_rfl)⟩
    · exact ⟨Tryz.t23, by kernel_rfl, by kernel_rfl, Nat.le_of_ble_eq_true (by kernel_rfl)⟩⟩ (by kernel_rfl) (by kernel_rfl) (by kernel_rfl) (by kernel_rfl)
def ti165 : TI := ⟨.slice 35, 1, 24, .nilslice, none⟩
theorem ti165_ok : TiOk Tryz.prog 165 ti165 := ti_mk (i := Tryz.t165) (z := .slice none 0 0) Tryz.underlying165 rfl (by kernel_rfl) (by kernel_rfl) (by kernel_rfl) (by kernel_rfl)
def ti168 : TI := ⟨.func, 1, 8, .nilFunc, none⟩
theorem ti168_ok : TiOk Tryz.prog 168 ti168 := ti_mk (i := Tryz.t168) (z := .nilFunc) Tryz.underlying168 ⟨_, _, _, rfl⟩ (by kernel_rfl) (by kernel_rfl) (by kernel_rfl) (by kernel_rfl)
def ti171 : TI := ⟨.struct [(0, 23, 1), (1, 23, 1)], 2, 8, .agg [.int .u32 (.lit 0), .int .u32 (.lit 0)], some (.flat (.int .u32) [.int .u32])⟩
theorem ti171_ok : TiOk Tryz.prog 171 ti171 := ti_mk (i := Tryz.t171) (z := .agg #[.int .u32 0, .int .u32 0]) Tryz.underlying171 ⟨_, rfl, (by kernel_rfl), fun f hf => by
    simp only [List.mem_cons, List.not_mem_nil, or_false] at hf
    rcases hf with rfl | rfl
    · exact ⟨Tryz.t23, by kernel_rfl, by kernel_rfl, Nat.le_of_ble_eq_true (by kernel_rfl)⟩
    · exact ⟨Tryz.t23, by kernel_rfl, by kernel_rfl, Nat.le_of_ble_eq_true (by kernel_rfl)⟩⟩ (by kernel_rfl) (by kernel_rfl) (by kernel_rfl) (by kernel_rfl)
def ti180 : TI := ⟨.int .i8, 1, 1, .int .i8 (.lit 0), none⟩
theorem ti180_ok : TiOk Tryz.prog 180 ti180 := ti_mk (i := Tryz.t180) (z := .int .i8 0) Tryz.underlying180 rfl (by kernel_rfl) (by kernel_rfl) (by kernel_rfl) (by kernel_rfl)
def ti181 : TI := ⟨.slice 138, 1, 24, .nilslice, none⟩
theorem ti181_ok : TiOk Tryz.prog 181 ti181 := ti_mk (i := Tryz.t181) (z := .slice none 0 0) Tryz.underlying181 rfl (by kernel_rfl) (by kernel_rfl) (by kernel_rfl) (by kernel_rfl)
def ti182 : TI := ⟨.slice 4, 1, 24, .nilslice, none⟩
theorem ti182_ok : TiOk Tryz.prog 182 ti182 := ti_mk (i := Tryz.t182) (z := .slice none 0 0) Tryz.underlying182 rfl (by kernel_rfl) (by kernel_rfl) (by kernel_rfl) (by kernel_rfl)
def ti183 : TI := ⟨.slice 3, 1, 24, .nilslice, none⟩
theorem ti183_ok : TiOk Tryz.prog 183 ti183 := ti_mk (i := Tryz.t183) (z := .slice none 0 0) Tryz.underlying183 rfl (by kernel_rfl) (by kernel_rfl) (by kernel_rfl) (by kernel_rfl)
def tab : List (Nat × TI) := [(1, ti1), (2, ti2), (3, ti3), (4, ti4), (9, ti9), (19, ti19), (22, ti22), (23, ti23), (24, ti24), (25, ti25), (27, ti27), (29, ti29), (30, ti30), (33, ti33), (35, ti35), (39, ti39), (42, ti42), (43, ti43), (45, ti45), (54, ti54), (58, ti58), (60, ti60), (61, ti61), (63, ti63), (64, ti64), (66, ti66), (69, ti69), (73, ti73), (77, ti77), (79, ti79), (87, ti87), (91, ti91), (94, ti94), (109, ti109), (111, ti111), (118, ti118), (122, ti122), (124, ti124), (138, ti138), (148, ti148), (150, ti150), (154, ti154), (161, ti161), (165, ti165), (168, ti168), (171, ti171), (180, ti180), (181, ti181), (182, ti182), (183, ti183)]
theorem tab_ok : ∀ t ti, find t tab = some ti → TiOk Tryz.prog t ti := by
  intro t ti h
  have h := find_mem h
  simp only [tab, List.mem_cons, Prod.mk.injEq, List.not_mem_nil, or_false] at h
  rcases h with ⟨rfl, rfl⟩ | ⟨rfl, rfl⟩ | ⟨rfl, rfl⟩ | ⟨rfl, rfl⟩ | ⟨rfl, rfl⟩ | ⟨rfl, rfl⟩ | ⟨rfl, rfl⟩ | ⟨rfl, rfl⟩ | ⟨rfl, rfl⟩ | ⟨rfl, rfl⟩ | ⟨rfl, rfl⟩ | ⟨rfl, rfl⟩ | ⟨rfl, rfl⟩ | ⟨rfl, rfl⟩ | ⟨rfl, rfl⟩ | ⟨rfl, rfl⟩ | ⟨rfl, rfl⟩ | ⟨rfl, rfl⟩ | ⟨rfl, rfl⟩ | ⟨rfl, rfl⟩ | ⟨rfl, rfl⟩ | ⟨rfl, rfl⟩ | ⟨rfl, rfl⟩ | ⟨rfl, rfl⟩ | ⟨rfl, rfl⟩ | ⟨rfl, rfl⟩ | ⟨rfl, rfl⟩ | ⟨rfl, rfl⟩ | ⟨rfl, rfl⟩ | ⟨rfl, rfl⟩ | ⟨rfl, rfl⟩ | ⟨rfl, rfl⟩ | ⟨rfl, rfl⟩ | ⟨rfl, rfl⟩ | ⟨rfl, rfl⟩ | ⟨rfl, rfl⟩ | ⟨rfl, rfl⟩ | ⟨rfl, rfl⟩ | ⟨rfl, rfl⟩ | ⟨rfl, rfl⟩ | ⟨rfl, rfl⟩ | ⟨rfl, rfl⟩ | ⟨rfl, rfl⟩ | ⟨rfl, rfl⟩ | ⟨rfl, rfl⟩ | ⟨rfl, rfl⟩ | ⟨rfl, rfl⟩ | ⟨rfl, rfl⟩ | ⟨rfl, rfl⟩ | ⟨rfl, rfl⟩
  · exact ti1_ok
  · exact ti2_ok
  · exact ti3_ok
  · exact ti4_ok
  · exact ti9_ok
  · exact ti19_ok
  · exact ti22_ok
  · exact ti23_ok
  · exact ti24_ok
  · exact ti25_ok
  · exact ti27_ok
  · exact ti29_ok
  · exact ti30_ok
  · exact ti33_ok
  · exact ti35_ok
  · exact ti39_ok
  · exact ti42_ok
  · exact ti43_ok
  · exact ti45_ok
  · exact ti54_ok
  · exact ti58_ok
  · exact ti60_ok
  · exact ti61_ok
  · exact ti63_ok
  · exact ti64_ok
  · exact ti66_ok
  · exact ti69_ok
  · exact ti73_ok
  · exact ti77_ok
  · exact ti79_ok
  · exact ti87_ok
  · exact ti91_ok
  · exact ti94_ok
  · exact ti109_ok
  · exact ti111_ok
  · exact ti118_ok
  · exact ti122_ok
  · exact ti124_ok
  · exact ti138_ok
  · exact ti148_ok
  · exact ti150_ok
  · exact ti154_ok
  · exact ti161_ok
  · exact ti165_ok
  · exact ti168_ok
  · exact ti171_ok
  · exact ti180_ok
  · exact ti181_ok
  · exact ti182_ok
  · exact ti183_ok
end Go.Proofs.YtpjccdncokamlaaGreatDoor

