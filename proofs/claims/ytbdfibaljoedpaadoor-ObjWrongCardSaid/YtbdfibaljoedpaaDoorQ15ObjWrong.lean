/- Part 15 of the proof of ObjWrong: words and contracts that the last text uses. -/
import Derived.Test.YtbdfibaljoedpaaDoorQ14ObjWrong
import Derived.Test.YtbdfibaljoedpaaDoorRows
import Derived.Laws.BitsLemmas
set_option linter.unusedVariables false
set_option linter.unusedSimpArgs false
namespace Go.Proofs.YtbdfibaljoedpaaDoor
open Go.RowKit Go.Sy
def ti1 : TI := ⟨.func, 1, 8, .nilFunc, none⟩
theorem ti1_ok : TiOk Tryd.prog 1 ti1 := ti_mk (i := Tryd.t1) (z := .nilFunc) Tryd.underlying1 ⟨_, _, _, rfl⟩ (by kernel_rfl) (by kernel_rfl) (by kernel_rfl) (by kernel_rfl)
def ti2 : TI := ⟨.int .i64, 1, 8, .int .i64 (.lit 0), none⟩
theorem ti2_ok : TiOk Tryd.prog 2 ti2 := ti_mk (i := Tryd.t2) (z := .int .i64 0) Tryd.underlying2 rfl (by kernel_rfl) (by kernel_rfl) (by kernel_rfl) (by kernel_rfl)
def ti3 : TI := ⟨.int .i64, 1, 8, .int .i64 (.lit 0), some .i64⟩
theorem ti3_ok : TiOk Tryd.prog 3 ti3 := ti_mk (i := Tryd.t3) (z := .int .i64 0) Tryd.underlying3 rfl (by kernel_rfl) (by kernel_rfl) (by kernel_rfl) (by kernel_rfl)
def ti4 : TI := ⟨.bool, 1, 1, .bool (.lit false), some .bool⟩
theorem ti4_ok : TiOk Tryd.prog 4 ti4 := ti_mk (i := Tryd.t4) (z := .bool false) Tryd.underlying4 rfl (by kernel_rfl) (by kernel_rfl) (by kernel_rfl) (by kernel_rfl)
def ti5 : TI := ⟨.int .u8, 1, 1, .int .u8 (.lit 0), some .u8⟩
theorem ti5_ok : TiOk Tryd.prog 5 ti5 := ti_mk (i := Tryd.t5) (z := .int .u8 0) Tryd.underlying5 rfl (by kernel_rfl) (by kernel_rfl) (by kernel_rfl) (by kernel_rfl)
def ti9 : TI := ⟨.str, 1, 16, .str ByteArray.empty, some .str⟩
theorem ti9_ok : TiOk Tryd.prog 9 ti9 := ti_mk (i := Tryd.t9) (z := .string ByteArray.empty) Tryd.underlying9 rfl (by kernel_rfl) (by kernel_rfl) (by kernel_rfl) (by kernel_rfl)
def ti12 : TI := ⟨.int .u64, 1, 8, .int .u64 (.lit 0), none⟩
theorem ti12_ok : TiOk Tryd.prog 12 ti12 := ti_mk (i := Tryd.t12) (z := .int .u64 0) Tryd.underlying12 rfl (by kernel_rfl) (by kernel_rfl) (by kernel_rfl) (by kernel_rfl)
def ti13 : TI := ⟨.struct [(0, 9, 1), (1, 12, 1)], 2, 24, .agg [.str ByteArray.empty, .int .u64 (.lit 0)], none⟩
theorem ti13_ok : TiOk Tryd.prog 13 ti13 := ti_mk (i := Tryd.t13) (z := .agg #[.string ByteArray.empty, .int .u64 0]) Tryd.underlying13 ⟨_, rfl, (by kernel_rfl), fun f hf => by
    simp only [List.mem_cons, List.not_mem_nil, or_false] at hf
    rcases hf with rfl | rfl
    · exact ⟨Tryd.t9, by kernel_rfl, by kernel_rfl, Nat.le_of_ble_eq_true (by kernel_rfl)⟩
    · exact ⟨Tryd.t12, by kernel_rfl, by kernel_rfl, Nat.le_of_ble_eq_true (by kernel_rfl)⟩⟩ (by kernel_rfl) (by kernel_rfl) (by kernel_rfl) (by kernel_rfl)
def ti19 : TI := ⟨.struct [(0, 17, 1)], 1, 8, .agg [.nilptr], none⟩
theorem ti19_ok : TiOk Tryd.prog 19 ti19 := ti_mk (i := Tryd.t19) (z := .agg #[.pointer none]) Tryd.underlying19 ⟨_, rfl, (by kernel_rfl), fun f hf => by
    simp only [List.mem_cons, List.not_mem_nil, or_false] at hf
    subst hf
    · exact ⟨Tryd.t17, by kernel_rfl, by kernel_rfl, Nat.le_of_ble_eq_true (by kernel_rfl)⟩⟩ (by kernel_rfl) (by kernel_rfl) (by kernel_rfl) (by kernel_rfl)
def ti20 : TI := ⟨.iface, 1, 16, .nilIface, none⟩
theorem ti20_ok : TiOk Tryd.prog 20 ti20 := ti_mk (i := Tryd.t20) (z := .nilIface) Tryd.underlying20 ⟨_, rfl⟩ (by kernel_rfl) (by kernel_rfl) (by kernel_rfl) (by kernel_rfl)
def ti21 : TI := ⟨.int .i32, 1, 4, .int .i32 (.lit 0), none⟩
theorem ti21_ok : TiOk Tryd.prog 21 ti21 := ti_mk (i := Tryd.t21) (z := .int .i32 0) Tryd.underlying21 rfl (by kernel_rfl) (by kernel_rfl) (by kernel_rfl) (by kernel_rfl)
def ti22 : TI := ⟨.slice 36, 1, 24, .nilslice, none⟩
theorem ti22_ok : TiOk Tryd.prog 22 ti22 := ti_mk (i := Tryd.t22) (z := .slice none 0 0) Tryd.underlying22 rfl (by kernel_rfl) (by kernel_rfl) (by kernel_rfl) (by kernel_rfl)
def ti23 : TI := ⟨.slice 5, 1, 24, .nilslice, none⟩
theorem ti23_ok : TiOk Tryd.prog 23 ti23 := ti_mk (i := Tryd.t23) (z := .slice none 0 0) Tryd.underlying23 rfl (by kernel_rfl) (by kernel_rfl) (by kernel_rfl) (by kernel_rfl)
def ti24 : TI := ⟨.slice 57, 1, 24, .nilslice, none⟩
theorem ti24_ok : TiOk Tryd.prog 24 ti24 := ti_mk (i := Tryd.t24) (z := .slice none 0 0) Tryd.underlying24 rfl (by kernel_rfl) (by kernel_rfl) (by kernel_rfl) (by kernel_rfl)
def ti25 : TI := ⟨.slice 55, 1, 24, .nilslice, none⟩
theorem ti25_ok : TiOk Tryd.prog 25 ti25 := ti_mk (i := Tryd.t25) (z := .slice none 0 0) Tryd.underlying25 rfl (by kernel_rfl) (by kernel_rfl) (by kernel_rfl) (by kernel_rfl)
def ti26 : TI := ⟨.struct [(0, 22, 1), (1, 22, 1), (2, 23, 1), (3, 24, 1), (4, 24, 1), (5, 25, 1)], 6, 144, .agg [.nilslice, .nilslice, .nilslice, .nilslice, .nilslice, .nilslice], none⟩
theorem ti26_ok : TiOk Tryd.prog 26 ti26 := ti_mk (i := Tryd.t26) (z := .agg #[.slice none 0 0, .slice none 0 0, .slice none 0 0, .slice none 0 0, .slice none 0 0, .slice none 0 0]) Tryd.underlying26 ⟨_, rfl, (by kernel_rfl), fun f hf => by
    simp only [List.mem_cons, List.not_mem_nil, or_false] at hf
    rcases hf with rfl | rfl | rfl | rfl | rfl | rfl
    · exact ⟨Tryd.t22, by kernel_rfl, by kernel_rfl, Nat.le_of_ble_eq_true (by kernel_rfl)⟩
    · exact ⟨Tryd.t22, by kernel_rfl, by kernel_rfl, Nat.le_of_ble_eq_true (by kernel_rfl)⟩
    · exact ⟨Tryd.t23, by kernel_rfl, by kernel_rfl, Nat.le_of_ble_eq_true (by kernel_rfl)⟩
    · exact ⟨Tryd.t24, by kernel_rfl, by kernel_rfl, Nat.le_of_ble_eq_true (by kernel_rfl)⟩
    · exact ⟨Tryd.t24, by kernel_rfl, by kernel_rfl, Nat.le_of_ble_eq_true (by kernel_rfl)⟩
    · exact ⟨Tryd.t25, by kernel_rfl, by kernel_rfl, Nat.le_of_ble_eq_true (by kernel_rfl)⟩⟩ (by kernel_rfl) (by kernel_rfl) (by kernel_rfl) (by kernel_rfl)
def ti27 : TI := ⟨.struct [(0, 22, 1), (1, 22, 1), (2, 23, 1), (3, 24, 1), (4, 24, 1), (5, 25, 1)], 6, 144, .agg [.nilslice, .nilslice, .nilslice, .nilslice, .nilslice, .nilslice], none⟩
theorem ti27_ok : TiOk Tryd.prog 27 ti27 := ti_mk (i := Tryd.t27) (z := .agg #[.slice none 0 0, .slice none 0 0, .slice none 0 0, .slice none 0 0, .slice none 0 0, .slice none 0 0]) Tryd.underlying27 ⟨_, rfl, (by kernel_rfl), fun f hf => by
    simp only [List.mem_cons, List.not_mem_nil, or_false] at hf
    rcases hf with rfl | rfl | rfl | rfl | rfl | rfl
    · exact ⟨Tryd.t22, by kernel_rfl, by kernel_rfl, Nat.le_of_ble_eq_true (by kernel_rfl)⟩
    · exact ⟨Tryd.t22, by kernel_rfl, by kernel_rfl, Nat.le_of_ble_eq_true (by kernel_rfl)⟩
    · exact ⟨Tryd.t23, by kernel_rfl, by kernel_rfl, Nat.le_of_ble_eq_true (by kernel_rfl)⟩
    · exact ⟨Tryd.t24, by kernel_rfl, by kernel_rfl, Nat.le_of_ble_eq_true (by kernel_rfl)⟩
    · exact ⟨Tryd.t24, by kernel_rfl, by kernel_rfl, Nat.le_of_ble_eq_true (by kernel_rfl)⟩
    · exact ⟨Tryd.t25, by kernel_rfl, by kernel_rfl, Nat.le_of_ble_eq_true (by kernel_rfl)⟩⟩ (by kernel_rfl) (by kernel_rfl) (by kernel_rfl) (by kernel_rfl)
def ti28 : TI := ⟨.func, 1, 8, .nilFunc, none⟩
theorem ti28_ok : TiOk Tryd.prog 28 ti28 := ti_mk (i := Tryd.t28) (z := .nilFunc) Tryd.underlying28 ⟨_, _, _, rfl⟩ (by kernel_rfl) (by kernel_rfl) (by kernel_rfl) (by kernel_rfl)
def ti29 : TI := ⟨.func, 1, 8, .nilFunc, none⟩
theorem ti29_ok : TiOk Tryd.prog 29 ti29 := ti_mk (i := Tryd.t29) (z := .nilFunc) Tryd.underlying29 ⟨_, _, _, rfl⟩ (by kernel_rfl) (by kernel_rfl) (by kernel_rfl) (by kernel_rfl)
def ti30 : TI := ⟨.slice 41, 1, 24, .nilslice, none⟩
theorem ti30_ok : TiOk Tryd.prog 30 ti30 := ti_mk (i := Tryd.t30) (z := .slice none 0 0) Tryd.underlying30 rfl (by kernel_rfl) (by kernel_rfl) (by kernel_rfl) (by kernel_rfl)
def ti31 : TI := ⟨.iface, 1, 16, .nilIface, none⟩
theorem ti31_ok : TiOk Tryd.prog 31 ti31 := ti_mk (i := Tryd.t31) (z := .nilIface) Tryd.underlying31 ⟨_, rfl⟩ (by kernel_rfl) (by kernel_rfl) (by kernel_rfl) (by kernel_rfl)
def ti32 : TI := ⟨.iface, 1, 16, .nilIface, some .err⟩
theorem ti32_ok : TiOk Tryd.prog 32 ti32 := ti_mk (i := Tryd.t32) (z := .nilIface) Tryd.underlying32 ⟨_, rfl⟩ (by kernel_rfl) (by kernel_rfl) (by kernel_rfl) (by kernel_rfl)
def ti34 : TI := ⟨.func, 1, 8, .nilFunc, none⟩
theorem ti34_ok : TiOk Tryd.prog 34 ti34 := ti_mk (i := Tryd.t34) (z := .nilFunc) Tryd.underlying34 ⟨_, _, _, rfl⟩ (by kernel_rfl) (by kernel_rfl) (by kernel_rfl) (by kernel_rfl)
def ti35 : TI := ⟨.func, 1, 8, .nilFunc, none⟩
theorem ti35_ok : TiOk Tryd.prog 35 ti35 := ti_mk (i := Tryd.t35) (z := .nilFunc) Tryd.underlying35 ⟨_, _, _, rfl⟩ (by kernel_rfl) (by kernel_rfl) (by kernel_rfl) (by kernel_rfl)
def ti36 : TI := ⟨.int .u32, 1, 4, .int .u32 (.lit 0), some .u32⟩
theorem ti36_ok : TiOk Tryd.prog 36 ti36 := ti_mk (i := Tryd.t36) (z := .int .u32 0) Tryd.underlying36 rfl (by kernel_rfl) (by kernel_rfl) (by kernel_rfl) (by kernel_rfl)
def ti37 : TI := ⟨.int .u64, 1, 8, .int .u64 (.lit 0), none⟩
theorem ti37_ok : TiOk Tryd.prog 37 ti37 := ti_mk (i := Tryd.t37) (z := .int .u64 0) Tryd.underlying37 rfl (by kernel_rfl) (by kernel_rfl) (by kernel_rfl) (by kernel_rfl)
def ti38 : TI := ⟨.struct [(0, 3, 1), (1, 3, 1), (2, 3, 1), (3, 3, 1), (4, 36, 1)], 5, 40, .agg [.int .i64 (.lit 0), .int .i64 (.lit 0), .int .i64 (.lit 0), .int .i64 (.lit 0), .int .u32 (.lit 0)], none⟩
theorem ti38_ok : TiOk Tryd.prog 38 ti38 := ti_mk (i := Tryd.t38) (z := .agg #[.int .i64 0, .int .i64 0, .int .i64 0, .int .i64 0, .int .u32 0]) Tryd.underlying38 ⟨_, rfl, (by kernel_rfl), fun f hf => by
    simp only [List.mem_cons, List.not_mem_nil, or_false] at hf
    rcases hf with rfl | rfl | rfl | rfl | rfl
    · exact ⟨Tryd.t3, by kernel_rfl, by kernel_rfl, Nat.le_of_ble_eq_true (by kernel_rfl)⟩
    · exact ⟨Tryd.t3, by kernel_rfl, by kernel_rfl, Nat.le_of_ble_eq_true (by kernel_rfl)⟩
    · exact ⟨Tryd.t3, by kernel_rfl, by kernel_rfl, Nat.le_of_ble_eq_true (by kernel_rfl)⟩
    · exact ⟨Tryd.t3, by kernel_rfl, by kernel_rfl, Nat.le_of_ble_eq_true (by kernel_rfl)⟩
    · exact ⟨Tryd.t36, by kernel_rfl, by kernel_rfl, Nat.le_of_ble_eq_true (by kernel_rfl)⟩⟩ (by kernel_rfl) (by kernel_rfl) (by kernel_rfl) (by kernel_rfl)
def ti39 : TI := ⟨.struct [(0, 3, 1), (1, 3, 1), (2, 3, 1), (3, 3, 1), (4, 36, 1)], 5, 40, .agg [.int .i64 (.lit 0), .int .i64 (.lit 0), .int .i64 (.lit 0), .int .i64 (.lit 0), .int .u32 (.lit 0)], some .instr⟩
theorem ti39_ok : TiOk Tryd.prog 39 ti39 := ti_mk (i := Tryd.t39) (z := .agg #[.int .i64 0, .int .i64 0, .int .i64 0, .int .i64 0, .int .u32 0]) Tryd.underlying39 ⟨_, rfl, (by kernel_rfl), fun f hf => by
    simp only [List.mem_cons, List.not_mem_nil, or_false] at hf
    rcases hf with rfl | rfl | rfl | rfl | rfl
    · exact ⟨Tryd.t3, by kernel_rfl, by kernel_rfl, Nat.le_of_ble_eq_true (by kernel_rfl)⟩
    · exact ⟨Tryd.t3, by kernel_rfl, by kernel_rfl, Nat.le_of_ble_eq_true (by kernel_rfl)⟩
    · exact ⟨Tryd.t3, by kernel_rfl, by kernel_rfl, Nat.le_of_ble_eq_true (by kernel_rfl)⟩
    · exact ⟨Tryd.t3, by kernel_rfl, by kernel_rfl, Nat.le_of_ble_eq_true (by kernel_rfl)⟩
    · exact ⟨Tryd.t36, by kernel_rfl, by kernel_rfl, Nat.le_of_ble_eq_true (by kernel_rfl)⟩⟩ (by kernel_rfl) (by kernel_rfl) (by kernel_rfl) (by kernel_rfl)
def ti40 : TI := ⟨.struct [(0, 3, 1), (1, 3, 1), (2, 39, 5)], 7, 56, .agg [.int .i64 (.lit 0), .int .i64 (.lit 0), .int .i64 (.lit 0), .int .i64 (.lit 0), .int .i64 (.lit 0), .int .i64 (.lit 0), .int .u32 (.lit 0)], none⟩
theorem ti40_ok : TiOk Tryd.prog 40 ti40 := ti_mk (i := Tryd.t40) (z := .agg #[.int .i64 0, .int .i64 0, .int .i64 0, .int .i64 0, .int .i64 0, .int .i64 0, .int .u32 0]) Tryd.underlying40 ⟨_, rfl, (by kernel_rfl), fun f hf => by
    simp only [List.mem_cons, List.not_mem_nil, or_false] at hf
    rcases hf with rfl | rfl | rfl
    · exact ⟨Tryd.t3, by kernel_rfl, by kernel_rfl, Nat.le_of_ble_eq_true (by kernel_rfl)⟩
    · exact ⟨Tryd.t3, by kernel_rfl, by kernel_rfl, Nat.le_of_ble_eq_true (by kernel_rfl)⟩
    · exact ⟨Tryd.t39, by kernel_rfl, by kernel_rfl, Nat.le_of_ble_eq_true (by kernel_rfl)⟩⟩ (by kernel_rfl) (by kernel_rfl) (by kernel_rfl) (by kernel_rfl)
def ti41 : TI := ⟨.struct [(0, 3, 1), (1, 3, 1), (2, 39, 5)], 7, 56, .agg [.int .i64 (.lit 0), .int .i64 (.lit 0), .int .i64 (.lit 0), .int .i64 (.lit 0), .int .i64 (.lit 0), .int .i64 (.lit 0), .int .u32 (.lit 0)], some .site⟩
theorem ti41_ok : TiOk Tryd.prog 41 ti41 := ti_mk (i := Tryd.t41) (z := .agg #[.int .i64 0, .int .i64 0, .int .i64 0, .int .i64 0, .int .i64 0, .int .i64 0, .int .u32 0]) Tryd.underlying41 ⟨_, rfl, (by kernel_rfl), fun f hf => by
    simp only [List.mem_cons, List.not_mem_nil, or_false] at hf
    rcases hf with rfl | rfl | rfl
    · exact ⟨Tryd.t3, by kernel_rfl, by kernel_rfl, Nat.le_of_ble_eq_true (by kernel_rfl)⟩
    · exact ⟨Tryd.t3, by kernel_rfl, by kernel_rfl, Nat.le_of_ble_eq_true (by kernel_rfl)⟩
    · exact ⟨Tryd.t39, by kernel_rfl, by kernel_rfl, Nat.le_of_ble_eq_true (by kernel_rfl)⟩⟩ (by kernel_rfl) (by kernel_rfl) (by kernel_rfl) (by kernel_rfl)
def ti42 : TI := ⟨.func, 1, 8, .nilFunc, none⟩
theorem ti42_ok : TiOk Tryd.prog 42 ti42 := ti_mk (i := Tryd.t42) (z := .nilFunc) Tryd.underlying42 ⟨_, _, _, rfl⟩ (by kernel_rfl) (by kernel_rfl) (by kernel_rfl) (by kernel_rfl)
def ti43 : TI := ⟨.func, 1, 8, .nilFunc, none⟩
theorem ti43_ok : TiOk Tryd.prog 43 ti43 := ti_mk (i := Tryd.t43) (z := .nilFunc) Tryd.underlying43 ⟨_, _, _, rfl⟩ (by kernel_rfl) (by kernel_rfl) (by kernel_rfl) (by kernel_rfl)
def ti44 : TI := ⟨.slice 46, 1, 24, .nilslice, none⟩
theorem ti44_ok : TiOk Tryd.prog 44 ti44 := ti_mk (i := Tryd.t44) (z := .slice none 0 0) Tryd.underlying44 rfl (by kernel_rfl) (by kernel_rfl) (by kernel_rfl) (by kernel_rfl)
def ti45 : TI := ⟨.struct [(0, 39, 5), (5, 9, 1), (6, 9, 1), (7, 4, 1)], 8, 80, .agg [.int .i64 (.lit 0), .int .i64 (.lit 0), .int .i64 (.lit 0), .int .i64 (.lit 0), .int .u32 (.lit 0), .str ByteArray.empty, .str ByteArray.empty, .bool (.lit false)], none⟩
theorem ti45_ok : TiOk Tryd.prog 45 ti45 := ti_mk (i := Tryd.t45) (z := .agg #[.int .i64 0, .int .i64 0, .int .i64 0, .int .i64 0, .int .u32 0, .string ByteArray.empty, .string ByteArray.empty, .bool false]) Tryd.underlying45 ⟨_, rfl, (by kernel_rfl), fun f hf => by
    simp only [List.mem_cons, List.not_mem_nil, or_false] at hf
    rcases hf with rfl | rfl | rfl | rfl
    · exact ⟨Tryd.t39, by kernel_rfl, by kernel_rfl, Nat.le_of_ble_eq_true (by kernel_rfl)⟩
    · exact ⟨Tryd.t9, by kernel_rfl, by kernel_rfl, Nat.le_of_ble_eq_true (by kernel_rfl)⟩
    · exact ⟨Tryd.t9, by kernel_rfl, by kernel_rfl, Nat.le_of_ble_eq_true (by kernel_rfl)⟩
    · exact ⟨Tryd.t4, by kernel_rfl, by kernel_rfl, Nat.le_of_ble_eq_true (by kernel_rfl)⟩⟩ (by kernel_rfl) (by kernel_rfl) (by kernel_rfl) (by kernel_rfl)
def ti46 : TI := ⟨.struct [(0, 39, 5), (5, 9, 1), (6, 9, 1), (7, 4, 1)], 8, 80, .agg [.int .i64 (.lit 0), .int .i64 (.lit 0), .int .i64 (.lit 0), .int .i64 (.lit 0), .int .u32 (.lit 0), .str ByteArray.empty, .str ByteArray.empty, .bool (.lit false)], some .line⟩
theorem ti46_ok : TiOk Tryd.prog 46 ti46 := ti_mk (i := Tryd.t46) (z := .agg #[.int .i64 0, .int .i64 0, .int .i64 0, .int .i64 0, .int .u32 0, .string ByteArray.empty, .string ByteArray.empty, .bool false]) Tryd.underlying46 ⟨_, rfl, (by kernel_rfl), fun f hf => by
    simp only [List.mem_cons, List.not_mem_nil, or_false] at hf
    rcases hf with rfl | rfl | rfl | rfl
    · exact ⟨Tryd.t39, by kernel_rfl, by kernel_rfl, Nat.le_of_ble_eq_true (by kernel_rfl)⟩
    · exact ⟨Tryd.t9, by kernel_rfl, by kernel_rfl, Nat.le_of_ble_eq_true (by kernel_rfl)⟩
    · exact ⟨Tryd.t9, by kernel_rfl, by kernel_rfl, Nat.le_of_ble_eq_true (by kernel_rfl)⟩
    · exact ⟨Tryd.t4, by kernel_rfl, by kernel_rfl, Nat.le_of_ble_eq_true (by kernel_rfl)⟩⟩ (by kernel_rfl) (by kernel_rfl) (by kernel_rfl) (by kernel_rfl)
def ti47 : TI := ⟨.func, 1, 8, .nilFunc, none⟩
theorem ti47_ok : TiOk Tryd.prog 47 ti47 := ti_mk (i := Tryd.t47) (z := .nilFunc) Tryd.underlying47 ⟨_, _, _, rfl⟩ (by kernel_rfl) (by kernel_rfl) (by kernel_rfl) (by kernel_rfl)
def ti48 : TI := ⟨.func, 1, 8, .nilFunc, none⟩
theorem ti48_ok : TiOk Tryd.prog 48 ti48 := ti_mk (i := Tryd.t48) (z := .nilFunc) Tryd.underlying48 ⟨_, _, _, rfl⟩ (by kernel_rfl) (by kernel_rfl) (by kernel_rfl) (by kernel_rfl)
def ti49 : TI := ⟨.func, 1, 8, .nilFunc, none⟩
theorem ti49_ok : TiOk Tryd.prog 49 ti49 := ti_mk (i := Tryd.t49) (z := .nilFunc) Tryd.underlying49 ⟨_, _, _, rfl⟩ (by kernel_rfl) (by kernel_rfl) (by kernel_rfl) (by kernel_rfl)
def ti50 : TI := ⟨.struct [(0, 3, 1), (1, 4, 1), (2, 3, 1)], 3, 24, .agg [.int .i64 (.lit 0), .bool (.lit false), .int .i64 (.lit 0)], none⟩
theorem ti50_ok : TiOk Tryd.prog 50 ti50 := ti_mk (i := Tryd.t50) (z := .agg #[.int .i64 0, .bool false, .int .i64 0]) Tryd.underlying50 ⟨_, rfl, (by kernel_rfl), fun f hf => by
    simp only [List.mem_cons, List.not_mem_nil, or_false] at hf
    rcases hf with rfl | rfl | rfl
    · exact ⟨Tryd.t3, by kernel_rfl, by kernel_rfl, Nat.le_of_ble_eq_true (by kernel_rfl)⟩
    · exact ⟨Tryd.t4, by kernel_rfl, by kernel_rfl, Nat.le_of_ble_eq_true (by kernel_rfl)⟩
    · exact ⟨Tryd.t3, by kernel_rfl, by kernel_rfl, Nat.le_of_ble_eq_true (by kernel_rfl)⟩⟩ (by kernel_rfl) (by kernel_rfl) (by kernel_rfl) (by kernel_rfl)
def ti51 : TI := ⟨.struct [(0, 3, 1), (1, 4, 1), (2, 3, 1)], 3, 24, .agg [.int .i64 (.lit 0), .bool (.lit false), .int .i64 (.lit 0)], none⟩
theorem ti51_ok : TiOk Tryd.prog 51 ti51 := ti_mk (i := Tryd.t51) (z := .agg #[.int .i64 0, .bool false, .int .i64 0]) Tryd.underlying51 ⟨_, rfl, (by kernel_rfl), fun f hf => by
    simp only [List.mem_cons, List.not_mem_nil, or_false] at hf
    rcases hf with rfl | rfl | rfl
    · exact ⟨Tryd.t3, by kernel_rfl, by kernel_rfl, Nat.le_of_ble_eq_true (by kernel_rfl)⟩
    · exact ⟨Tryd.t4, by kernel_rfl, by kernel_rfl, Nat.le_of_ble_eq_true (by kernel_rfl)⟩
    · exact ⟨Tryd.t3, by kernel_rfl, by kernel_rfl, Nat.le_of_ble_eq_true (by kernel_rfl)⟩⟩ (by kernel_rfl) (by kernel_rfl) (by kernel_rfl) (by kernel_rfl)
def ti52 : TI := ⟨.func, 1, 8, .nilFunc, none⟩
theorem ti52_ok : TiOk Tryd.prog 52 ti52 := ti_mk (i := Tryd.t52) (z := .nilFunc) Tryd.underlying52 ⟨_, _, _, rfl⟩ (by kernel_rfl) (by kernel_rfl) (by kernel_rfl) (by kernel_rfl)
def ti53 : TI := ⟨.func, 1, 8, .nilFunc, none⟩
theorem ti53_ok : TiOk Tryd.prog 53 ti53 := ti_mk (i := Tryd.t53) (z := .nilFunc) Tryd.underlying53 ⟨_, _, _, rfl⟩ (by kernel_rfl) (by kernel_rfl) (by kernel_rfl) (by kernel_rfl)
def ti54 : TI := ⟨.struct [(0, 9, 1), (1, 3, 1), (2, 3, 1), (3, 4, 1)], 4, 40, .agg [.str ByteArray.empty, .int .i64 (.lit 0), .int .i64 (.lit 0), .bool (.lit false)], none⟩
theorem ti54_ok : TiOk Tryd.prog 54 ti54 := ti_mk (i := Tryd.t54) (z := .agg #[.string ByteArray.empty, .int .i64 0, .int .i64 0, .bool false]) Tryd.underlying54 ⟨_, rfl, (by kernel_rfl), fun f hf => by
    simp only [List.mem_cons, List.not_mem_nil, or_false] at hf
    rcases hf with rfl | rfl | rfl | rfl
    · exact ⟨Tryd.t9, by kernel_rfl, by kernel_rfl, Nat.le_of_ble_eq_true (by kernel_rfl)⟩
    · exact ⟨Tryd.t3, by kernel_rfl, by kernel_rfl, Nat.le_of_ble_eq_true (by kernel_rfl)⟩
    · exact ⟨Tryd.t3, by kernel_rfl, by kernel_rfl, Nat.le_of_ble_eq_true (by kernel_rfl)⟩
    · exact ⟨Tryd.t4, by kernel_rfl, by kernel_rfl, Nat.le_of_ble_eq_true (by kernel_rfl)⟩⟩ (by kernel_rfl) (by kernel_rfl) (by kernel_rfl) (by kernel_rfl)
def ti55 : TI := ⟨.struct [(0, 9, 1), (1, 3, 1), (2, 3, 1), (3, 4, 1)], 4, 40, .agg [.str ByteArray.empty, .int .i64 (.lit 0), .int .i64 (.lit 0), .bool (.lit false)], some .sym⟩
theorem ti55_ok : TiOk Tryd.prog 55 ti55 := ti_mk (i := Tryd.t55) (z := .agg #[.string ByteArray.empty, .int .i64 0, .int .i64 0, .bool false]) Tryd.underlying55 ⟨_, rfl, (by kernel_rfl), fun f hf => by
    simp only [List.mem_cons, List.not_mem_nil, or_false] at hf
    rcases hf with rfl | rfl | rfl | rfl
    · exact ⟨Tryd.t9, by kernel_rfl, by kernel_rfl, Nat.le_of_ble_eq_true (by kernel_rfl)⟩
    · exact ⟨Tryd.t3, by kernel_rfl, by kernel_rfl, Nat.le_of_ble_eq_true (by kernel_rfl)⟩
    · exact ⟨Tryd.t3, by kernel_rfl, by kernel_rfl, Nat.le_of_ble_eq_true (by kernel_rfl)⟩
    · exact ⟨Tryd.t4, by kernel_rfl, by kernel_rfl, Nat.le_of_ble_eq_true (by kernel_rfl)⟩⟩ (by kernel_rfl) (by kernel_rfl) (by kernel_rfl) (by kernel_rfl)
def ti56 : TI := ⟨.struct [(0, 3, 1), (1, 3, 1), (2, 3, 1), (3, 3, 1)], 4, 32, .agg [.int .i64 (.lit 0), .int .i64 (.lit 0), .int .i64 (.lit 0), .int .i64 (.lit 0)], none⟩
theorem ti56_ok : TiOk Tryd.prog 56 ti56 := ti_mk (i := Tryd.t56) (z := .agg #[.int .i64 0, .int .i64 0, .int .i64 0, .int .i64 0]) Tryd.underlying56 ⟨_, rfl, (by kernel_rfl), fun f hf => by
    simp only [List.mem_cons, List.not_mem_nil, or_false] at hf
    rcases hf with rfl | rfl | rfl | rfl
    · exact ⟨Tryd.t3, by kernel_rfl, by kernel_rfl, Nat.le_of_ble_eq_true (by kernel_rfl)⟩
    · exact ⟨Tryd.t3, by kernel_rfl, by kernel_rfl, Nat.le_of_ble_eq_true (by kernel_rfl)⟩
    · exact ⟨Tryd.t3, by kernel_rfl, by kernel_rfl, Nat.le_of_ble_eq_true (by kernel_rfl)⟩
    · exact ⟨Tryd.t3, by kernel_rfl, by kernel_rfl, Nat.le_of_ble_eq_true (by kernel_rfl)⟩⟩ (by kernel_rfl) (by kernel_rfl) (by kernel_rfl) (by kernel_rfl)
def ti57 : TI := ⟨.struct [(0, 3, 1), (1, 3, 1), (2, 3, 1), (3, 3, 1)], 4, 32, .agg [.int .i64 (.lit 0), .int .i64 (.lit 0), .int .i64 (.lit 0), .int .i64 (.lit 0)], some .rel⟩
theorem ti57_ok : TiOk Tryd.prog 57 ti57 := ti_mk (i := Tryd.t57) (z := .agg #[.int .i64 0, .int .i64 0, .int .i64 0, .int .i64 0]) Tryd.underlying57 ⟨_, rfl, (by kernel_rfl), fun f hf => by
    simp only [List.mem_cons, List.not_mem_nil, or_false] at hf
    rcases hf with rfl | rfl | rfl | rfl
    · exact ⟨Tryd.t3, by kernel_rfl, by kernel_rfl, Nat.le_of_ble_eq_true (by kernel_rfl)⟩
    · exact ⟨Tryd.t3, by kernel_rfl, by kernel_rfl, Nat.le_of_ble_eq_true (by kernel_rfl)⟩
    · exact ⟨Tryd.t3, by kernel_rfl, by kernel_rfl, Nat.le_of_ble_eq_true (by kernel_rfl)⟩
    · exact ⟨Tryd.t3, by kernel_rfl, by kernel_rfl, Nat.le_of_ble_eq_true (by kernel_rfl)⟩⟩ (by kernel_rfl) (by kernel_rfl) (by kernel_rfl) (by kernel_rfl)
def ti58 : TI := ⟨.func, 1, 8, .nilFunc, none⟩
theorem ti58_ok : TiOk Tryd.prog 58 ti58 := ti_mk (i := Tryd.t58) (z := .nilFunc) Tryd.underlying58 ⟨_, _, _, rfl⟩ (by kernel_rfl) (by kernel_rfl) (by kernel_rfl) (by kernel_rfl)
def ti59 : TI := ⟨.func, 1, 8, .nilFunc, none⟩
theorem ti59_ok : TiOk Tryd.prog 59 ti59 := ti_mk (i := Tryd.t59) (z := .nilFunc) Tryd.underlying59 ⟨_, _, _, rfl⟩ (by kernel_rfl) (by kernel_rfl) (by kernel_rfl) (by kernel_rfl)
def ti60 : TI := ⟨.func, 1, 8, .nilFunc, none⟩
theorem ti60_ok : TiOk Tryd.prog 60 ti60 := ti_mk (i := Tryd.t60) (z := .nilFunc) Tryd.underlying60 ⟨_, _, _, rfl⟩ (by kernel_rfl) (by kernel_rfl) (by kernel_rfl) (by kernel_rfl)
def ti61 : TI := ⟨.func, 1, 8, .nilFunc, none⟩
theorem ti61_ok : TiOk Tryd.prog 61 ti61 := ti_mk (i := Tryd.t61) (z := .nilFunc) Tryd.underlying61 ⟨_, _, _, rfl⟩ (by kernel_rfl) (by kernel_rfl) (by kernel_rfl) (by kernel_rfl)
def ti62 : TI := ⟨.func, 1, 8, .nilFunc, none⟩
theorem ti62_ok : TiOk Tryd.prog 62 ti62 := ti_mk (i := Tryd.t62) (z := .nilFunc) Tryd.underlying62 ⟨_, _, _, rfl⟩ (by kernel_rfl) (by kernel_rfl) (by kernel_rfl) (by kernel_rfl)
def ti63 : TI := ⟨.slice 3, 1, 24, .nilslice, none⟩
theorem ti63_ok : TiOk Tryd.prog 63 ti63 := ti_mk (i := Tryd.t63) (z := .slice none 0 0) Tryd.underlying63 rfl (by kernel_rfl) (by kernel_rfl) (by kernel_rfl) (by kernel_rfl)
def ti65 : TI := ⟨.func, 1, 8, .nilFunc, none⟩
theorem ti65_ok : TiOk Tryd.prog 65 ti65 := ti_mk (i := Tryd.t65) (z := .nilFunc) Tryd.underlying65 ⟨_, _, _, rfl⟩ (by kernel_rfl) (by kernel_rfl) (by kernel_rfl) (by kernel_rfl)
def ti67 : TI := ⟨.func, 1, 8, .nilFunc, none⟩
theorem ti67_ok : TiOk Tryd.prog 67 ti67 := ti_mk (i := Tryd.t67) (z := .nilFunc) Tryd.underlying67 ⟨_, _, _, rfl⟩ (by kernel_rfl) (by kernel_rfl) (by kernel_rfl) (by kernel_rfl)
def ti68 : TI := ⟨.func, 1, 8, .nilFunc, none⟩
theorem ti68_ok : TiOk Tryd.prog 68 ti68 := ti_mk (i := Tryd.t68) (z := .nilFunc) Tryd.underlying68 ⟨_, _, _, rfl⟩ (by kernel_rfl) (by kernel_rfl) (by kernel_rfl) (by kernel_rfl)
def ti69 : TI := ⟨.func, 1, 8, .nilFunc, none⟩
theorem ti69_ok : TiOk Tryd.prog 69 ti69 := ti_mk (i := Tryd.t69) (z := .nilFunc) Tryd.underlying69 ⟨_, _, _, rfl⟩ (by kernel_rfl) (by kernel_rfl) (by kernel_rfl) (by kernel_rfl)
def ti70 : TI := ⟨.func, 1, 8, .nilFunc, none⟩
theorem ti70_ok : TiOk Tryd.prog 70 ti70 := ti_mk (i := Tryd.t70) (z := .nilFunc) Tryd.underlying70 ⟨_, _, _, rfl⟩ (by kernel_rfl) (by kernel_rfl) (by kernel_rfl) (by kernel_rfl)
def ti71 : TI := ⟨.func, 1, 8, .nilFunc, none⟩
theorem ti71_ok : TiOk Tryd.prog 71 ti71 := ti_mk (i := Tryd.t71) (z := .nilFunc) Tryd.underlying71 ⟨_, _, _, rfl⟩ (by kernel_rfl) (by kernel_rfl) (by kernel_rfl) (by kernel_rfl)
def ti73 : TI := ⟨.func, 1, 8, .nilFunc, none⟩
theorem ti73_ok : TiOk Tryd.prog 73 ti73 := ti_mk (i := Tryd.t73) (z := .nilFunc) Tryd.underlying73 ⟨_, _, _, rfl⟩ (by kernel_rfl) (by kernel_rfl) (by kernel_rfl) (by kernel_rfl)
def ti74 : TI := ⟨.func, 1, 8, .nilFunc, none⟩
theorem ti74_ok : TiOk Tryd.prog 74 ti74 := ti_mk (i := Tryd.t74) (z := .nilFunc) Tryd.underlying74 ⟨_, _, _, rfl⟩ (by kernel_rfl) (by kernel_rfl) (by kernel_rfl) (by kernel_rfl)
def ti75 : TI := ⟨.func, 1, 8, .nilFunc, none⟩
theorem ti75_ok : TiOk Tryd.prog 75 ti75 := ti_mk (i := Tryd.t75) (z := .nilFunc) Tryd.underlying75 ⟨_, _, _, rfl⟩ (by kernel_rfl) (by kernel_rfl) (by kernel_rfl) (by kernel_rfl)
def ti76 : TI := ⟨.slice 78, 1, 24, .nilslice, none⟩
theorem ti76_ok : TiOk Tryd.prog 76 ti76 := ti_mk (i := Tryd.t76) (z := .slice none 0 0) Tryd.underlying76 rfl (by kernel_rfl) (by kernel_rfl) (by kernel_rfl) (by kernel_rfl)
def ti77 : TI := ⟨.func, 1, 8, .nilFunc, none⟩
theorem ti77_ok : TiOk Tryd.prog 77 ti77 := ti_mk (i := Tryd.t77) (z := .nilFunc) Tryd.underlying77 ⟨_, _, _, rfl⟩ (by kernel_rfl) (by kernel_rfl) (by kernel_rfl) (by kernel_rfl)
def ti78 : TI := ⟨.struct [(0, 3, 1), (1, 3, 1), (2, 39, 5)], 7, 56, .agg [.int .i64 (.lit 0), .int .i64 (.lit 0), .int .i64 (.lit 0), .int .i64 (.lit 0), .int .i64 (.lit 0), .int .i64 (.lit 0), .int .u32 (.lit 0)], some .site⟩
theorem ti78_ok : TiOk Tryd.prog 78 ti78 := ti_mk (i := Tryd.t78) (z := .agg #[.int .i64 0, .int .i64 0, .int .i64 0, .int .i64 0, .int .i64 0, .int .i64 0, .int .u32 0]) Tryd.underlying78 ⟨_, rfl, (by kernel_rfl), fun f hf => by
    simp only [List.mem_cons, List.not_mem_nil, or_false] at hf
    rcases hf with rfl | rfl | rfl
    · exact ⟨Tryd.t3, by kernel_rfl, by kernel_rfl, Nat.le_of_ble_eq_true (by kernel_rfl)⟩
    · exact ⟨Tryd.t3, by kernel_rfl, by kernel_rfl, Nat.le_of_ble_eq_true (by kernel_rfl)⟩
    · exact ⟨Tryd.t39, by kernel_rfl, by kernel_rfl, Nat.le_of_ble_eq_true (by kernel_rfl)⟩⟩ (by kernel_rfl) (by kernel_rfl) (by kernel_rfl) (by kernel_rfl)
def ti80 : TI := ⟨.func, 1, 8, .nilFunc, none⟩
theorem ti80_ok : TiOk Tryd.prog 80 ti80 := ti_mk (i := Tryd.t80) (z := .nilFunc) Tryd.underlying80 ⟨_, _, _, rfl⟩ (by kernel_rfl) (by kernel_rfl) (by kernel_rfl) (by kernel_rfl)
def ti81 : TI := ⟨.func, 1, 8, .nilFunc, none⟩
theorem ti81_ok : TiOk Tryd.prog 81 ti81 := ti_mk (i := Tryd.t81) (z := .nilFunc) Tryd.underlying81 ⟨_, _, _, rfl⟩ (by kernel_rfl) (by kernel_rfl) (by kernel_rfl) (by kernel_rfl)
def ti82 : TI := ⟨.func, 1, 8, .nilFunc, none⟩
theorem ti82_ok : TiOk Tryd.prog 82 ti82 := ti_mk (i := Tryd.t82) (z := .nilFunc) Tryd.underlying82 ⟨_, _, _, rfl⟩ (by kernel_rfl) (by kernel_rfl) (by kernel_rfl) (by kernel_rfl)
def ti84 : TI := ⟨.func, 1, 8, .nilFunc, none⟩
theorem ti84_ok : TiOk Tryd.prog 84 ti84 := ti_mk (i := Tryd.t84) (z := .nilFunc) Tryd.underlying84 ⟨_, _, _, rfl⟩ (by kernel_rfl) (by kernel_rfl) (by kernel_rfl) (by kernel_rfl)
def ti86 : TI := ⟨.func, 1, 8, .nilFunc, none⟩
theorem ti86_ok : TiOk Tryd.prog 86 ti86 := ti_mk (i := Tryd.t86) (z := .nilFunc) Tryd.underlying86 ⟨_, _, _, rfl⟩ (by kernel_rfl) (by kernel_rfl) (by kernel_rfl) (by kernel_rfl)
def ti87 : TI := ⟨.func, 1, 8, .nilFunc, none⟩
theorem ti87_ok : TiOk Tryd.prog 87 ti87 := ti_mk (i := Tryd.t87) (z := .nilFunc) Tryd.underlying87 ⟨_, _, _, rfl⟩ (by kernel_rfl) (by kernel_rfl) (by kernel_rfl) (by kernel_rfl)
def ti88 : TI := ⟨.func, 1, 8, .nilFunc, none⟩
theorem ti88_ok : TiOk Tryd.prog 88 ti88 := ti_mk (i := Tryd.t88) (z := .nilFunc) Tryd.underlying88 ⟨_, _, _, rfl⟩ (by kernel_rfl) (by kernel_rfl) (by kernel_rfl) (by kernel_rfl)
def ti89 : TI := ⟨.func, 1, 8, .nilFunc, none⟩
theorem ti89_ok : TiOk Tryd.prog 89 ti89 := ti_mk (i := Tryd.t89) (z := .nilFunc) Tryd.underlying89 ⟨_, _, _, rfl⟩ (by kernel_rfl) (by kernel_rfl) (by kernel_rfl) (by kernel_rfl)
def ti90 : TI := ⟨.func, 1, 8, .nilFunc, none⟩
theorem ti90_ok : TiOk Tryd.prog 90 ti90 := ti_mk (i := Tryd.t90) (z := .nilFunc) Tryd.underlying90 ⟨_, _, _, rfl⟩ (by kernel_rfl) (by kernel_rfl) (by kernel_rfl) (by kernel_rfl)
def ti91 : TI := ⟨.func, 1, 8, .nilFunc, none⟩
theorem ti91_ok : TiOk Tryd.prog 91 ti91 := ti_mk (i := Tryd.t91) (z := .nilFunc) Tryd.underlying91 ⟨_, _, _, rfl⟩ (by kernel_rfl) (by kernel_rfl) (by kernel_rfl) (by kernel_rfl)
def ti92 : TI := ⟨.func, 1, 8, .nilFunc, none⟩
theorem ti92_ok : TiOk Tryd.prog 92 ti92 := ti_mk (i := Tryd.t92) (z := .nilFunc) Tryd.underlying92 ⟨_, _, _, rfl⟩ (by kernel_rfl) (by kernel_rfl) (by kernel_rfl) (by kernel_rfl)
def ti93 : TI := ⟨.func, 1, 8, .nilFunc, none⟩
theorem ti93_ok : TiOk Tryd.prog 93 ti93 := ti_mk (i := Tryd.t93) (z := .nilFunc) Tryd.underlying93 ⟨_, _, _, rfl⟩ (by kernel_rfl) (by kernel_rfl) (by kernel_rfl) (by kernel_rfl)
def ti94 : TI := ⟨.slice 9, 1, 24, .nilslice, none⟩
theorem ti94_ok : TiOk Tryd.prog 94 ti94 := ti_mk (i := Tryd.t94) (z := .slice none 0 0) Tryd.underlying94 rfl (by kernel_rfl) (by kernel_rfl) (by kernel_rfl) (by kernel_rfl)
def ti96 : TI := ⟨.func, 1, 8, .nilFunc, none⟩
theorem ti96_ok : TiOk Tryd.prog 96 ti96 := ti_mk (i := Tryd.t96) (z := .nilFunc) Tryd.underlying96 ⟨_, _, _, rfl⟩ (by kernel_rfl) (by kernel_rfl) (by kernel_rfl) (by kernel_rfl)
def ti97 : TI := ⟨.func, 1, 8, .nilFunc, none⟩
theorem ti97_ok : TiOk Tryd.prog 97 ti97 := ti_mk (i := Tryd.t97) (z := .nilFunc) Tryd.underlying97 ⟨_, _, _, rfl⟩ (by kernel_rfl) (by kernel_rfl) (by kernel_rfl) (by kernel_rfl)
def ti98 : TI := ⟨.func, 1, 8, .nilFunc, none⟩
theorem ti98_ok : TiOk Tryd.prog 98 ti98 := ti_mk (i := Tryd.t98) (z := .nilFunc) Tryd.underlying98 ⟨_, _, _, rfl⟩ (by kernel_rfl) (by kernel_rfl) (by kernel_rfl) (by kernel_rfl)
def ti99 : TI := ⟨.func, 1, 8, .nilFunc, none⟩
theorem ti99_ok : TiOk Tryd.prog 99 ti99 := ti_mk (i := Tryd.t99) (z := .nilFunc) Tryd.underlying99 ⟨_, _, _, rfl⟩ (by kernel_rfl) (by kernel_rfl) (by kernel_rfl) (by kernel_rfl)
def ti100 : TI := ⟨.func, 1, 8, .nilFunc, none⟩
theorem ti100_ok : TiOk Tryd.prog 100 ti100 := ti_mk (i := Tryd.t100) (z := .nilFunc) Tryd.underlying100 ⟨_, _, _, rfl⟩ (by kernel_rfl) (by kernel_rfl) (by kernel_rfl) (by kernel_rfl)
def ti101 : TI := ⟨.func, 1, 8, .nilFunc, none⟩
theorem ti101_ok : TiOk Tryd.prog 101 ti101 := ti_mk (i := Tryd.t101) (z := .nilFunc) Tryd.underlying101 ⟨_, _, _, rfl⟩ (by kernel_rfl) (by kernel_rfl) (by kernel_rfl) (by kernel_rfl)
def ti102 : TI := ⟨.func, 1, 8, .nilFunc, none⟩
theorem ti102_ok : TiOk Tryd.prog 102 ti102 := ti_mk (i := Tryd.t102) (z := .nilFunc) Tryd.underlying102 ⟨_, _, _, rfl⟩ (by kernel_rfl) (by kernel_rfl) (by kernel_rfl) (by kernel_rfl)
def ti103 : TI := ⟨.func, 1, 8, .nilFunc, none⟩
theorem ti103_ok : TiOk Tryd.prog 103 ti103 := ti_mk (i := Tryd.t103) (z := .nilFunc) Tryd.underlying103 ⟨_, _, _, rfl⟩ (by kernel_rfl) (by kernel_rfl) (by kernel_rfl) (by kernel_rfl)
def ti104 : TI := ⟨.struct [], 0, 0, .agg [], none⟩
theorem ti104_ok : TiOk Tryd.prog 104 ti104 := ti_mk (i := Tryd.t104) (z := .agg #[]) Tryd.underlying104 ⟨_, rfl, (by kernel_rfl), fun f hf => by
    simp at hf⟩ (by kernel_rfl) (by kernel_rfl) (by kernel_rfl) (by kernel_rfl)
def ti105 : TI := ⟨.struct [], 0, 0, .agg [], none⟩
theorem ti105_ok : TiOk Tryd.prog 105 ti105 := ti_mk (i := Tryd.t105) (z := .agg #[]) Tryd.underlying105 ⟨_, rfl, (by kernel_rfl), fun f hf => by
    simp at hf⟩ (by kernel_rfl) (by kernel_rfl) (by kernel_rfl) (by kernel_rfl)
def ti106 : TI := ⟨.func, 1, 8, .nilFunc, none⟩
theorem ti106_ok : TiOk Tryd.prog 106 ti106 := ti_mk (i := Tryd.t106) (z := .nilFunc) Tryd.underlying106 ⟨_, _, _, rfl⟩ (by kernel_rfl) (by kernel_rfl) (by kernel_rfl) (by kernel_rfl)
def ti107 : TI := ⟨.func, 1, 8, .nilFunc, none⟩
theorem ti107_ok : TiOk Tryd.prog 107 ti107 := ti_mk (i := Tryd.t107) (z := .nilFunc) Tryd.underlying107 ⟨_, _, _, rfl⟩ (by kernel_rfl) (by kernel_rfl) (by kernel_rfl) (by kernel_rfl)
def ti108 : TI := ⟨.func, 1, 8, .nilFunc, none⟩
theorem ti108_ok : TiOk Tryd.prog 108 ti108 := ti_mk (i := Tryd.t108) (z := .nilFunc) Tryd.underlying108 ⟨_, _, _, rfl⟩ (by kernel_rfl) (by kernel_rfl) (by kernel_rfl) (by kernel_rfl)
def ti109 : TI := ⟨.ptr 27, 1, 8, .nilptr, none⟩
theorem ti109_ok : TiOk Tryd.prog 109 ti109 := ti_mk (i := Tryd.t109) (z := .pointer none) Tryd.underlying109 rfl (by kernel_rfl) (by kernel_rfl) (by kernel_rfl) (by kernel_rfl)
def ti111 : TI := ⟨.func, 1, 8, .nilFunc, none⟩
theorem ti111_ok : TiOk Tryd.prog 111 ti111 := ti_mk (i := Tryd.t111) (z := .nilFunc) Tryd.underlying111 ⟨_, _, _, rfl⟩ (by kernel_rfl) (by kernel_rfl) (by kernel_rfl) (by kernel_rfl)
def ti112 : TI := ⟨.func, 1, 8, .nilFunc, none⟩
theorem ti112_ok : TiOk Tryd.prog 112 ti112 := ti_mk (i := Tryd.t112) (z := .nilFunc) Tryd.underlying112 ⟨_, _, _, rfl⟩ (by kernel_rfl) (by kernel_rfl) (by kernel_rfl) (by kernel_rfl)
def ti113 : TI := ⟨.func, 1, 8, .nilFunc, none⟩
theorem ti113_ok : TiOk Tryd.prog 113 ti113 := ti_mk (i := Tryd.t113) (z := .nilFunc) Tryd.underlying113 ⟨_, _, _, rfl⟩ (by kernel_rfl) (by kernel_rfl) (by kernel_rfl) (by kernel_rfl)
def ti114 : TI := ⟨.func, 1, 8, .nilFunc, none⟩
theorem ti114_ok : TiOk Tryd.prog 114 ti114 := ti_mk (i := Tryd.t114) (z := .nilFunc) Tryd.underlying114 ⟨_, _, _, rfl⟩ (by kernel_rfl) (by kernel_rfl) (by kernel_rfl) (by kernel_rfl)
def ti115 : TI := ⟨.func, 1, 8, .nilFunc, none⟩
theorem ti115_ok : TiOk Tryd.prog 115 ti115 := ti_mk (i := Tryd.t115) (z := .nilFunc) Tryd.underlying115 ⟨_, _, _, rfl⟩ (by kernel_rfl) (by kernel_rfl) (by kernel_rfl) (by kernel_rfl)
def ti116 : TI := ⟨.func, 1, 8, .nilFunc, none⟩
theorem ti116_ok : TiOk Tryd.prog 116 ti116 := ti_mk (i := Tryd.t116) (z := .nilFunc) Tryd.underlying116 ⟨_, _, _, rfl⟩ (by kernel_rfl) (by kernel_rfl) (by kernel_rfl) (by kernel_rfl)
def ti117 : TI := ⟨.func, 1, 8, .nilFunc, none⟩
theorem ti117_ok : TiOk Tryd.prog 117 ti117 := ti_mk (i := Tryd.t117) (z := .nilFunc) Tryd.underlying117 ⟨_, _, _, rfl⟩ (by kernel_rfl) (by kernel_rfl) (by kernel_rfl) (by kernel_rfl)
def ti118 : TI := ⟨.ptr 55, 1, 8, .nilptr, none⟩
theorem ti118_ok : TiOk Tryd.prog 118 ti118 := ti_mk (i := Tryd.t118) (z := .pointer none) Tryd.underlying118 rfl (by kernel_rfl) (by kernel_rfl) (by kernel_rfl) (by kernel_rfl)
def ti119 : TI := ⟨.func, 1, 8, .nilFunc, none⟩
theorem ti119_ok : TiOk Tryd.prog 119 ti119 := ti_mk (i := Tryd.t119) (z := .nilFunc) Tryd.underlying119 ⟨_, _, _, rfl⟩ (by kernel_rfl) (by kernel_rfl) (by kernel_rfl) (by kernel_rfl)
def ti120 : TI := ⟨.func, 1, 8, .nilFunc, none⟩
theorem ti120_ok : TiOk Tryd.prog 120 ti120 := ti_mk (i := Tryd.t120) (z := .nilFunc) Tryd.underlying120 ⟨_, _, _, rfl⟩ (by kernel_rfl) (by kernel_rfl) (by kernel_rfl) (by kernel_rfl)
def ti121 : TI := ⟨.func, 1, 8, .nilFunc, none⟩
theorem ti121_ok : TiOk Tryd.prog 121 ti121 := ti_mk (i := Tryd.t121) (z := .nilFunc) Tryd.underlying121 ⟨_, _, _, rfl⟩ (by kernel_rfl) (by kernel_rfl) (by kernel_rfl) (by kernel_rfl)
def ti122 : TI := ⟨.ptr 124, 1, 8, .nilptr, none⟩
theorem ti122_ok : TiOk Tryd.prog 122 ti122 := ti_mk (i := Tryd.t122) (z := .pointer none) Tryd.underlying122 rfl (by kernel_rfl) (by kernel_rfl) (by kernel_rfl) (by kernel_rfl)
def ti123 : TI := ⟨.struct [(0, 23, 1), (1, 32, 1)], 2, 40, .agg [.nilslice, .nilIface], none⟩
theorem ti123_ok : TiOk Tryd.prog 123 ti123 := ti_mk (i := Tryd.t123) (z := .agg #[.slice none 0 0, .nilIface]) Tryd.underlying123 ⟨_, rfl, (by kernel_rfl), fun f hf => by
    simp only [List.mem_cons, List.not_mem_nil, or_false] at hf
    rcases hf with rfl | rfl
    · exact ⟨Tryd.t23, by kernel_rfl, by kernel_rfl, Nat.le_of_ble_eq_true (by kernel_rfl)⟩
    · exact ⟨Tryd.t32, by kernel_rfl, by kernel_rfl, Nat.le_of_ble_eq_true (by kernel_rfl)⟩⟩ (by kernel_rfl) (by kernel_rfl) (by kernel_rfl) (by kernel_rfl)
def ti124 : TI := ⟨.struct [(0, 23, 1), (1, 32, 1)], 2, 40, .agg [.nilslice, .nilIface], none⟩
theorem ti124_ok : TiOk Tryd.prog 124 ti124 := ti_mk (i := Tryd.t124) (z := .agg #[.slice none 0 0, .nilIface]) Tryd.underlying124 ⟨_, rfl, (by kernel_rfl), fun f hf => by
    simp only [List.mem_cons, List.not_mem_nil, or_false] at hf
    rcases hf with rfl | rfl
    · exact ⟨Tryd.t23, by kernel_rfl, by kernel_rfl, Nat.le_of_ble_eq_true (by kernel_rfl)⟩
    · exact ⟨Tryd.t32, by kernel_rfl, by kernel_rfl, Nat.le_of_ble_eq_true (by kernel_rfl)⟩⟩ (by kernel_rfl) (by kernel_rfl) (by kernel_rfl) (by kernel_rfl)
def ti125 : TI := ⟨.func, 1, 8, .nilFunc, none⟩
theorem ti125_ok : TiOk Tryd.prog 125 ti125 := ti_mk (i := Tryd.t125) (z := .nilFunc) Tryd.underlying125 ⟨_, _, _, rfl⟩ (by kernel_rfl) (by kernel_rfl) (by kernel_rfl) (by kernel_rfl)
def ti126 : TI := ⟨.func, 1, 8, .nilFunc, none⟩
theorem ti126_ok : TiOk Tryd.prog 126 ti126 := ti_mk (i := Tryd.t126) (z := .nilFunc) Tryd.underlying126 ⟨_, _, _, rfl⟩ (by kernel_rfl) (by kernel_rfl) (by kernel_rfl) (by kernel_rfl)
def ti127 : TI := ⟨.func, 1, 8, .nilFunc, none⟩
theorem ti127_ok : TiOk Tryd.prog 127 ti127 := ti_mk (i := Tryd.t127) (z := .nilFunc) Tryd.underlying127 ⟨_, _, _, rfl⟩ (by kernel_rfl) (by kernel_rfl) (by kernel_rfl) (by kernel_rfl)
def ti128 : TI := ⟨.func, 1, 8, .nilFunc, none⟩
theorem ti128_ok : TiOk Tryd.prog 128 ti128 := ti_mk (i := Tryd.t128) (z := .nilFunc) Tryd.underlying128 ⟨_, _, _, rfl⟩ (by kernel_rfl) (by kernel_rfl) (by kernel_rfl) (by kernel_rfl)
def ti129 : TI := ⟨.func, 1, 8, .nilFunc, none⟩
theorem ti129_ok : TiOk Tryd.prog 129 ti129 := ti_mk (i := Tryd.t129) (z := .nilFunc) Tryd.underlying129 ⟨_, _, _, rfl⟩ (by kernel_rfl) (by kernel_rfl) (by kernel_rfl) (by kernel_rfl)
def ti130 : TI := ⟨.func, 1, 8, .nilFunc, none⟩
theorem ti130_ok : TiOk Tryd.prog 130 ti130 := ti_mk (i := Tryd.t130) (z := .nilFunc) Tryd.underlying130 ⟨_, _, _, rfl⟩ (by kernel_rfl) (by kernel_rfl) (by kernel_rfl) (by kernel_rfl)
def ti131 : TI := ⟨.func, 1, 8, .nilFunc, none⟩
theorem ti131_ok : TiOk Tryd.prog 131 ti131 := ti_mk (i := Tryd.t131) (z := .nilFunc) Tryd.underlying131 ⟨_, _, _, rfl⟩ (by kernel_rfl) (by kernel_rfl) (by kernel_rfl) (by kernel_rfl)
def ti132 : TI := ⟨.func, 1, 8, .nilFunc, none⟩
theorem ti132_ok : TiOk Tryd.prog 132 ti132 := ti_mk (i := Tryd.t132) (z := .nilFunc) Tryd.underlying132 ⟨_, _, _, rfl⟩ (by kernel_rfl) (by kernel_rfl) (by kernel_rfl) (by kernel_rfl)
def ti133 : TI := ⟨.slice 24, 1, 24, .nilslice, none⟩
theorem ti133_ok : TiOk Tryd.prog 133 ti133 := ti_mk (i := Tryd.t133) (z := .slice none 0 0) Tryd.underlying133 rfl (by kernel_rfl) (by kernel_rfl) (by kernel_rfl) (by kernel_rfl)
def ti134 : TI := ⟨.ptr 138, 1, 8, .nilptr, none⟩
theorem ti134_ok : TiOk Tryd.prog 134 ti134 := ti_mk (i := Tryd.t134) (z := .pointer none) Tryd.underlying134 rfl (by kernel_rfl) (by kernel_rfl) (by kernel_rfl) (by kernel_rfl)
def ti136 : TI := ⟨.func, 1, 8, .nilFunc, none⟩
theorem ti136_ok : TiOk Tryd.prog 136 ti136 := ti_mk (i := Tryd.t136) (z := .nilFunc) Tryd.underlying136 ⟨_, _, _, rfl⟩ (by kernel_rfl) (by kernel_rfl) (by kernel_rfl) (by kernel_rfl)
def ti137 : TI := ⟨.struct [(0, 3, 1), (1, 32, 1)], 2, 24, .agg [.int .i64 (.lit 0), .nilIface], none⟩
theorem ti137_ok : TiOk Tryd.prog 137 ti137 := ti_mk (i := Tryd.t137) (z := .agg #[.int .i64 0, .nilIface]) Tryd.underlying137 ⟨_, rfl, (by kernel_rfl), fun f hf => by
    simp only [List.mem_cons, List.not_mem_nil, or_false] at hf
    rcases hf with rfl | rfl
    · exact ⟨Tryd.t3, by kernel_rfl, by kernel_rfl, Nat.le_of_ble_eq_true (by kernel_rfl)⟩
    · exact ⟨Tryd.t32, by kernel_rfl, by kernel_rfl, Nat.le_of_ble_eq_true (by kernel_rfl)⟩⟩ (by kernel_rfl) (by kernel_rfl) (by kernel_rfl) (by kernel_rfl)
def ti138 : TI := ⟨.struct [(0, 3, 1), (1, 32, 1)], 2, 24, .agg [.int .i64 (.lit 0), .nilIface], none⟩
theorem ti138_ok : TiOk Tryd.prog 138 ti138 := ti_mk (i := Tryd.t138) (z := .agg #[.int .i64 0, .nilIface]) Tryd.underlying138 ⟨_, rfl, (by kernel_rfl), fun f hf => by
    simp only [List.mem_cons, List.not_mem_nil, or_false] at hf
    rcases hf with rfl | rfl
    · exact ⟨Tryd.t3, by kernel_rfl, by kernel_rfl, Nat.le_of_ble_eq_true (by kernel_rfl)⟩
    · exact ⟨Tryd.t32, by kernel_rfl, by kernel_rfl, Nat.le_of_ble_eq_true (by kernel_rfl)⟩⟩ (by kernel_rfl) (by kernel_rfl) (by kernel_rfl) (by kernel_rfl)
def ti139 : TI := ⟨.func, 1, 8, .nilFunc, none⟩
theorem ti139_ok : TiOk Tryd.prog 139 ti139 := ti_mk (i := Tryd.t139) (z := .nilFunc) Tryd.underlying139 ⟨_, _, _, rfl⟩ (by kernel_rfl) (by kernel_rfl) (by kernel_rfl) (by kernel_rfl)
def ti140 : TI := ⟨.func, 1, 8, .nilFunc, none⟩
theorem ti140_ok : TiOk Tryd.prog 140 ti140 := ti_mk (i := Tryd.t140) (z := .nilFunc) Tryd.underlying140 ⟨_, _, _, rfl⟩ (by kernel_rfl) (by kernel_rfl) (by kernel_rfl) (by kernel_rfl)
def ti141 : TI := ⟨.func, 1, 8, .nilFunc, none⟩
theorem ti141_ok : TiOk Tryd.prog 141 ti141 := ti_mk (i := Tryd.t141) (z := .nilFunc) Tryd.underlying141 ⟨_, _, _, rfl⟩ (by kernel_rfl) (by kernel_rfl) (by kernel_rfl) (by kernel_rfl)
def ti142 : TI := ⟨.int .u64, 1, 8, .int .u64 (.lit 0), none⟩
theorem ti142_ok : TiOk Tryd.prog 142 ti142 := ti_mk (i := Tryd.t142) (z := .int .u64 0) Tryd.underlying142 rfl (by kernel_rfl) (by kernel_rfl) (by kernel_rfl) (by kernel_rfl)
def ti144 : TI := ⟨.func, 1, 8, .nilFunc, none⟩
theorem ti144_ok : TiOk Tryd.prog 144 ti144 := ti_mk (i := Tryd.t144) (z := .nilFunc) Tryd.underlying144 ⟨_, _, _, rfl⟩ (by kernel_rfl) (by kernel_rfl) (by kernel_rfl) (by kernel_rfl)
def ti145 : TI := ⟨.func, 1, 8, .nilFunc, none⟩
theorem ti145_ok : TiOk Tryd.prog 145 ti145 := ti_mk (i := Tryd.t145) (z := .nilFunc) Tryd.underlying145 ⟨_, _, _, rfl⟩ (by kernel_rfl) (by kernel_rfl) (by kernel_rfl) (by kernel_rfl)
def ti146 : TI := ⟨.func, 1, 8, .nilFunc, none⟩
theorem ti146_ok : TiOk Tryd.prog 146 ti146 := ti_mk (i := Tryd.t146) (z := .nilFunc) Tryd.underlying146 ⟨_, _, _, rfl⟩ (by kernel_rfl) (by kernel_rfl) (by kernel_rfl) (by kernel_rfl)
def ti147 : TI := ⟨.func, 1, 8, .nilFunc, none⟩
theorem ti147_ok : TiOk Tryd.prog 147 ti147 := ti_mk (i := Tryd.t147) (z := .nilFunc) Tryd.underlying147 ⟨_, _, _, rfl⟩ (by kernel_rfl) (by kernel_rfl) (by kernel_rfl) (by kernel_rfl)
def ti148 : TI := ⟨.map 9 3, 1, 8, .nilmap, none⟩
theorem ti148_ok : TiOk Tryd.prog 148 ti148 := ti_mk (i := Tryd.t148) (z := .map none) Tryd.underlying148 rfl (by kernel_rfl) (by kernel_rfl) (by kernel_rfl) (by kernel_rfl)
def ti149 : TI := ⟨.func, 1, 8, .nilFunc, none⟩
theorem ti149_ok : TiOk Tryd.prog 149 ti149 := ti_mk (i := Tryd.t149) (z := .nilFunc) Tryd.underlying149 ⟨_, _, _, rfl⟩ (by kernel_rfl) (by kernel_rfl) (by kernel_rfl) (by kernel_rfl)
def ti150 : TI := ⟨.func, 1, 8, .nilFunc, none⟩
theorem ti150_ok : TiOk Tryd.prog 150 ti150 := ti_mk (i := Tryd.t150) (z := .nilFunc) Tryd.underlying150 ⟨_, _, _, rfl⟩ (by kernel_rfl) (by kernel_rfl) (by kernel_rfl) (by kernel_rfl)
def ti152 : TI := ⟨.func, 1, 8, .nilFunc, none⟩
theorem ti152_ok : TiOk Tryd.prog 152 ti152 := ti_mk (i := Tryd.t152) (z := .nilFunc) Tryd.underlying152 ⟨_, _, _, rfl⟩ (by kernel_rfl) (by kernel_rfl) (by kernel_rfl) (by kernel_rfl)
def ti153 : TI := ⟨.func, 1, 8, .nilFunc, none⟩
theorem ti153_ok : TiOk Tryd.prog 153 ti153 := ti_mk (i := Tryd.t153) (z := .nilFunc) Tryd.underlying153 ⟨_, _, _, rfl⟩ (by kernel_rfl) (by kernel_rfl) (by kernel_rfl) (by kernel_rfl)
def ti154 : TI := ⟨.func, 1, 8, .nilFunc, none⟩
theorem ti154_ok : TiOk Tryd.prog 154 ti154 := ti_mk (i := Tryd.t154) (z := .nilFunc) Tryd.underlying154 ⟨_, _, _, rfl⟩ (by kernel_rfl) (by kernel_rfl) (by kernel_rfl) (by kernel_rfl)
def ti155 : TI := ⟨.slice 32, 1, 24, .nilslice, none⟩
theorem ti155_ok : TiOk Tryd.prog 155 ti155 := ti_mk (i := Tryd.t155) (z := .slice none 0 0) Tryd.underlying155 rfl (by kernel_rfl) (by kernel_rfl) (by kernel_rfl) (by kernel_rfl)
def ti156 : TI := ⟨.func, 1, 8, .nilFunc, none⟩
theorem ti156_ok : TiOk Tryd.prog 156 ti156 := ti_mk (i := Tryd.t156) (z := .nilFunc) Tryd.underlying156 ⟨_, _, _, rfl⟩ (by kernel_rfl) (by kernel_rfl) (by kernel_rfl) (by kernel_rfl)
def ti157 : TI := ⟨.func, 1, 8, .nilFunc, none⟩
theorem ti157_ok : TiOk Tryd.prog 157 ti157 := ti_mk (i := Tryd.t157) (z := .nilFunc) Tryd.underlying157 ⟨_, _, _, rfl⟩ (by kernel_rfl) (by kernel_rfl) (by kernel_rfl) (by kernel_rfl)
def ti158 : TI := ⟨.func, 1, 8, .nilFunc, none⟩
theorem ti158_ok : TiOk Tryd.prog 158 ti158 := ti_mk (i := Tryd.t158) (z := .nilFunc) Tryd.underlying158 ⟨_, _, _, rfl⟩ (by kernel_rfl) (by kernel_rfl) (by kernel_rfl) (by kernel_rfl)
def ti159 : TI := ⟨.func, 1, 8, .nilFunc, none⟩
theorem ti159_ok : TiOk Tryd.prog 159 ti159 := ti_mk (i := Tryd.t159) (z := .nilFunc) Tryd.underlying159 ⟨_, _, _, rfl⟩ (by kernel_rfl) (by kernel_rfl) (by kernel_rfl) (by kernel_rfl)
def ti160 : TI := ⟨.map 3 3, 1, 8, .nilmap, none⟩
theorem ti160_ok : TiOk Tryd.prog 160 ti160 := ti_mk (i := Tryd.t160) (z := .map none) Tryd.underlying160 rfl (by kernel_rfl) (by kernel_rfl) (by kernel_rfl) (by kernel_rfl)
def ti161 : TI := ⟨.func, 1, 8, .nilFunc, none⟩
theorem ti161_ok : TiOk Tryd.prog 161 ti161 := ti_mk (i := Tryd.t161) (z := .nilFunc) Tryd.underlying161 ⟨_, _, _, rfl⟩ (by kernel_rfl) (by kernel_rfl) (by kernel_rfl) (by kernel_rfl)
def ti162 : TI := ⟨.func, 1, 8, .nilFunc, none⟩
theorem ti162_ok : TiOk Tryd.prog 162 ti162 := ti_mk (i := Tryd.t162) (z := .nilFunc) Tryd.underlying162 ⟨_, _, _, rfl⟩ (by kernel_rfl) (by kernel_rfl) (by kernel_rfl) (by kernel_rfl)
def ti164 : TI := ⟨.func, 1, 8, .nilFunc, none⟩
theorem ti164_ok : TiOk Tryd.prog 164 ti164 := ti_mk (i := Tryd.t164) (z := .nilFunc) Tryd.underlying164 ⟨_, _, _, rfl⟩ (by kernel_rfl) (by kernel_rfl) (by kernel_rfl) (by kernel_rfl)
def ti165 : TI := ⟨.func, 1, 8, .nilFunc, none⟩
theorem ti165_ok : TiOk Tryd.prog 165 ti165 := ti_mk (i := Tryd.t165) (z := .nilFunc) Tryd.underlying165 ⟨_, _, _, rfl⟩ (by kernel_rfl) (by kernel_rfl) (by kernel_rfl) (by kernel_rfl)
def ti167 : TI := ⟨.func, 1, 8, .nilFunc, none⟩
theorem ti167_ok : TiOk Tryd.prog 167 ti167 := ti_mk (i := Tryd.t167) (z := .nilFunc) Tryd.underlying167 ⟨_, _, _, rfl⟩ (by kernel_rfl) (by kernel_rfl) (by kernel_rfl) (by kernel_rfl)
def ti168 : TI := ⟨.func, 1, 8, .nilFunc, none⟩
theorem ti168_ok : TiOk Tryd.prog 168 ti168 := ti_mk (i := Tryd.t168) (z := .nilFunc) Tryd.underlying168 ⟨_, _, _, rfl⟩ (by kernel_rfl) (by kernel_rfl) (by kernel_rfl) (by kernel_rfl)
def ti171 : TI := ⟨.func, 1, 8, .nilFunc, none⟩
theorem ti171_ok : TiOk Tryd.prog 171 ti171 := ti_mk (i := Tryd.t171) (z := .nilFunc) Tryd.underlying171 ⟨_, _, _, rfl⟩ (by kernel_rfl) (by kernel_rfl) (by kernel_rfl) (by kernel_rfl)
def ti172 : TI := ⟨.func, 1, 8, .nilFunc, none⟩
theorem ti172_ok : TiOk Tryd.prog 172 ti172 := ti_mk (i := Tryd.t172) (z := .nilFunc) Tryd.underlying172 ⟨_, _, _, rfl⟩ (by kernel_rfl) (by kernel_rfl) (by kernel_rfl) (by kernel_rfl)
def ti176 : TI := ⟨.func, 1, 8, .nilFunc, none⟩
theorem ti176_ok : TiOk Tryd.prog 176 ti176 := ti_mk (i := Tryd.t176) (z := .nilFunc) Tryd.underlying176 ⟨_, _, _, rfl⟩ (by kernel_rfl) (by kernel_rfl) (by kernel_rfl) (by kernel_rfl)
def ti182 : TI := ⟨.func, 1, 8, .nilFunc, none⟩
theorem ti182_ok : TiOk Tryd.prog 182 ti182 := ti_mk (i := Tryd.t182) (z := .nilFunc) Tryd.underlying182 ⟨_, _, _, rfl⟩ (by kernel_rfl) (by kernel_rfl) (by kernel_rfl) (by kernel_rfl)
def ti185 : TI := ⟨.func, 1, 8, .nilFunc, none⟩
theorem ti185_ok : TiOk Tryd.prog 185 ti185 := ti_mk (i := Tryd.t185) (z := .nilFunc) Tryd.underlying185 ⟨_, _, _, rfl⟩ (by kernel_rfl) (by kernel_rfl) (by kernel_rfl) (by kernel_rfl)
def ti186 : TI := ⟨.ptr 5, 1, 8, .nilptr, none⟩
theorem ti186_ok : TiOk Tryd.prog 186 ti186 := ti_mk (i := Tryd.t186) (z := .pointer none) Tryd.underlying186 rfl (by kernel_rfl) (by kernel_rfl) (by kernel_rfl) (by kernel_rfl)
def ti191 : TI := ⟨.struct [(0, 9, 1)], 1, 16, .agg [.str ByteArray.empty], none⟩
theorem ti191_ok : TiOk Tryd.prog 191 ti191 := ti_mk (i := Tryd.t191) (z := .agg #[.string ByteArray.empty]) Tryd.underlying191 ⟨_, rfl, (by kernel_rfl), fun f hf => by
    simp only [List.mem_cons, List.not_mem_nil, or_false] at hf
    subst hf
    · exact ⟨Tryd.t9, by kernel_rfl, by kernel_rfl, Nat.le_of_ble_eq_true (by kernel_rfl)⟩⟩ (by kernel_rfl) (by kernel_rfl) (by kernel_rfl) (by kernel_rfl)
def ti194 : TI := ⟨.func, 1, 8, .nilFunc, none⟩
theorem ti194_ok : TiOk Tryd.prog 194 ti194 := ti_mk (i := Tryd.t194) (z := .nilFunc) Tryd.underlying194 ⟨_, _, _, rfl⟩ (by kernel_rfl) (by kernel_rfl) (by kernel_rfl) (by kernel_rfl)
def tab : List (Nat × TI) := [(1, ti1), (2, ti2), (3, ti3), (4, ti4), (5, ti5), (9, ti9), (12, ti12), (13, ti13), (19, ti19), (20, ti20), (21, ti21), (22, ti22), (23, ti23), (24, ti24), (25, ti25), (26, ti26), (27, ti27), (28, ti28), (29, ti29), (30, ti30), (31, ti31), (32, ti32), (34, ti34), (35, ti35), (36, ti36), (37, ti37), (38, ti38), (39, ti39), (40, ti40), (41, ti41), (42, ti42), (43, ti43), (44, ti44), (45, ti45), (46, ti46), (47, ti47), (48, ti48), (49, ti49), (50, ti50), (51, ti51), (52, ti52), (53, ti53), (54, ti54), (55, ti55), (56, ti56), (57, ti57), (58, ti58), (59, ti59), (60, ti60), (61, ti61), (62, ti62), (63, ti63), (65, ti65), (67, ti67), (68, ti68), (69, ti69), (70, ti70), (71, ti71), (73, ti73), (74, ti74), (75, ti75), (76, ti76), (77, ti77), (78, ti78), (80, ti80), (81, ti81), (82, ti82), (84, ti84), (86, ti86), (87, ti87), (88, ti88), (89, ti89), (90, ti90), (91, ti91), (92, ti92), (93, ti93), (94, ti94), (96, ti96), (97, ti97), (98, ti98), (99, ti99), (100, ti100), (101, ti101), (102, ti102), (103, ti103), (104, ti104), (105, ti105), (106, ti106), (107, ti107), (108, ti108), (109, ti109), (111, ti111), (112, ti112), (113, ti113), (114, ti114), (115, ti115), (116, ti116), (117, ti117), (118, ti118), (119, ti119), (120, ti120), (121, ti121), (122, ti122), (123, ti123), (124, ti124), (125, ti125), (126, ti126), (127, ti127), (128, ti128), (129, ti129), (130, ti130), (131, ti131), (132, ti132), (133, ti133), (134, ti134), (136, ti136), (137, ti137), (138, ti138), (139, ti139), (140, ti140), (141, ti141), (142, ti142), (144, ti144), (145, ti145), (146, ti146), (147, ti147), (148, ti148), (149, ti149), (150, ti150), (152, ti152), (153, ti153), (154, ti154), (155, ti155), (156, ti156), (157, ti157), (158, ti158), (159, ti159), (160, ti160), (161, ti161), (162, ti162), (164, ti164), (165, ti165), (167, ti167), (168, ti168), (171, ti171), (172, ti172), (176, ti176), (182, ti182), (185, ti185), (186, ti186), (191, ti191), (194, ti194)]
theorem tab_ok : ∀ t ti, find t tab = some ti → TiOk Tryd.prog t ti := by
  intro t ti h
  have h := find_mem h
  simp only [tab, List.mem_cons, Prod.mk.injEq, List.not_mem_nil, or_false] at h
  rcases h with ⟨rfl, rfl⟩ | ⟨rfl, rfl⟩ | ⟨rfl, rfl⟩ | ⟨rfl, rfl⟩ | ⟨rfl, rfl⟩ | ⟨rfl, rfl⟩ | ⟨rfl, rfl⟩ | ⟨rfl, rfl⟩ | ⟨rfl, rfl⟩ | ⟨rfl, rfl⟩ | ⟨rfl, rfl⟩ | ⟨rfl, rfl⟩ | ⟨rfl, rfl⟩ | ⟨rfl, rfl⟩ | ⟨rfl, rfl⟩ | ⟨rfl, rfl⟩ | ⟨rfl, rfl⟩ | ⟨rfl, rfl⟩ | ⟨rfl, rfl⟩ | ⟨rfl, rfl⟩ | ⟨rfl, rfl⟩ | ⟨rfl, rfl⟩ | ⟨rfl, rfl⟩ | ⟨rfl, rfl⟩ | ⟨rfl, rfl⟩ | ⟨rfl, rfl⟩ | ⟨rfl, rfl⟩ | ⟨rfl, rfl⟩ | ⟨rfl, rfl⟩ | ⟨rfl, rfl⟩ | ⟨rfl, rfl⟩ | ⟨rfl, rfl⟩ | ⟨rfl, rfl⟩ | ⟨rfl, rfl⟩ | ⟨rfl, rfl⟩ | ⟨rfl, rfl⟩ | ⟨rfl, rfl⟩ | ⟨rfl, rfl⟩ | ⟨rfl, rfl⟩ | ⟨rfl, rfl⟩ | ⟨rfl, rfl⟩ | ⟨rfl, rfl⟩ | ⟨rfl, rfl⟩ | ⟨rfl, rfl⟩ | ⟨rfl, rfl⟩ | ⟨rfl, rfl⟩ | ⟨rfl, rfl⟩ | ⟨rfl, rfl⟩ | ⟨rfl, rfl⟩ | ⟨rfl, rfl⟩ | ⟨rfl, rfl⟩ | ⟨rfl, rfl⟩ | ⟨rfl, rfl⟩ | ⟨rfl, rfl⟩ | ⟨rfl, rfl⟩ | ⟨rfl, rfl⟩ | ⟨rfl, rfl⟩ | ⟨rfl, rfl⟩ | ⟨rfl, rfl⟩ | ⟨rfl, rfl⟩ | ⟨rfl, rfl⟩ | ⟨rfl, rfl⟩ | ⟨rfl, rfl⟩ | ⟨rfl, rfl⟩ | ⟨rfl, rfl⟩ | ⟨rfl, rfl⟩ | ⟨rfl, rfl⟩ | ⟨rfl, rfl⟩ | ⟨rfl, rfl⟩ | ⟨rfl, rfl⟩ | ⟨rfl, rfl⟩ | ⟨rfl, rfl⟩ | ⟨rfl, rfl⟩ | ⟨rfl, rfl⟩ | ⟨rfl, rfl⟩ | ⟨rfl, rfl⟩ | ⟨rfl, rfl⟩ | ⟨rfl, rfl⟩ | ⟨rfl, rfl⟩ | ⟨rfl, rfl⟩ | ⟨rfl, rfl⟩ | ⟨rfl, rfl⟩ | ⟨rfl, rfl⟩ | ⟨rfl, rfl⟩ | ⟨rfl, rfl⟩ | ⟨rfl, rfl⟩ | ⟨rfl, rfl⟩ | ⟨rfl, rfl⟩ | ⟨rfl, rfl⟩ | ⟨rfl, rfl⟩ | ⟨rfl, rfl⟩ | ⟨rfl, rfl⟩ | ⟨rfl, rfl⟩ | ⟨rfl, rfl⟩ | ⟨rfl, rfl⟩ | ⟨rfl, rfl⟩ | ⟨rfl, rfl⟩ | ⟨rfl, rfl⟩ | ⟨rfl, rfl⟩ | ⟨rfl, rfl⟩ | ⟨rfl, rfl⟩ | ⟨rfl, rfl⟩ | ⟨rfl, rfl⟩ | ⟨rfl, rfl⟩ | ⟨rfl, rfl⟩ | ⟨rfl, rfl⟩ | ⟨rfl, rfl⟩ | ⟨rfl, rfl⟩ | ⟨rfl, rfl⟩ | ⟨rfl, rfl⟩ | ⟨rfl, rfl⟩ | ⟨rfl, rfl⟩ | ⟨rfl, rfl⟩ | ⟨rfl, rfl⟩ | ⟨rfl, rfl⟩ | ⟨rfl, rfl⟩ | ⟨rfl, rfl⟩ | ⟨rfl, rfl⟩ | ⟨rfl, rfl⟩ | ⟨rfl, rfl⟩ | ⟨rfl, rfl⟩ | ⟨rfl, rfl⟩ | ⟨rfl, rfl⟩ | ⟨rfl, rfl⟩ | ⟨rfl, rfl⟩ | ⟨rfl, rfl⟩ | ⟨rfl, rfl⟩ | ⟨rfl, rfl⟩ | ⟨rfl, rfl⟩ | ⟨rfl, rfl⟩ | ⟨rfl, rfl⟩ | ⟨rfl, rfl⟩ | ⟨rfl, rfl⟩ | ⟨rfl, rfl⟩ | ⟨rfl, rfl⟩ | ⟨rfl, rfl⟩ | ⟨rfl, rfl⟩ | ⟨rfl, rfl⟩ | ⟨rfl, rfl⟩ | ⟨rfl, rfl⟩ | ⟨rfl, rfl⟩ | ⟨rfl, rfl⟩ | ⟨rfl, rfl⟩ | ⟨rfl, rfl⟩ | ⟨rfl, rfl⟩ | ⟨rfl, rfl⟩ | ⟨rfl, rfl⟩ | ⟨rfl, rfl⟩ | ⟨rfl, rfl⟩ | ⟨rfl, rfl⟩ | ⟨rfl, rfl⟩ | ⟨rfl, rfl⟩
  · exact ti1_ok
  · exact ti2_ok
  · exact ti3_ok
  · exact ti4_ok
  · exact ti5_ok
  · exact ti9_ok
  · exact ti12_ok
  · exact ti13_ok
  · exact ti19_ok
  · exact ti20_ok
  · exact ti21_ok
  · exact ti22_ok
  · exact ti23_ok
  · exact ti24_ok
  · exact ti25_ok
  · exact ti26_ok
  · exact ti27_ok
  · exact ti28_ok
  · exact ti29_ok
  · exact ti30_ok
  · exact ti31_ok
  · exact ti32_ok
  · exact ti34_ok
  · exact ti35_ok
  · exact ti36_ok
  · exact ti37_ok
  · exact ti38_ok
  · exact ti39_ok
  · exact ti40_ok
  · exact ti41_ok
  · exact ti42_ok
  · exact ti43_ok
  · exact ti44_ok
  · exact ti45_ok
  · exact ti46_ok
  · exact ti47_ok
  · exact ti48_ok
  · exact ti49_ok
  · exact ti50_ok
  · exact ti51_ok
  · exact ti52_ok
  · exact ti53_ok
  · exact ti54_ok
  · exact ti55_ok
  · exact ti56_ok
  · exact ti57_ok
  · exact ti58_ok
  · exact ti59_ok
  · exact ti60_ok
  · exact ti61_ok
  · exact ti62_ok
  · exact ti63_ok
  · exact ti65_ok
  · exact ti67_ok
  · exact ti68_ok
  · exact ti69_ok
  · exact ti70_ok
  · exact ti71_ok
  · exact ti73_ok
  · exact ti74_ok
  · exact ti75_ok
  · exact ti76_ok
  · exact ti77_ok
  · exact ti78_ok
  · exact ti80_ok
  · exact ti81_ok
  · exact ti82_ok
  · exact ti84_ok
  · exact ti86_ok
  · exact ti87_ok
  · exact ti88_ok
  · exact ti89_ok
  · exact ti90_ok
  · exact ti91_ok
  · exact ti92_ok
  · exact ti93_ok
  · exact ti94_ok
  · exact ti96_ok
  · exact ti97_ok
  · exact ti98_ok
  · exact ti99_ok
  · exact ti100_ok
  · exact ti101_ok
  · exact ti102_ok
  · exact ti103_ok
  · exact ti104_ok
  · exact ti105_ok
  · exact ti106_ok
  · exact ti107_ok
  · exact ti108_ok
  · exact ti109_ok
  · exact ti111_ok
  · exact ti112_ok
  · exact ti113_ok
  · exact ti114_ok
  · exact ti115_ok
  · exact ti116_ok
  · exact ti117_ok
  · exact ti118_ok
  · exact ti119_ok
  · exact ti120_ok
  · exact ti121_ok
  · exact ti122_ok
  · exact ti123_ok
  · exact ti124_ok
  · exact ti125_ok
  · exact ti126_ok
  · exact ti127_ok
  · exact ti128_ok
  · exact ti129_ok
  · exact ti130_ok
  · exact ti131_ok
  · exact ti132_ok
  · exact ti133_ok
  · exact ti134_ok
  · exact ti136_ok
  · exact ti137_ok
  · exact ti138_ok
  · exact ti139_ok
  · exact ti140_ok
  · exact ti141_ok
  · exact ti142_ok
  · exact ti144_ok
  · exact ti145_ok
  · exact ti146_ok
  · exact ti147_ok
  · exact ti148_ok
  · exact ti149_ok
  · exact ti150_ok
  · exact ti152_ok
  · exact ti153_ok
  · exact ti154_ok
  · exact ti155_ok
  · exact ti156_ok
  · exact ti157_ok
  · exact ti158_ok
  · exact ti159_ok
  · exact ti160_ok
  · exact ti161_ok
  · exact ti162_ok
  · exact ti164_ok
  · exact ti165_ok
  · exact ti167_ok
  · exact ti168_ok
  · exact ti171_ok
  · exact ti172_ok
  · exact ti176_ok
  · exact ti182_ok
  · exact ti185_ok
  · exact ti186_ok
  · exact ti191_ok
  · exact ti194_ok
end Go.Proofs.YtbdfibaljoedpaaDoor

set_option linter.unusedVariables false
set_option linter.unusedSimpArgs false
namespace Go.Proofs.YtbdfibaljoedpaaDoor
open Go.RowKit Go.Sy
def G7 : List (Nat × SVal) := [(2, .rop [.err (.bare 102)]), (4, .rop [.err (.bare 103)]), (0, .rop [.err (.bare 104)]), (5, .rop [.err (.bare 105)]), (6, .rop [.err (.bare 106)]), (7, .rop [.err (.bare 107)]), (3, .rop [.err (.bare 109)])]
abbrev ctx (ea : Int → Addr) (has : Int → Prop) : Ctx := ⟨ea, 175, 134, has⟩
def cmpT : List Nat := [57, 55]
theorem cmp_ok : ∀ t, cmpT.contains t = true → CmpOk Tryd.prog t := by
  intro t ht
  have nm : ∀ t, ((Tryd.prog.fieldsOf t).toList.all fun f => f.name != "_") = true → ∀ f ∈ (Tryd.prog.fieldsOf t).toList, f.name ≠ "_" := fun t h f hf => by
    have := List.all_eq_true.1 h f hf
    simpa using this
  simp [cmpT] at ht
  rcases ht with rfl | rfl
  · exact ⟨by kernel_rfl, by kernel_rfl, nm _ (by kernel_rfl)⟩
  · exact ⟨by kernel_rfl, by kernel_rfl, nm _ (by kernel_rfl)⟩
abbrev env (gl : List (Nat × SVal)) (con : List (Nat × (List SVal → Nat → Acc ORes))) : Env := { tab := tab, con := con, glob := gl, tAt := 134, cmp := cmpT }
theorem err_ok (ea : Int → Addr) (has : Int → Prop) : ErrOk Tryd.prog (ctx ea has) where
  tE := ⟨_, Tryd.t175, Tryd.t192, Tryd.underlying175, by kernel_rfl, by kernel_rfl, by kernel_rfl, Nat.ne_of_beq_eq_false (by kernel_rfl)⟩
  tAt := ⟨_, Tryd.underlying134⟩
section
variable {ea : Int → Addr} {has : Int → Prop} {gl : List (Nat × SVal)}
def Cons (P : Program) (C : Ctx) (gl : List (Nat × SVal)) : List (Nat × (List SVal → Nat → Acc ORes)) → Prop
  | [] => True
  | (f, k) :: l => ConOk P C gl f k ∧ Cons P C gl l
theorem cons_find {P : Program} {C : Ctx} {l : List (Nat × (List SVal → Nat → Acc ORes))} (h : Cons P C gl l) : ∀ f k, find f l = some k → ConOk P C gl f k := by
  induction l with
  | nil => intro f k hf; cases hf
  | cons p l ih =>
    obtain ⟨g, k'⟩ := p
    intro f k hf
    simp only [find] at hf
    split at hf
    · rename_i hb; have := Nat.eq_of_beq_eq_true hb; subst this; cases hf; exact h.1
    · exact ih h.2 f k hf
theorem env_ok {con : List (Nat × (List SVal → Nat → Acc ORes))} (h : Cons Tryd.prog (ctx ea has) gl con) : EnvOk Tryd.prog (ctx ea has) gl (env gl con) where
  tab := tab_ok
  err := err_ok ea has
  glob := rfl
  tAt := rfl
  mixed := by kernel_rfl
  con := cons_find h
  cmp := cmp_ok
abbrev Con (ea : Int → Addr) (has : Int → Prop) (gl : List (Nat × SVal)) (f : Nat) (k : List SVal → Nat → Acc ORes) : Prop := ConOk Tryd.prog (ctx ea has) gl f k
end
end Go.Proofs.YtbdfibaljoedpaaDoor

set_option linter.unusedVariables false
set_option linter.unusedSimpArgs false
namespace Go.Fac
open Go.RowKit Go.Kit
theorem v_int {k : IntKind} {a b : Int} (h : a = b) : Value.int k a = .int k b := by rw [h]
theorem v_bool {a b : Bool} (h : a = b) : Value.bool a = .bool b := by rw [h]
theorem ret_int {k : IntKind} {a b : Int} (h : a = b) : Ending.returned (.int k a) = .returned (.int k b) := by rw [h]
theorem ret_int3 {a b c a' b' c' : Int} (h : a = a') (h2 : b = b') (h3 : c = c') :
  Ending.returned (.tuple #[.int .i64 a, .int .i64 b, .int .i64 c]) = .returned (.tuple #[.int .i64 a', .int .i64 b', .int .i64 c']) := by rw [h, h2, h3]
theorem ret_bool4 {a b c d a' b' c' d' : Bool} (h : a = a') (h2 : b = b') (h3 : c = c') (h4 : d = d') :
  Ending.returned (.tuple #[.bool a, .bool b, .bool c, .bool d]) = .returned (.tuple #[.bool a', .bool b', .bool c', .bool d']) := by rw [h, h2, h3, h4]
theorem v_pair {a b : Int} {k : IntKind} {c : Bool} (h : a = b) : Value.tuple #[.int k a, .bool c] = .tuple #[.int k b, .bool c] := by rw [h]
def isaClass (op : Int) : Int := if 1 ≤ op ∧ op ≤ 24 then 1 else if 32 ≤ op ∧ op ≤ 44 then 2 else if 64 ≤ op ∧ op ≤ 67 then 3 else if op = 96 then 4 else 0
def isaTwo (op : Int) : Bool := op == 14 || op == 15 || op == 19 || op == 20 || op == 21 || op == 22 || op == 96
def isaJumps (op : Int) : Bool := decide (16 ≤ op ∧ op ≤ 23)
def kA (op : Int) : Int :=
  if op = 14 ∨ op = 15 ∨ op = 20 ∨ op = 21 ∨ op = 23 ∨ op = 32 ∨ op = 33 ∨ op = 35 ∨ op = 36 ∨ op = 39 ∨ op = 40 ∨ op = 43 ∨ op = 44 ∨ op = 66 ∨ op = 67 then 1
  else if op = 2 ∨ op = 37 ∨ op = 38 ∨ op = 41 then 1 else if (3 ≤ op ∧ op ≤ 11) ∨ op = 24 then 1 else if op = 12 ∨ op = 13 then 1 else if op = 17 ∨ op = 18 then 1 else 0
def kB (op : Int) : Int :=
  if op = 2 ∨ op = 37 ∨ op = 38 ∨ op = 41 then 1 else if (3 ≤ op ∧ op ≤ 11) ∨ op = 24 then 1 else if op = 12 ∨ op = 13 then 1 else 0
def kC (op : Int) : Int :=
  if (3 ≤ op ∧ op ≤ 11) ∨ op = 24 then 1 else if op = 12 ∨ op = 13 then 2 else if op = 16 then 2 else if op = 17 ∨ op = 18 then 2 else 0
def uA (op : Int) : Bool := !(op == 1 || op == 34 || op == 42 || op == 64 || op == 65 || op == 19 || op == 22 || op == 96 || op == 16)
def uB (op : Int) : Bool := op == 2 || op == 37 || op == 38 || op == 41 || op == 12 || op == 13 || (decide (3 ≤ op) && decide (op ≤ 11)) || op == 24
def uC (op : Int) : Bool := op == 12 || op == 13 || op == 16 || op == 17 || op == 18 || (decide (3 ≤ op) && decide (op ≤ 11)) || op == 24
def uN (op : Int) : Bool := op == 12 || op == 13 || op == 16 || op == 17 || op == 18
def most (k : Int) : Int := if k = 0 then 0 else if k = 1 then 15 else 255
def fitsM (n k : Int) : Bool := decide (0 ≤ n) && decide (n ≤ most k)
theorem kA_in (op : Int) : kA op = 0 ∨ kA op = 1 ∨ kA op = 2 := by
  unfold kA; repeat' split
  all_goals simp
theorem kB_in (op : Int) : kB op = 0 ∨ kB op = 1 ∨ kB op = 2 := by
  unfold kB; repeat' split
  all_goals simp
theorem kC_in (op : Int) : kC op = 0 ∨ kC op = 1 ∨ kC op = 2 := by
  unfold kC; repeat' split
  all_goals simp
theorem wrap_i8_eq (n : Int) : IntKind.i8.wrap n = (n + 128) % 256 - 128 := by
  simp [IntKind.wrap, IntKind.bits, IntKind.signed]
  split <;> omega
def dispM (c : Int) : Int := (c + 128) % 256 - 128
def wordOk (op a b c i : Int) : Bool := !(isaClass op == 0) && fitsM a (kA op) && fitsM b (kB op) && fitsM c (kC op) && (!(i != 0) || isaTwo op)
def wordVal (op a b c : Int) : Int := op * 16777216 + a * 65536 + b * 256 + c
theorem class_in {op : Int} (h : (isaClass op == 0) = false) : 1 ≤ op ∧ op ≤ 96 := by
  have : isaClass op ≠ 0 := by simpa using h
  unfold isaClass at this
  repeat' split at this
  all_goals omega
theorem fits_in {n k : Int} (h : fitsM n k = true) : 0 ≤ n ∧ n ≤ 255 := by
  unfold fitsM most at h; simp only [Bool.and_eq_true, decide_eq_true_eq] at h
  obtain ⟨h1, h2⟩ := h
  repeat' split at h2
  all_goals omega
theorem wraps32 (n : Int) (h₀ : 0 ≤ n) (h₁ : n < 2 ^ 32) : IntKind.u32.wrap n = n := by rw [IntKind.wrap_u32]; omega
theorem u32_or_hi (i : Nat) (x y : Int) (hx₀ : 0 ≤ x) (hx : x % 2 ^ i = 0) (hx₁ : x < 2 ^ 32) (hy₀ : 0 ≤ y) (hy : y < 2 ^ i) (hy₁ : y < 2 ^ 32) : bits .or .u32 x y = x + y :=
  bits_join .u32 32 (by decide) wraps32 i x y hx₀ hx hx₁ hy₀ hy hy₁
theorem word_bits {op a b c : Int} (ho : 1 ≤ op ∧ op ≤ 255) (ha : 0 ≤ a ∧ a ≤ 255) (hb : 0 ≤ b ∧ b ≤ 255) (hc : 0 ≤ c ∧ c ≤ 255) :
    bits BinOp.or IntKind.u32 (bits BinOp.or IntKind.u32 (bits BinOp.or IntKind.u32 (op % 4294967296 * 16777216 % 4294967296) (a % 4294967296 * 65536 % 4294967296)) (b % 4294967296 * 256 % 4294967296)) (c % 4294967296) = wordVal op a b c := by
  have e1 : op % 4294967296 * 16777216 % 4294967296 = op * 16777216 := by omega
  have e2 : a % 4294967296 * 65536 % 4294967296 = a * 65536 := by omega
  have e3 : b % 4294967296 * 256 % 4294967296 = b * 256 := by omega
  have e4 : c % 4294967296 = c := by omega
  rw [e1, e2, e3, e4]
  rw [u32_or_hi 24 (op * 16777216) (a * 65536) (by omega) (by omega) (by omega) (by omega) (by omega) (by omega)]
  rw [u32_or_hi 16 (op * 16777216 + a * 65536) (b * 256) (by omega) (by omega) (by omega) (by omega) (by omega) (by omega)]
  rw [u32_or_hi 8 (op * 16777216 + a * 65536 + b * 256) c (by omega) (by omega) (by omega) (by omega) (by omega) (by omega)]
  rfl
theorem hi16_and (w : Int) (h : 0 ≤ w ∧ w < 4294967296) : bits .and .u32 (w / 65536) 255 = w / 65536 % 256 :=
  bits_mask .u32 32 (by decide) wraps32 8 (by decide) _ (by omega) (by omega)
theorem hi8_and (w : Int) (h : 0 ≤ w ∧ w < 4294967296) : bits .and .u32 (w / 256) 255 = w / 256 % 256 :=
  bits_mask .u32 32 (by decide) wraps32 8 (by decide) _ (by omega) (by omega)
theorem lo_and (w : Int) (h : 0 ≤ w ∧ w < 4294967296) : bits .and .u32 w 255 = w % 256 :=
  bits_mask .u32 32 (by decide) wraps32 8 (by decide) _ (by omega) (by omega)
def ofImm (w imm : Int) : Int := if isaTwo (w / 16777216) = true then imm else 0
def ofOk (w : Int) : Bool := wordOk (w / 16777216) (w / 65536 % 256) (w / 256 % 256) (w % 256) 0
theorem ofOk_imm {op a b c imm : Int} (h : isaTwo op = true) : wordOk op a b c imm = wordOk op a b c 0 := by
  unfold wordOk; rw [h]; simp
def wordW (op a b c i : Int) : Int := if wordOk op a b c i = true then wordVal op a b c else 0
def okA (op a : Int) : Bool := a == 0 || (uA op && (decide (0 < a) && decide (a ≤ 15)))
def okB (op a : Int) : Bool := a == 0 || (uB op && (decide (0 < a) && decide (a ≤ 15)))
def okC (op a : Int) : Bool := a == 0 || (uC op && (decide (0 < a) && decide (a ≤ if uN op = true then 255 else 15)))
theorem class_ops {op : Int} (h : (isaClass op == 0) = false) : (1 ≤ op ∧ op ≤ 24) ∨ (32 ≤ op ∧ op ≤ 44) ∨ (64 ≤ op ∧ op ≤ 67) ∨ op = 96 := by
  have : isaClass op ≠ 0 := by simpa using h
  unfold isaClass at this
  repeat' split at this
  all_goals omega
theorem ops_cases {P : Int → Prop} (h : ∀ n : Fin 97, P n.val) {op : Int} (h0 : 0 ≤ op) (h1 : op ≤ 96) : P op := by
  have := h ⟨op.toNat, by omega⟩
  have e : ((op.toNat : Nat) : Int) = op := by omega
  simpa [e] using this
theorem fitsA_ok {op a : Int} (h : (isaClass op == 0) = false) : fitsM a (kA op) = okA op a := by
  have hk : kA op = if uA op = true then 1 else 0 := by
    have := class_ops h
    revert h
    exact ops_cases (P := fun op => (isaClass op == 0) = false → kA op = if uA op = true then 1 else 0) (by decide +kernel) (by omega) (by omega)
  unfold fitsM okA most; rw [hk]
  cases uA op <;> simp <;> (rw [Bool.eq_iff_iff]; simp; omega)
theorem fitsB_ok {op a : Int} (h : (isaClass op == 0) = false) : fitsM a (kB op) = okB op a := by
  have hk : kB op = if uB op = true then 1 else 0 := by
    have := class_ops h
    revert h
    exact ops_cases (P := fun op => (isaClass op == 0) = false → kB op = if uB op = true then 1 else 0) (by decide +kernel) (by omega) (by omega)
  unfold fitsM okB most; rw [hk]
  cases uB op <;> simp <;> (rw [Bool.eq_iff_iff]; simp; omega)
theorem fitsC_ok {op a : Int} (h : (isaClass op == 0) = false) : fitsM a (kC op) = okC op a := by
  have hk : kC op = if uC op = true then (if uN op = true then 2 else 1) else 0 := by
    have := class_ops h
    revert h
    exact ops_cases (P := fun op => (isaClass op == 0) = false → kC op = if uC op = true then (if uN op = true then 2 else 1) else 0) (by decide +kernel) (by omega) (by omega)
  unfold fitsM okC most; rw [hk]
  cases uC op <;> cases uN op <;> simp <;> (rw [Bool.eq_iff_iff]; simp; omega)
theorem fits_zero (k : Int) : fitsM 0 k = true := by
  unfold fitsM most; simp; repeat' split
  all_goals omega
theorem wordA {op a : Int} (h : (isaClass op == 0) = false) : wordOk op a 0 0 0 = okA op a := by
  unfold wordOk; rw [h, fits_zero, fits_zero, fitsA_ok h]; simp
theorem wordB {op a : Int} (h : (isaClass op == 0) = false) : wordOk op 0 a 0 0 = okB op a := by
  unfold wordOk; rw [h, fits_zero, fits_zero, fitsB_ok h]; simp
theorem wordC {op a : Int} (h : (isaClass op == 0) = false) : wordOk op 0 0 a 0 = okC op a := by
  unfold wordOk; rw [h, fits_zero, fits_zero, fitsC_ok h]; simp
theorem val_op {op : Int} : wordVal op 0 0 0 = op * 16777216 := by unfold wordVal; omega
theorem and255 (x : Int) : bits .and .i64 x 255 = x % 256 := by
  have h1 : 0 ≤ x % 18446744073709551616 := by omega
  obtain ⟨n, hn⟩ := Int.eq_ofNat_of_zero_le h1
  have e : BitVec.ofInt 64 x = BitVec.ofNat 64 n := by
    apply BitVec.eq_of_toNat_eq
    simp [BitVec.toNat_ofInt]; omega
  have hlt : n < 18446744073709551616 := by omega
  have e2 : (BitVec.ofInt 64 x &&& BitVec.ofInt 64 255).toNat = n % 256 := by
    have : BitVec.ofInt 64 255 = BitVec.ofNat 64 255 := by decide
    rw [e, this, BitVec.toNat_and, BitVec.toNat_ofNat, BitVec.toNat_ofNat, Nat.mod_eq_of_lt (by omega), Nat.mod_eq_of_lt (by decide)]
    exact Nat.and_two_pow_sub_one_eq_mod n 8
  have e3 : bits .and .i64 x 255 = IntKind.i64.wrap ((BitVec.ofInt 64 x &&& BitVec.ofInt 64 255).toNat : Nat) := rfl
  rw [e3, e2, IntKind.wrap_i64]
  omega
theorem dist_low (c : Int) : bits .and .i64 (wrap64 (dispM c - c)) 255 = 0 := by
  rw [and255]; unfold wrap64 dispM; omega
theorem dispM_in (c : Int) : -128 ≤ dispM c ∧ dispM c ≤ 127 := by unfold dispM; omega
theorem word_imm {v imm j : Int} (h : ofOk v = true) (hj : ofImm v imm = j) : wordOk (v / 16777216) (v / 65536 % 256) (v / 256 % 256) (v % 256) j = true := by
  unfold ofImm at hj
  cases ht : isaTwo (v / 16777216)
  · rw [ht] at hj; simp at hj; subst hj; exact h
  · exact (ofOk_imm ht).trans h
end Go.Fac

set_option linter.unusedVariables false
set_option linter.unusedSimpArgs false
namespace Go.Proofs.YtbdfibaljoedpaaDoor
open Go.RowKit Go.Sy Go.Fac
abbrev bodyOf (f : Func) : Code := f.body.getD .skip
section
variable {ea : Int → Addr} {has : Int → Prop} {gl : List (Nat × SVal)}
abbrev plainQ (v : SVal) : Exi → SState → Prop := fun _ s => all (sub 134 (lookS s.hp) [] deep ((find 0 s.fr).getD .any) v)
abbrev start (args : List SVal) (n : Nat) : SState := { fr := numb 0 args, hp := [], next := 0, sz := n }
theorem plain_mk {f : Nat} {fn : Func} {k : List SVal → Nat → Acc ORes} (hf : Tryd.prog.funcs[f]? = some fn) (n : Nat) {con : List (Nat × (List SVal → Nat → Acc ORes))} (hcon : Cons Tryd.prog (ctx ea has) gl con)
    (hk : ∀ {W : World} {R : Nat → Prop} {ρ : Nat → Option Value} {h : Nat → Option Cont} {args : List SVal} {vs : List Value} {next : Nat} {r : ORes} {l l' : List Nat}, DenA (ctx ea has) W R ρ args vs → (k args next).run h l = .ok (r, l') → (∀ q, r.vc = some q → q) →
      ∃ args' ls, r.ws = [] ∧ r.k = 0 ∧ all (subL 134 none' [] deep args args') ∧ Nat.ble args'.length n = true ∧
        (∀ W R ρ0 own0, HownOk (env gl con) own0 ρ0 → ∀ b ∈ loopsOf (bodyOf fn), ∀ L, find (headId b) ls = some L → LOk Tryd.prog (env gl con) (ctx ea has) gl W R own0 ρ0 b L) ∧
        (run (env gl con) ls (bodyOf fn) (start args' n) (ends (env gl con) fn.results.toList)).sat (plainQ r.v))
    (hb : fn.body = some (bodyOf fn)) (hname : (fn.name == "runtime.NumGoroutine") = false) (hnt : fn.ntmps = n) : Con ea has gl f k where
  call := enters hf hb hname
  does {W R ρ h args vs next r l l'} M hA hr hv hn := by
    obtain ⟨args', ls, h1, h2, h3, h4, HL, h5⟩ := hk hA hr hv
    exact con_plain (env_ok hcon) hf hb M (Enters.bare M hA (all_mem h3)) ⟨rfl, (by rw [h1]; intro p hp; cases hp), h2⟩ rfl hnt h4 HL h5
theorem new_mk {f : Nat} {fn : Func} {k : List SVal → Nat → Acc ORes} (hf : Tryd.prog.funcs[f]? = some fn) (n : Nat) {con : List (Nat × (List SVal → Nat → Acc ORes))} (hcon : Cons Tryd.prog (ctx ea has) gl con)
    (hk : ∀ {W : World} {R : Nat → Prop} {ρ : Nat → Option Value} {h : Nat → Option Cont} {args : List SVal} {vs : List Value} {next : Nat} {r : ORes} {l l' : List Nat}, DenA (ctx ea has) W R ρ args vs → (k args next).run h l = .ok (r, l') → (∀ q, r.vc = some q → q) →
      ∃ args' ls rv hp m, (r.v = shV next rv ∧ r.ws = shH next hp ∧ r.k = m) ∧ all (subL 134 none' [] deep args args') ∧ Nat.ble args'.length n = true ∧ (nodupB (keysH hp) && allLt m (keysH hp) && boundIn (keysH hp) m) = true ∧
        (∀ W R ρ0 own0, HownOk (env gl con) own0 ρ0 → ∀ b ∈ loopsOf (bodyOf fn), ∀ L, find (headId b) ls = some L → LOk Tryd.prog (env gl con) (ctx ea has) gl W R own0 ρ0 b L) ∧
        (run (env gl con) ls (bodyOf fn) (start args' n) (ends (env gl con) fn.results.toList)).sat (newQ (env gl con) rv hp m))
    (hb : fn.body = some (bodyOf fn)) (hname : (fn.name == "runtime.NumGoroutine") = false) (hnt : fn.ntmps = n) : Con ea has gl f k where
  call := enters hf hb hname
  does {W R ρ h args vs next r l l'} M hA hr hv hn := by
    obtain ⟨args', ls, rv, hp, m, h1, h3, h4, h6, HL, h5⟩ := hk hA hr hv
    exact con_new (env_ok hcon) hf hb M (fz := []) (Enters.bare M hA (all_mem h3)) h1 (fun p hp => by cases hp) hn rfl hnt h4 h6 HL h5
def LastIs (h : Nat → Option Cont) (a0 : List SVal) (t : RT) (x : List t.ty) (args : List SVal) (ws : List (Nat × Option Cont)) : Prop :=
  (args = a0 ++ [.ro t x] ∧ ws = []) ∨ (args = a0 ++ [.nilslice] ∧ x = [] ∧ ws = []) ∨ ∃ q, args = a0 ++ [.own q] ∧ h q = some (.recs t x) ∧ ws = [(q, none)]
theorem nil_ro {C : Ctx} {W : World} {R : Nat → Prop} {ρ : Nat → Option Value} {t : RT} : ∀ {l : List SVal} {vs : List Value}, DenA C W R ρ (l ++ [.nilslice]) vs → DenA C W R ρ (l ++ [.ro t []]) vs := by
  intro l
  induction l with
  | nil =>
    intro vs h
    cases h with
    | cons _ v _ us h1 h2 =>
      cases h2
      refine .cons _ _ _ _ ?_ .nil
      cases h1
      exact .ro _ [] none 0 [] (Nat.le_refl _) (Nat.zero_le _) .nil (fun h => (h rfl).elim) fun _ => rfl
  | cons a l ih =>
    intro vs h
    cases h with
    | cons _ v _ us h1 h2 => exact .cons _ _ _ _ h1 (ih h2)
theorem last_enters {W : World} {R : Nat → Prop} {ρ : Nat → Option Value} {h : Nat → Option Cont} {r : ORes} {args : List SVal} {vs : List Value} (M : Mem (ctx ea has) gl W R ρ h) {a0 a' : List SVal} {t : RT} {x : List t.ty} {fz : List (Nat × Option Cont)}
    (hL : LastIs h a0 t x args fz) (hk : ∀ n ∈ keys fz, n ∈ keys r.ws) (hA : DenA (ctx ea has) W R ρ args vs) (h3 : all (subL 134 none' [] deep a0 a')) : ∃ R1 own0, Enters (ctx ea has) gl W R ρ h r R1 own0 (fun _ => none) [] 0 (a' ++ [.ro t x]) vs := by
  rcases hL with ⟨rfl, _⟩ | ⟨rfl, rfl, _⟩ | ⟨q, rfl, hq, rfl⟩
  · exact ⟨_, _, Enters.last M hA (all_mem h3)⟩
  · exact ⟨_, _, Enters.last M (nil_ro hA) (all_mem h3)⟩
  · exact Enters.frozen M hq (hk q (by simp [keys])) hA (all_mem h3)
theorem last_fz {W : World} {R : Nat → Prop} {ρ : Nat → Option Value} {h : Nat → Option Cont} {args : List SVal} (M : Mem (ctx ea has) gl W R ρ h) {a0 : List SVal} {t : RT} {x : List t.ty} {fz : List (Nat × Option Cont)}
    (hL : LastIs h a0 t x args fz) : ∀ p ∈ fz, p.2 = none ∧ ρ p.1 ≠ none := by
  rcases hL with ⟨_, rfl⟩ | ⟨_, _, rfl⟩ | ⟨q, _, hq, rfl⟩
  · intro p hp; cases hp
  · intro p hp; cases hp
  · intro p hp
    simp only [List.mem_singleton] at hp
    subst hp
    obtain ⟨v, hv, _⟩ := M.at_ q _ hq
    exact ⟨rfl, by rw [hv]; simp⟩
theorem lastP_mk {f : Nat} {fn : Func} {k : List SVal → Nat → Acc ORes} (hf : Tryd.prog.funcs[f]? = some fn) (n : Nat) {con : List (Nat × (List SVal → Nat → Acc ORes))} (hcon : Cons Tryd.prog (ctx ea has) gl con)
    (hk : ∀ {W : World} {R : Nat → Prop} {ρ : Nat → Option Value} {h : Nat → Option Cont} {args : List SVal} {vs : List Value} {next : Nat} {r : ORes} {l l' : List Nat}, DenA (ctx ea has) W R ρ args vs → (k args next).run h l = .ok (r, l') → (∀ q, r.vc = some q → q) →
      ∃ a0 t x a' ls, LastIs h a0 t x args r.ws ∧ r.k = 0 ∧ all (subL 134 none' [] deep a0 a') ∧ Nat.ble (a' ++ [SVal.ro t x]).length n = true ∧
        (∀ W R ρ0 own0, HownOk (env gl con) own0 ρ0 → ∀ b ∈ loopsOf (bodyOf fn), ∀ L, find (headId b) ls = some L → LOk Tryd.prog (env gl con) (ctx ea has) gl W R own0 ρ0 b L) ∧
        (run (env gl con) ls (bodyOf fn) (start (a' ++ [.ro t x]) n) (ends (env gl con) fn.results.toList)).sat (plainQ r.v))
    (hb : fn.body = some (bodyOf fn)) (hname : (fn.name == "runtime.NumGoroutine") = false) (hnt : fn.ntmps = n) : Con ea has gl f k where
  call := enters hf hb hname
  does {W R ρ h args vs next r l l'} M hA hr hv hn := by
    obtain ⟨a0, t, x, a', ls, h1, h2, h3, h4, HL, h5⟩ := hk hA hr hv
    obtain ⟨R1, own0, S⟩ := last_enters M (r := r) h1 (fun _ h => h) hA h3
    exact con_plain (env_ok hcon) hf hb M S ⟨rfl, fun p hp => (last_fz M h1 p hp).1, h2⟩ rfl hnt h4 HL h5
theorem lastN_mk {f : Nat} {fn : Func} {k : List SVal → Nat → Acc ORes} (hf : Tryd.prog.funcs[f]? = some fn) (n : Nat) {con : List (Nat × (List SVal → Nat → Acc ORes))} (hcon : Cons Tryd.prog (ctx ea has) gl con)
    (hk : ∀ {W : World} {R : Nat → Prop} {ρ : Nat → Option Value} {h : Nat → Option Cont} {args : List SVal} {vs : List Value} {next : Nat} {r : ORes} {l l' : List Nat}, DenA (ctx ea has) W R ρ args vs → (k args next).run h l = .ok (r, l') → (∀ q, r.vc = some q → q) →
      ∃ a0 t x a' ls rv hp m fz, LastIs h a0 t x args fz ∧ (r.v = shV next rv ∧ r.ws = fz ++ shH next hp ∧ r.k = m) ∧ all (subL 134 none' [] deep a0 a') ∧ Nat.ble (a' ++ [SVal.ro t x]).length n = true ∧ (nodupB (keysH hp) && allLt m (keysH hp) && boundIn (keysH hp) m) = true ∧
        (∀ W R ρ0 own0, HownOk (env gl con) own0 ρ0 → ∀ b ∈ loopsOf (bodyOf fn), ∀ L, find (headId b) ls = some L → LOk Tryd.prog (env gl con) (ctx ea has) gl W R own0 ρ0 b L) ∧
        (run (env gl con) ls (bodyOf fn) (start (a' ++ [.ro t x]) n) (ends (env gl con) fn.results.toList)).sat (newQ (env gl con) rv hp m))
    (hb : fn.body = some (bodyOf fn)) (hname : (fn.name == "runtime.NumGoroutine") = false) (hnt : fn.ntmps = n) : Con ea has gl f k where
  call := enters hf hb hname
  does {W R ρ h args vs next r l l'} M hA hr hv hn := by
    obtain ⟨a0, t, x, a', ls, rv, hp, m, fz, h1, h2, h3, h4, h6, HL, h5⟩ := hk hA hr hv
    obtain ⟨R1, own0, S⟩ := last_enters M (r := r) h1 (fun n h => by rw [h2.2.1]; simp only [keys, List.map_append, List.mem_append]; exact .inl h) hA h3
    exact con_new (env_ok hcon) hf hb M S h2 (last_fz M h1) hn rfl hnt h4 h6 HL h5
abbrev envO (gl : List (Nat × SVal)) (con : List (Nat × (List SVal → Nat → Acc ORes))) : Env := { env gl con with old := [0] }
theorem envO_ok {con : List (Nat × (List SVal → Nat → Acc ORes))} (h : Cons Tryd.prog (ctx ea has) gl con) : EnvOk Tryd.prog (ctx ea has) gl (envO gl con) :=
  let e := env_ok h
  ⟨e.tab, e.err, e.glob, e.tAt, e.mixed, e.con, e.cmp⟩
abbrev mapQ (gl : List (Nat × SVal)) (con : List (Nat × (List SVal → Nat → Acc ORes))) (v : SVal) (c1 : Cont) : Exi → SState → Prop := fun _ s => fits (envO gl con) s { fr := [(0, v)], hp := [(0, some c1)], next := 1, sz := 1 }
abbrev startM (args : List SVal) (c : Cont) (n : Nat) : SState := { fr := numb 0 (args ++ [.map 0]), hp := [(0, some c)], next := 1, sz := n }
theorem map_mk {f : Nat} {fn : Func} {k : List SVal → Nat → Acc ORes} (hf : Tryd.prog.funcs[f]? = some fn) (n : Nat) {con : List (Nat × (List SVal → Nat → Acc ORes))} (hcon : Cons Tryd.prog (ctx ea has) gl con)
    (hk : ∀ {W : World} {R : Nat → Prop} {ρ : Nat → Option Value} {h : Nat → Option Cont} {args : List SVal} {vs : List Value} {next : Nat} {r : ORes} {l l' : List Nat}, DenA (ctx ea has) W R ρ args vs → (k args next).run h l = .ok (r, l') → (∀ q, r.vc = some q → q) →
      ∃ a0 q c0 c1 a' ls, args = a0 ++ [.map q] ∧ h q = some c0 ∧ (isMapC c0 && isMapC c1) = true ∧ (plain r.v = true ∧ r.ws = [(q, some c1)] ∧ r.k = 0) ∧ all (subL 134 none' [] deep a0 a') ∧ Nat.ble (a'.length + 1) n = true ∧
        (∀ W R ρ0 own0, HownOk (envO gl con) own0 ρ0 → ∀ b ∈ loopsOf (bodyOf fn), ∀ L, find (headId b) ls = some L → LOk Tryd.prog (envO gl con) (ctx ea has) gl W R own0 ρ0 b L) ∧
        (run (envO gl con) ls (bodyOf fn) (startM a' c0 n) (ends (envO gl con) fn.results.toList)).sat (mapQ gl con r.v c1))
    (hb : fn.body = some (bodyOf fn)) (hname : (fn.name == "runtime.NumGoroutine") = false) (hnt : fn.ntmps = n) : Con ea has gl f k where
  call := enters hf hb hname
  does {W R ρ h args vs next r l l'} M hA hr hv hn := by
    obtain ⟨a0, q, c0, c1, a', ls, rfl, h1, h2, h3, h4, h5, HL, h6⟩ := hk hA hr hv
    exact con_map (envO_ok hcon) hf hb M hA (next := next) h1 h2 h3 rfl hnt (all_mem h4) h5 HL h6
abbrev envK (gl : List (Nat × SVal)) (con : List (Nat × (List SVal → Nat → Acc ORes))) (m : Nat) : Env := { env gl con with old := rangeN 0 m }
theorem envK_ok {con : List (Nat × (List SVal → Nat → Acc ORes))} {m : Nat} (h : Cons Tryd.prog (ctx ea has) gl con) : EnvOk Tryd.prog (ctx ea has) gl (envK gl con m) :=
  let e := env_ok h
  ⟨e.tab, e.err, e.glob, e.tAt, e.mixed, e.con, e.cmp⟩
def handsOk (h : Nat → Option Cont) (f : Nat → Nat) : List Nat → List Cont → Prop
  | [], [] => True
  | q :: qs, c :: cs => h q = some (rnC f c) ∧ handsOk h f qs cs
  | _, _ => False
theorem hands_of {h : Nat → Option Cont} {f : Nat → Nat} : ∀ {qs : List Nat} {cs : List Cont}, handsOk h f qs cs → cs.length = qs.length ∧ ∀ (i q : Nat) (c : Cont), qs[i]? = some q → cs[i]? = some c → h q = some (rnC f c)
  | [], [], _ => ⟨rfl, fun i q c h1 => by simp at h1⟩
  | q :: qs, c :: cs, ⟨h1, h2⟩ => by
    obtain ⟨e1, e2⟩ := hands_of h2
    refine ⟨by simp [e1], fun i q' c' k1 k2 => ?_⟩
    cases i with
    | zero => simp at k1 k2; subst k1 k2; exact h1
    | succ i => exact e2 i q' c' (by simpa using k1) (by simpa using k2)
  | [], _ :: _, h => h.elim
  | _ :: _, [], h => h.elim
abbrev S1 (args : List SVal) (hp : List (Nat × Option Cont)) (next n : Nat) : SState := { fr := numb 0 args, hp := hp, next := next, sz := n }
theorem gen_mk {f : Nat} {fn : Func} {k : List SVal → Nat → Acc ORes} (hf : Tryd.prog.funcs[f]? = some fn) (n m : Nat) {con : List (Nat × (List SVal → Nat → Acc ORes))} (hcon : Cons Tryd.prog (ctx ea has) gl con)
    (hk : ∀ {W : World} {R : Nat → Prop} {ρ : Nat → Option Value} {h : Nat → Option Cont} {args : List SVal} {vs : List Value} {next : Nat} {r : ORes} {l l' : List Nat}, DenA (ctx ea has) W R ρ args vs → (k args next).run h l = .ok (r, l') → (∀ q, r.vc = some q → q) →
      ∃ kept rest cs args0 s1 ls rv hp j, args = rnL (gq (kept ++ rest)) args0 ∧ kept.length = m ∧ (r.v = rnV (fN kept next) rv ∧ r.ws = gone rest ++ rnH (fN kept next) hp ∧ r.k = j) ∧ nodupB (kept ++ rest) = true ∧ handsOk h (gq (kept ++ rest)) (kept ++ rest) cs ∧
        (okL (kept ++ rest).length args0 && cs.all (okC (kept ++ rest).length)) = true ∧ Nat.ble args0.length n = true ∧
        fits (envK gl con m) (S1 args0 (numC 0 cs) (kept ++ rest).length n) s1 ∧ (nodupB (keysH hp) && allLt (m + j) (keysH hp) && boundIn (keysH hp) (m + j)) = true ∧
        (∀ W R ρ0 own0, HownOk (envK gl con m) own0 ρ0 → ∀ b ∈ loopsOf (bodyOf fn), ∀ L, find (headId b) ls = some L → LOk Tryd.prog (envK gl con m) (ctx ea has) gl W R own0 ρ0 b L) ∧
        (run (envK gl con m) ls (bodyOf fn) s1 (ends (envK gl con m) fn.results.toList)).sat (newQ (envK gl con m) rv hp (m + j)))
    (hb : fn.body = some (bodyOf fn)) (hname : (fn.name == "runtime.NumGoroutine") = false) (hnt : fn.ntmps = n) : Con ea has gl f k where
  call := enters hf hb hname
  does {W R ρ h args vs next r l l'} M hA hr hv hn := by
    obtain ⟨kept, rest, cs, args0, s1, ls, rv, hp, j, rfl, rfl, h2, h3, h4, h5, h6, h7, h8, HL, h9⟩ := hk hA hr hv
    obtain ⟨e1, e2⟩ := hands_of h4
    refine con_gen (envK_ok hcon) hf hb M hA h2 (fun p hp => (gone_find (K := rest) (n := p.1) (c := p.2) ?_).2) hn rfl e1 h3 e2 (fun q hq => ?_) h5 rfl hnt h6 h7 h8 HL h9
    · have gen : ∀ (L : List Nat) (p : Nat × Option Cont), p ∈ gone L → find p.1 (gone L) = some p.2 := fun L => by
        induction L with
        | nil => intro p hp; cases hp
        | cons q L ih =>
          intro p hp
          simp only [gone, find]
          cases hb : q.beq p.1 with
          | true =>
            have all : ∀ L, ∀ p ∈ gone L, p.2 = none := fun L => by
              induction L with
              | nil => intro p hp; cases hp
              | cons q L ih =>
                intro p hp
                rcases List.mem_cons.1 hp with rfl | hp
                · rfl
                · exact ih p hp
            rw [all _ p hp]
          | false =>
            rcases List.mem_cons.1 hp with rfl | hp
            · rw [Nat.beq_refl] at hb; cases hb
            · exact ih p hp
      exact gen rest p hp
    · rw [h2.2.1]
      simp only [keys, List.map_append, List.mem_append] at hq ⊢
      rcases hq with hq | hq
      · obtain ⟨i, hi⟩ := List.mem_iff_getElem?.1 hq
        have hlt : i < kept.length := (List.getElem?_eq_some_iff.1 hi).1
        obtain ⟨q', g1, g2⟩ := fN_lt (next := next) hlt
        rw [hi] at g1; cases g1
        right
        simp only [Bool.and_eq_true] at h8
        have := rnH_key (f := fN kept next) (boundIn_of h8.2 i (by omega))
        rw [g2] at this
        exact this
      · exact .inl (gone_keys.2 hq)
theorem ro_split {W : World} {R : Nat → Prop} {ρ ρ' : Nat → Option Value} {t : RT} {l : List t.ty} {v : Value} (h : Den (ctx ea has) W R ρ (.ro t l) v) : (l = [] ∧ Den (ctx ea has) W R ρ' .nilslice v) ∨ Den (ctx ea has) W R ρ' (.roN t l) v := by
  cases h with
  | ro _ _ A cap vs h1 h2 h3 h4 h5 =>
    cases A with
    | none =>
      have := h5 rfl
      subst this
      have : l = [] := List.eq_nil_of_length_eq_zero (by omega)
      subst this
      exact .inl ⟨rfl, .nilslice⟩
    | some a =>
      refine .inr (.roN t l a cap vs h1 h2 (h3.free (fun _ h => h) (flat_plain t l)) fun hl => ?_)
      obtain ⟨b, off, e, g⟩ := h4 hl
      cases e
      exact ⟨b, off, rfl, g⟩
theorem Enters.raw {C : Ctx} {W : World} {R : Nat → Prop} {ρ : Nat → Option Value} {h : Nat → Option Cont} (M : Mem C gl W R ρ h) {r : ORes} {args' : List SVal} {vs : List Value} (hA : DenA C W R (fun _ => none) args' vs) :
    Enters C gl W R ρ h r R (fun _ => False) (fun _ => none) [] 0 args' vs where
  args := hA
  mem := ⟨M.base, (fun r c hc => by cases hc), (fun r r' c c' v v' b h1 => by cases h1), (fun r c v b h1 => by cases h1)⟩
  above _ _ := rfl
  Rm _ h := h
  Rn _ h := .inl h
  owned b hb := by obtain ⟨r, c, v, h1, _⟩ := hb; cases h1
  own b hb := hb.elim
def kClone (t : RT) : List SVal → Nat → Acc ORes := fun a n => match a with
  | [.ro t' l] => match decEq t' t with
    | .isTrue h => .ret (newR n (.own 0) [(0, .recs t (h ▸ l))] 1 (some (l.length ≤ 137438953472)))
    | .isFalse _ => .fail "clone"
  | _ => .fail "clone"
theorem clone_mk {f : Nat} {fn : Func} {t : RT} (hf : Tryd.prog.funcs[f]? = some fn) (n : Nat)
    (h1 : (run (env gl []) [] (bodyOf fn) (start [.nilslice] n) (ends (env gl []) fn.results.toList)).sat (newQ (env gl []) (.own 0) [(0, .recs t [])] 1))
    (h2 : ∀ l : List t.ty, l.length ≤ 137438953472 → (run (env gl []) [] (bodyOf fn) (start [.roN t l] n) (ends (env gl []) fn.results.toList)).sat (newQ (env gl []) (.own 0) [(0, .recs t l)] 1))
    (hb : fn.body = some (bodyOf fn)) (hl : loopsOf (bodyOf fn) = []) (hname : (fn.name == "runtime.NumGoroutine") = false) (hnt : fn.ntmps = n) (hn1 : Nat.ble 1 n = true) : Con ea has gl f (kClone t) where
  call := enters hf hb hname
  does {W R ρ h args vs next r l l'} M hA hr hv hn := by
    unfold kClone at hr
    split at hr
    · rename_i t' x
      split at hr
      · have e := ‹t' = t›
        subst e
        have := ret_ok hr; subst this
        have hx := hv _ rfl
        have HL : ∀ W R ρ0 own0, HownOk (env gl []) own0 ρ0 → ∀ b ∈ loopsOf (bodyOf fn), ∀ L, find (headId b) ([] : List (Nat × LSum)) = some L → LOk Tryd.prog (env gl []) (ctx ea has) gl W R own0 ρ0 b L := fun _ _ _ _ _ b hb' => by rw [hl] at hb'; cases hb'
        cases hA with
        | cons _ v _ us d1 d2 =>
          cases d2
          rcases ro_split (ρ' := fun _ => none) d1 with ⟨rfl, d⟩ | d
          · exact con_new (env_ok (con := []) trivial) hf hb M (fz := []) (Enters.raw M (.cons _ _ _ _ d .nil)) ⟨rfl, rfl, rfl⟩ (fun p hp => by cases hp) hn rfl hnt (by simpa using hn1) rfl HL h1
          · exact con_new (env_ok (con := []) trivial) hf hb M (fz := []) (Enters.raw M (.cons _ _ _ _ d .nil)) ⟨rfl, rfl, rfl⟩ (fun p hp => by cases hp) hn rfl hnt (by simpa using hn1) rfl HL (h2 x hx)
      · simp [Acc.run] at hr
    · simp [Acc.run] at hr
theorem noLoops {c : Code} (h : loopsOf c = []) {Z : Code → LSum → Prop} {ls : List (Nat × LSum)} : ∀ b ∈ loopsOf c, ∀ L, find (headId b) ls = some L → Z b L := fun b hb => by rw [h] at hb; cases hb
def ofF (w imm : Int) : In5 := if ofOk w = true then ⟨w / 16777216, w / 65536 % 256, w / 256 % 256, w % 256, ofImm w imm⟩ else ⟨0, 0, 0, 0, 0⟩
theorem DenA.i0 {C : Ctx} {W : World} {R : Nat → Prop} {ρ : Nat → Option Value} {k : IntKind} {a : SI} {l : List SVal} {vs : List Value} (h : DenA C W R ρ (.int k a :: l) vs) : InI k a := by
  cases h with | cons _ _ _ _ h _ => exact h.int_inv.2
theorem DenA.tl {C : Ctx} {W : World} {R : Nat → Prop} {ρ : Nat → Option Value} {a : SVal} {l : List SVal} {vs : List Value} (h : DenA C W R ρ (a :: l) vs) : ∃ us, DenA C W R ρ l us := by
  cases h with | cons _ _ _ us _ h => exact ⟨us, h⟩
def kTables : List SVal → Nat → Acc ORes := fun a n => match a with | [] => .ret ({ v := .agg [] }) | _ => .fail "Tables"
theorem argTables  : (all (subL 134 none' [] deep [] [])) = (
  True) := by kernel_rfl
theorem runTables (gl : List (Nat × SVal)) : (Tr.sat (plainQ (.agg [])) (run (env gl []) [] (bodyOf Tryd.f59) (start [] 2) (ends (env gl []) Tryd.f59.results.toList))) = (
  True) := by kernel_rfl
set_option maxHeartbeats 4000000 in
theorem cTables : Con ea has gl 59 kTables := by
  refine plain_mk Tryd.func59 2 (con := []) trivial (fun hA hr hv => ?_) (by kernel_rfl) (by kernel_rfl) Tryd.ntmps59
  unfold kTables at hr; split at hr
  · skip
    have := ret_ok hr; subst this
    refine ⟨_, [], rfl, rfl, (argTables ).mpr (by simp), rfl, (fun W R ρ0 own0 hown => noLoops (by kernel_rfl)), (runTables gl ).mpr ?_⟩
    clear hr
    trivial
  · cases hr
def kClass : List SVal → Nat → Acc ORes := fun a n => match a with | [.agg [], .int .i64 op] => .ret ({ v := .int .i64 (.sym (isaClass op.val) 0 4) }) | _ => .fail "Class"
theorem argClass (op : SI) : (all (subL 134 none' [] deep [.agg [], .int .i64 op] [.agg [], .int .i64 (.full op.val)])) = (
  SI.val op = SI.val op) := by kernel_rfl
theorem runClass (gl : List (Nat × SVal)) (op : SI) : (Tr.sat (plainQ (.int .i64 (.sym (isaClass op.val) 0 4))) (run (env gl []) [] (bodyOf Tryd.f60) (start [.agg [], .int .i64 (.full op.val)] 29) (ends (env gl []) Tryd.f60.results.toList))) = (
  ((decide ((1 : Int) ≤ SI.val op) && decide (SI.val op ≤ (24 : Int))) = true → (1 : Int) = isaClass (SI.val op)) ∧ ((decide ((1 : Int) ≤ SI.val op) && decide (SI.val op ≤ (24 : Int))) = false → ((decide ((32 : Int) ≤ SI.val op) && decide (SI.val op ≤ (44 : Int))) = true → (2 : Int) = isaClass (SI.val op)) ∧ ((decide ((32 : Int) ≤ SI.val op) && decide (SI.val op ≤ (44 : Int))) = false → ((decide ((64 : Int) ≤ SI.val op) && decide (SI.val op ≤ (67 : Int))) = true → (3 : Int) = isaClass (SI.val op)) ∧ ((decide ((64 : Int) ≤ SI.val op) && decide (SI.val op ≤ (67 : Int))) = false → (decide (SI.val op = (96 : Int)) = true → (4 : Int) = isaClass (SI.val op)) ∧ (decide (SI.val op = (96 : Int)) = false → (0 : Int) = isaClass (SI.val op)))))) := by kernel_rfl
set_option maxHeartbeats 4000000 in
theorem cClass : Con ea has gl 60 kClass := by
  refine plain_mk Tryd.func60 29 (con := []) trivial (fun hA hr hv => ?_) (by kernel_rfl) (by kernel_rfl) Tryd.ntmps60
  unfold kClass at hr; split at hr
  · rename_i op
    have := ret_ok hr; subst this
    refine ⟨_, [], rfl, rfl, (argClass op).mpr (by simp), rfl, (fun W R ρ0 own0 hown => noLoops (by kernel_rfl)), (runClass gl op).mpr ?_⟩
    clear hr
    generalize op.val = op
    simp only [isaClass, Bool.and_eq_true, decide_eq_true_eq, Bool.and_eq_false_imp, decide_eq_false_iff_not]
    repeat (first | omega | split | intro _ | refine ⟨?_, ?_⟩)
  · cases hr
def kTwo : List SVal → Nat → Acc ORes := fun a n => match a with | [.agg [], .int .i64 op] => .ret ({ v := .bool (.sym (isaTwo op.val)) }) | _ => .fail "Two"
theorem argTwo (op : SI) : (all (subL 134 none' [] deep [.agg [], .int .i64 op] [.agg [], .int .i64 (.full op.val)])) = (
  SI.val op = SI.val op) := by kernel_rfl
theorem runTwo (gl : List (Nat × SVal)) (op : SI) : (Tr.sat (plainQ (.bool (.sym (isaTwo op.val)))) (run (env gl []) [] (bodyOf Tryd.f105) (start [.agg [], .int .i64 (.full op.val)] 14) (ends (env gl []) Tryd.f105.results.toList))) = (
  (decide (SI.val op = (14 : Int)) = true → true = isaTwo (SI.val op)) ∧ (decide (SI.val op = (14 : Int)) = false → (decide (SI.val op = (15 : Int)) = true → true = isaTwo (SI.val op)) ∧ (decide (SI.val op = (15 : Int)) = false → (decide (SI.val op = (19 : Int)) = true → true = isaTwo (SI.val op)) ∧ (decide (SI.val op = (19 : Int)) = false → (decide (SI.val op = (20 : Int)) = true → true = isaTwo (SI.val op)) ∧ (decide (SI.val op = (20 : Int)) = false → (decide (SI.val op = (21 : Int)) = true → true = isaTwo (SI.val op)) ∧ (decide (SI.val op = (21 : Int)) = false → (decide (SI.val op = (22 : Int)) = true → true = isaTwo (SI.val op)) ∧ (decide (SI.val op = (22 : Int)) = false → (decide (SI.val op = (96 : Int)) = true → true = isaTwo (SI.val op)) ∧ (decide (SI.val op = (96 : Int)) = false → false = isaTwo (SI.val op))))))))) := by kernel_rfl
set_option maxHeartbeats 4000000 in
theorem cTwo : Con ea has gl 105 kTwo := by
  refine plain_mk Tryd.func105 14 (con := []) trivial (fun hA hr hv => ?_) (by kernel_rfl) (by kernel_rfl) Tryd.ntmps105
  unfold kTwo at hr; split at hr
  · rename_i op
    have := ret_ok hr; subst this
    refine ⟨_, [], rfl, rfl, (argTwo op).mpr (by simp), rfl, (fun W R ρ0 own0 hown => noLoops (by kernel_rfl)), (runTwo gl op).mpr ?_⟩
    clear hr
    generalize op.val = op
    simp only [decide_eq_true_eq, decide_eq_false_iff_not]
    repeat (first | (intro h; subst h; rfl) | intro _ | refine ⟨?_, ?_⟩ | (simp [isaTwo, *]; done))
  · cases hr
def koperands : List SVal → Nat → Acc ORes := fun a n => match a with | [.int .i64 op] => .ret ({ v := .tuple [.int .i64 (.sym (kA op.val) 0 2), .int .i64 (.sym (kB op.val) 0 2), .int .i64 (.sym (kC op.val) 0 2)] }) | _ => .fail "operands"
theorem argoperands (op : SI) : (all (subL 134 none' [] deep [.int .i64 op] [.int .i64 (.full op.val)])) = (
  SI.val op = SI.val op) := by kernel_rfl
theorem runoperands (gl : List (Nat × SVal)) (op : SI) : (Tr.sat (plainQ (.tuple [.int .i64 (.sym (kA op.val) 0 2), .int .i64 (.sym (kB op.val) 0 2), .int .i64 (.sym (kC op.val) 0 2)])) (run (env gl []) [] (bodyOf Tryd.f104) (start [.int .i64 (.full op.val)] 46) (ends (env gl []) Tryd.f104.results.toList))) = (
  (decide (SI.val op = (14 : Int)) = true → (1 : Int) = kA (SI.val op) ∧ (0 : Int) = kB (SI.val op) ∧ (0 : Int) = kC (SI.val op)) ∧ (decide (SI.val op = (14 : Int)) = false → (decide (SI.val op = (15 : Int)) = true → (1 : Int) = kA (SI.val op) ∧ (0 : Int) = kB (SI.val op) ∧ (0 : Int) = kC (SI.val op)) ∧ (decide (SI.val op = (15 : Int)) = false → (decide (SI.val op = (20 : Int)) = true → (1 : Int) = kA (SI.val op) ∧ (0 : Int) = kB (SI.val op) ∧ (0 : Int) = kC (SI.val op)) ∧ (decide (SI.val op = (20 : Int)) = false → (decide (SI.val op = (21 : Int)) = true → (1 : Int) = kA (SI.val op) ∧ (0 : Int) = kB (SI.val op) ∧ (0 : Int) = kC (SI.val op)) ∧ (decide (SI.val op = (21 : Int)) = false → (decide (SI.val op = (23 : Int)) = true → (1 : Int) = kA (SI.val op) ∧ (0 : Int) = kB (SI.val op) ∧ (0 : Int) = kC (SI.val op)) ∧ (decide (SI.val op = (23 : Int)) = false → (decide (SI.val op = (32 : Int)) = true → (1 : Int) = kA (SI.val op) ∧ (0 : Int) = kB (SI.val op) ∧ (0 : Int) = kC (SI.val op)) ∧ (decide (SI.val op = (32 : Int)) = false → (decide (SI.val op = (33 : Int)) = true → (1 : Int) = kA (SI.val op) ∧ (0 : Int) = kB (SI.val op) ∧ (0 : Int) = kC (SI.val op)) ∧ (decide (SI.val op = (33 : Int)) = false → (decide (SI.val op = (35 : Int)) = true → (1 : Int) = kA (SI.val op) ∧ (0 : Int) = kB (SI.val op) ∧ (0 : Int) = kC (SI.val op)) ∧ (decide (SI.val op = (35 : Int)) = false → (decide (SI.val op = (36 : Int)) = true → (1 : Int) = kA (SI.val op) ∧ (0 : Int) = kB (SI.val op) ∧ (0 : Int) = kC (SI.val op)) ∧ (decide (SI.val op = (36 : Int)) = false → (decide (SI.val op = (39 : Int)) = true → (1 : Int) = kA (SI.val op) ∧ (0 : Int) = kB (SI.val op) ∧ (0 : Int) = kC (SI.val op)) ∧ (decide (SI.val op = (39 : Int)) = false → (decide (SI.val op = (40 : Int)) = true → (1 : Int) = kA (SI.val op) ∧ (0 : Int) = kB (SI.val op) ∧ (0 : Int) = kC (SI.val op)) ∧ (decide (SI.val op = (40 : Int)) = false → (decide (SI.val op = (43 : Int)) = true → (1 : Int) = kA (SI.val op) ∧ (0 : Int) = kB (SI.val op) ∧ (0 : Int) = kC (SI.val op)) ∧ (decide (SI.val op = (43 : Int)) = false → (decide (SI.val op = (44 : Int)) = true → (1 : Int) = kA (SI.val op) ∧ (0 : Int) = kB (SI.val op) ∧ (0 : Int) = kC (SI.val op)) ∧ (decide (SI.val op = (44 : Int)) = false → (decide (SI.val op = (66 : Int)) = true → (1 : Int) = kA (SI.val op) ∧ (0 : Int) = kB (SI.val op) ∧ (0 : Int) = kC (SI.val op)) ∧ (decide (SI.val op = (66 : Int)) = false → (decide (SI.val op = (67 : Int)) = true → (1 : Int) = kA (SI.val op) ∧ (0 : Int) = kB (SI.val op) ∧ (0 : Int) = kC (SI.val op)) ∧ (decide (SI.val op = (67 : Int)) = false → (decide (SI.val op = (2 : Int)) = true → (1 : Int) = kA (SI.val op) ∧ (1 : Int) = kB (SI.val op) ∧ (0 : Int) = kC (SI.val op)) ∧ (decide (SI.val op = (2 : Int)) = false → (decide (SI.val op = (37 : Int)) = true → (1 : Int) = kA (SI.val op) ∧ (1 : Int) = kB (SI.val op) ∧ (0 : Int) = kC (SI.val op)) ∧ (decide (SI.val op = (37 : Int)) = false → (decide (SI.val op = (38 : Int)) = true → (1 : Int) = kA (SI.val op) ∧ (1 : Int) = kB (SI.val op) ∧ (0 : Int) = kC (SI.val op)) ∧ (decide (SI.val op = (38 : Int)) = false → (decide (SI.val op = (41 : Int)) = true → (1 : Int) = kA (SI.val op) ∧ (1 : Int) = kB (SI.val op) ∧ (0 : Int) = kC (SI.val op)) ∧ (decide (SI.val op = (41 : Int)) = false → (decide (SI.val op = (3 : Int)) = true → (1 : Int) = kA (SI.val op) ∧ (1 : Int) = kB (SI.val op) ∧ (1 : Int) = kC (SI.val op)) ∧ (decide (SI.val op = (3 : Int)) = false → (decide (SI.val op = (4 : Int)) = true → (1 : Int) = kA (SI.val op) ∧ (1 : Int) = kB (SI.val op) ∧ (1 : Int) = kC (SI.val op)) ∧ (decide (SI.val op = (4 : Int)) = false → (decide (SI.val op = (5 : Int)) = true → (1 : Int) = kA (SI.val op) ∧ (1 : Int) = kB (SI.val op) ∧ (1 : Int) = kC (SI.val op)) ∧ (decide (SI.val op = (5 : Int)) = false → (decide (SI.val op = (6 : Int)) = true → (1 : Int) = kA (SI.val op) ∧ (1 : Int) = kB (SI.val op) ∧ (1 : Int) = kC (SI.val op)) ∧ (decide (SI.val op = (6 : Int)) = false → (decide (SI.val op = (7 : Int)) = true → (1 : Int) = kA (SI.val op) ∧ (1 : Int) = kB (SI.val op) ∧ (1 : Int) = kC (SI.val op)) ∧ (decide (SI.val op = (7 : Int)) = false → (decide (SI.val op = (8 : Int)) = true → (1 : Int) = kA (SI.val op) ∧ (1 : Int) = kB (SI.val op) ∧ (1 : Int) = kC (SI.val op)) ∧ (decide (SI.val op = (8 : Int)) = false → (decide (SI.val op = (9 : Int)) = true → (1 : Int) = kA (SI.val op) ∧ (1 : Int) = kB (SI.val op) ∧ (1 : Int) = kC (SI.val op)) ∧ (decide (SI.val op = (9 : Int)) = false → (decide (SI.val op = (10 : Int)) = true → (1 : Int) = kA (SI.val op) ∧ (1 : Int) = kB (SI.val op) ∧ (1 : Int) = kC (SI.val op)) ∧ (decide (SI.val op = (10 : Int)) = false → (decide (SI.val op = (11 : Int)) = true → (1 : Int) = kA (SI.val op) ∧ (1 : Int) = kB (SI.val op) ∧ (1 : Int) = kC (SI.val op)) ∧ (decide (SI.val op = (11 : Int)) = false → (decide (SI.val op = (24 : Int)) = true → (1 : Int) = kA (SI.val op) ∧ (1 : Int) = kB (SI.val op) ∧ (1 : Int) = kC (SI.val op)) ∧ (decide (SI.val op = (24 : Int)) = false → (decide (SI.val op = (12 : Int)) = true → (1 : Int) = kA (SI.val op) ∧ (1 : Int) = kB (SI.val op) ∧ (2 : Int) = kC (SI.val op)) ∧ (decide (SI.val op = (12 : Int)) = false → (decide (SI.val op = (13 : Int)) = true → (1 : Int) = kA (SI.val op) ∧ (1 : Int) = kB (SI.val op) ∧ (2 : Int) = kC (SI.val op)) ∧ (decide (SI.val op = (13 : Int)) = false → (decide (SI.val op = (16 : Int)) = true → (0 : Int) = kA (SI.val op) ∧ (0 : Int) = kB (SI.val op) ∧ (2 : Int) = kC (SI.val op)) ∧ (decide (SI.val op = (16 : Int)) = false → (decide (SI.val op = (17 : Int)) = true → (1 : Int) = kA (SI.val op) ∧ (0 : Int) = kB (SI.val op) ∧ (2 : Int) = kC (SI.val op)) ∧ (decide (SI.val op = (17 : Int)) = false → (decide (SI.val op = (18 : Int)) = true → (1 : Int) = kA (SI.val op) ∧ (0 : Int) = kB (SI.val op) ∧ (2 : Int) = kC (SI.val op)) ∧ (decide (SI.val op = (18 : Int)) = false → (0 : Int) = kA (SI.val op) ∧ (0 : Int) = kB (SI.val op) ∧ (0 : Int) = kC (SI.val op)))))))))))))))))))))))))))))))))))) := by kernel_rfl
set_option maxHeartbeats 4000000 in
theorem coperands : Con ea has gl 104 koperands := by
  refine plain_mk Tryd.func104 46 (con := []) trivial (fun hA hr hv => ?_) (by kernel_rfl) (by kernel_rfl) Tryd.ntmps104
  unfold koperands at hr; split at hr
  · rename_i op
    have := ret_ok hr; subst this
    refine ⟨_, [], rfl, rfl, (argoperands op).mpr (by simp), rfl, (fun W R ρ0 own0 hown => noLoops (by kernel_rfl)), (runoperands gl op).mpr ?_⟩
    clear hr
    generalize op.val = op
    simp only [decide_eq_true_eq, decide_eq_false_iff_not]
    repeat (first | (intro h; subst h; decide) | (with_reducible intro _) | (with_reducible refine ⟨fun _ => ?_, fun _ => ?_⟩) | (refine ⟨?_, ?_, ?_⟩ <;> (first | (unfold kA; repeat (split; try omega); try omega) |  (unfold kB; repeat (split; try omega); try omega) | (unfold kC; repeat (split; try omega); try omega))))
  · cases hr
def kfits : List SVal → Nat → Acc ORes := fun a n => match a with | [.int .i64 x, .int .i64 k] => .ret ({ v := .bool (.sym (fitsM x.val k.val)), vc := some (0 ≤ k.val ∧ k.val ≤ 2) }) | _ => .fail "fits"
theorem argfits (x k : SI) : (all (subL 134 none' [] deep [.int .i64 x, .int .i64 k] [.int .i64 (.full x.val), .int .i64 (.full k.val)])) = (
  SI.val x = SI.val x ∧ SI.val k = SI.val k) := by kernel_rfl
theorem runfits (gl : List (Nat × SVal)) (x k : SI) : (Tr.sat (plainQ (.bool (.sym (fitsM x.val k.val)))) (run (env gl []) [] (bodyOf Tryd.f106) (start [.int .i64 (.full x.val), .int .i64 (.full k.val)] 17) (ends (env gl []) Tryd.f106.results.toList))) = (
  ((0 : Int) ≤ SI.val k ∧ SI.val k < (↑(List.length [(0 : Int), (15 : Int), (255 : Int)]) : Int)) ∧ ((0 : Int) ≤ SI.val k ∧ SI.val k < (↑(List.length [(0 : Int), (15 : Int), (255 : Int)]) : Int) → (decide ((0 : Int) ≤ SI.val x) && decide (SI.val x ≤ List.getD [(0 : Int), (15 : Int), (255 : Int)] (Int.toNat (SI.val k)) (RT.dflt RT.i64))) = fitsM (SI.val x) (SI.val k))) := by kernel_rfl
set_option maxHeartbeats 4000000 in
theorem cfits : Con ea has gl 106 kfits := by
  refine plain_mk Tryd.func106 17 (con := []) trivial (fun hA hr hv => ?_) (by kernel_rfl) (by kernel_rfl) Tryd.ntmps106
  unfold kfits at hr; split at hr
  · rename_i x k
    have := ret_ok hr; subst this
    replace hv := hv _ rfl
    refine ⟨_, [], rfl, rfl, (argfits x k).mpr (by simp), rfl, (fun W R ρ0 own0 hown => noLoops (by kernel_rfl)), (runfits gl x k).mpr ?_⟩
    clear hr
    generalize x.val = x at *
    generalize k.val = k at *
    have : k = 0 ∨ k = 1 ∨ k = 2 := by omega
    rcases this with rfl | rfl | rfl <;> exact ⟨by decide, fun _ => rfl⟩
  · cases hr
def kWord : List SVal → Nat → Acc ORes := fun a n => match a with | [.agg [.int .i64 op, .int .i64 a, .int .i64 b, .int .i64 c, .int .u32 imm]] => .ret ({ v := .tuple [.int .u32 (.full (wordW op.val a.val b.val c.val imm.val)), .bool (.sym (wordOk op.val a.val b.val c.val imm.val))] }) | _ => .fail "Word"
theorem argWord (op a b c imm : SI) : (all (subL 134 none' [] deep [.agg [.int .i64 op, .int .i64 a, .int .i64 b, .int .i64 c, .int .u32 imm]] [.agg [.int .i64 (.full op.val), .int .i64 (.full a.val), .int .i64 (.full b.val), .int .i64 (.full c.val), .int .u32 (.full imm.val)]])) = (
  SI.val op = SI.val op ∧ SI.val a = SI.val a ∧ SI.val b = SI.val b ∧ SI.val c = SI.val c ∧ SI.val imm = SI.val imm) := by kernel_rfl
theorem runWord (gl : List (Nat × SVal)) (op a b c imm : SI) : (Tr.sat (plainQ (.tuple [.int .u32 (.full (wordW op.val a.val b.val c.val imm.val)), .bool (.sym (wordOk op.val a.val b.val c.val imm.val))])) (run (env gl [(59, kTables), (60, kClass), (105, kTwo), (104, koperands), (106, kfits)]) [] (bodyOf Tryd.f77) (start [.agg [.int .i64 (.full op.val), .int .i64 (.full a.val), .int .i64 (.full b.val), .int .i64 (.full c.val), .int .u32 (.full imm.val)]] 72) (ends (env gl [(59, kTables), (60, kClass), (105, kTwo), (104, koperands), (106, kfits)]) Tryd.f77.results.toList))) = (
  ((!decide (isaClass (SI.val op) = (0 : Int))) = true → (0 : Int) ≤ kA (SI.val op) ∧ kA (SI.val op) ≤ (2 : Int)) ∧ (((!decide (isaClass (SI.val op) = (0 : Int))) = true → (0 : Int) ≤ kA (SI.val op) ∧ kA (SI.val op) ≤ (2 : Int)) → ((!(decide (isaClass (SI.val op) = (0 : Int)) || !fitsM (SI.val a) (kA (SI.val op)))) = true → (0 : Int) ≤ kB (SI.val op) ∧ kB (SI.val op) ≤ (2 : Int)) ∧ (((!(decide (isaClass (SI.val op) = (0 : Int)) || !fitsM (SI.val a) (kA (SI.val op)))) = true → (0 : Int) ≤ kB (SI.val op) ∧ kB (SI.val op) ≤ (2 : Int)) → ((!(decide (isaClass (SI.val op) = (0 : Int)) || !fitsM (SI.val a) (kA (SI.val op)) || !fitsM (SI.val b) (kB (SI.val op)))) = true → (0 : Int) ≤ kC (SI.val op) ∧ kC (SI.val op) ≤ (2 : Int)) ∧ (((!(decide (isaClass (SI.val op) = (0 : Int)) || !fitsM (SI.val a) (kA (SI.val op)) || !fitsM (SI.val b) (kB (SI.val op)))) = true → (0 : Int) ≤ kC (SI.val op) ∧ kC (SI.val op) ≤ (2 : Int)) → ((decide (isaClass (SI.val op) = (0 : Int)) || !fitsM (SI.val a) (kA (SI.val op)) || !fitsM (SI.val b) (kB (SI.val op)) || !fitsM (SI.val c) (kC (SI.val op)) || !decide (SI.val imm = (0 : Int)) && !isaTwo (SI.val op)) = true → (0 : Int) = wordW (SI.val op) (SI.val a) (SI.val b) (SI.val c) (SI.val imm) ∧ false = wordOk (SI.val op) (SI.val a) (SI.val b) (SI.val c) (SI.val imm)) ∧ ((decide (isaClass (SI.val op) = (0 : Int)) || !fitsM (SI.val a) (kA (SI.val op)) || !fitsM (SI.val b) (kB (SI.val op)) || !fitsM (SI.val c) (kC (SI.val op)) || !decide (SI.val imm = (0 : Int)) && !isaTwo (SI.val op)) = false → bits BinOp.or IntKind.u32 (bits BinOp.or IntKind.u32 (bits BinOp.or IntKind.u32 (IntKind.wrap IntKind.u32 (IntKind.wrap IntKind.u32 (SI.val op) * (16777216 : Int))) (IntKind.wrap IntKind.u32 (IntKind.wrap IntKind.u32 (SI.val a) * (65536 : Int)))) (IntKind.wrap IntKind.u32 (IntKind.wrap IntKind.u32 (SI.val b) * (256 : Int)))) (IntKind.wrap IntKind.u32 (SI.val c)) = wordW (SI.val op) (SI.val a) (SI.val b) (SI.val c) (SI.val imm) ∧ true = wordOk (SI.val op) (SI.val a) (SI.val b) (SI.val c) (SI.val imm)))))) := by kernel_rfl
set_option maxHeartbeats 4000000 in
theorem cWord : Con ea has gl 77 kWord := by
  refine plain_mk Tryd.func77 72 (con := [(59, kTables), (60, kClass), (105, kTwo), (104, koperands), (106, kfits)]) ⟨cTables, cClass, cTwo, coperands, cfits, trivial⟩ (fun hA hr hv => ?_) (by kernel_rfl) (by kernel_rfl) Tryd.ntmps77
  unfold kWord at hr; split at hr
  · rename_i op a b c imm
    have := ret_ok hr; subst this
    refine ⟨_, [], rfl, rfl, (argWord op a b c imm).mpr (by simp), rfl, (fun W R ρ0 own0 hown => noLoops (by kernel_rfl)), (runWord gl op a b c imm).mpr ?_⟩
    clear hr
    clear hA hv
    generalize op.val = op
    generalize a.val = a
    generalize b.val = b
    generalize c.val = c
    generalize imm.val = imm
    have e : (decide (isaClass op = 0) || !fitsM a (kA op) || !fitsM b (kB op) || !fitsM c (kC op) || !decide (imm = 0) && !isaTwo op) = !wordOk op a b c imm := by
      unfold wordOk
      simp only [Bool.not_and, Bool.not_not, bne, Bool.not_or]
      rfl
    rw [e]
    have h1 := kA_in op
    have h2 := kB_in op
    have h3 := kC_in op
    refine ⟨fun _ => by omega, fun _ => ⟨fun _ => by omega, fun _ => ⟨fun _ => by omega, fun _ => ⟨fun h => ?_, fun h => ?_⟩⟩⟩⟩
    · have h : wordOk op a b c imm = false := by simpa using h
      rw [wordW, h]; exact ⟨rfl, rfl⟩
    · have h : wordOk op a b c imm = true := by simpa using h
      refine ⟨?_, h.symm⟩
      rw [wordW, if_pos h]
      have hw := h
      unfold wordOk at h
      simp only [Bool.and_eq_true, Bool.not_eq_true'] at h
      obtain ⟨⟨⟨⟨g1, g2⟩, g3⟩, g4⟩, _⟩ := h
      have := class_in g1
      simp only [IntKind.wrap_u32]
      exact word_bits (by omega) (fits_in g2) (fits_in g3) (fits_in g4)
  · cases hr
def kOf : List SVal → Nat → Acc ORes := fun a n => match a with | [.int .u32 w, .int .u32 imm] => .ret ({ v := .tuple [.agg (ofF w.val imm.val).enc, .bool (.sym (ofOk w.val))] }) | _ => .fail "Of"
theorem argOf (w imm : SI) : (all (subL 134 none' [] deep [.int .u32 w, .int .u32 imm] [.int .u32 (.full w.val), .int .u32 (.full imm.val)])) = (
  SI.val w = SI.val w ∧ SI.val imm = SI.val imm) := by kernel_rfl
theorem runOf (gl : List (Nat × SVal)) (w imm : SI) : (Tr.sat (plainQ (.tuple [.agg (ofF w.val imm.val).enc, .bool (.sym (ofOk w.val))])) (run (env gl [(59, kTables), (105, kTwo), (77, kWord)]) [] (bodyOf Tryd.f79) (start [.int .u32 (.full w.val), .int .u32 (.full imm.val)] 41) (ends (env gl [(59, kTables), (105, kTwo), (77, kWord)]) Tryd.f79.results.toList))) = (
  (isaTwo (SI.val w / (16777216 : Int)) = true → ((!wordOk (SI.val w / (16777216 : Int)) (SI.val w / (65536 : Int) % (256 : Int)) (SI.val w / (256 : Int) % (256 : Int)) (SI.val w % (256 : Int)) (SI.val imm)) = true → (0 : Int) = (ofF (SI.val w) (SI.val imm)).op ∧ (0 : Int) = (ofF (SI.val w) (SI.val imm)).a ∧ (0 : Int) = (ofF (SI.val w) (SI.val imm)).b ∧ (0 : Int) = (ofF (SI.val w) (SI.val imm)).c ∧ (0 : Int) = (ofF (SI.val w) (SI.val imm)).imm ∧ false = ofOk (SI.val w)) ∧ ((!wordOk (SI.val w / (16777216 : Int)) (SI.val w / (65536 : Int) % (256 : Int)) (SI.val w / (256 : Int) % (256 : Int)) (SI.val w % (256 : Int)) (SI.val imm)) = false → SI.val w / (16777216 : Int) = (ofF (SI.val w) (SI.val imm)).op ∧ SI.val w / (65536 : Int) % (256 : Int) = (ofF (SI.val w) (SI.val imm)).a ∧ SI.val w / (256 : Int) % (256 : Int) = (ofF (SI.val w) (SI.val imm)).b ∧ SI.val w % (256 : Int) = (ofF (SI.val w) (SI.val imm)).c ∧ SI.val imm = (ofF (SI.val w) (SI.val imm)).imm ∧ true = ofOk (SI.val w))) ∧ (isaTwo (SI.val w / (16777216 : Int)) = false → ((!wordOk (SI.val w / (16777216 : Int)) (SI.val w / (65536 : Int) % (256 : Int)) (SI.val w / (256 : Int) % (256 : Int)) (SI.val w % (256 : Int)) (0 : Int)) = true → (0 : Int) = (ofF (SI.val w) (SI.val imm)).op ∧ (0 : Int) = (ofF (SI.val w) (SI.val imm)).a ∧ (0 : Int) = (ofF (SI.val w) (SI.val imm)).b ∧ (0 : Int) = (ofF (SI.val w) (SI.val imm)).c ∧ (0 : Int) = (ofF (SI.val w) (SI.val imm)).imm ∧ false = ofOk (SI.val w)) ∧ ((!wordOk (SI.val w / (16777216 : Int)) (SI.val w / (65536 : Int) % (256 : Int)) (SI.val w / (256 : Int) % (256 : Int)) (SI.val w % (256 : Int)) (0 : Int)) = false → SI.val w / (16777216 : Int) = (ofF (SI.val w) (SI.val imm)).op ∧ SI.val w / (65536 : Int) % (256 : Int) = (ofF (SI.val w) (SI.val imm)).a ∧ SI.val w / (256 : Int) % (256 : Int) = (ofF (SI.val w) (SI.val imm)).b ∧ SI.val w % (256 : Int) = (ofF (SI.val w) (SI.val imm)).c ∧ (0 : Int) = (ofF (SI.val w) (SI.val imm)).imm ∧ true = ofOk (SI.val w)))) := by kernel_rfl
set_option maxHeartbeats 4000000 in
theorem cOf : Con ea has gl 79 kOf := by
  refine plain_mk Tryd.func79 41 (con := [(59, kTables), (105, kTwo), (77, kWord)]) ⟨cTables, cTwo, cWord, trivial⟩ (fun hA hr hv => ?_) (by kernel_rfl) (by kernel_rfl) Tryd.ntmps79
  unfold kOf at hr; split at hr
  · rename_i w imm
    have := ret_ok hr; subst this
    refine ⟨_, [], rfl, rfl, (argOf w imm).mpr (by simp), rfl, (fun W R ρ0 own0 hown => noLoops (by kernel_rfl)), (runOf gl w imm).mpr ?_⟩
    clear hr
    clear hA hv
    generalize w.val = w
    generalize imm.val = imm
    have e : wordOk (w / 16777216) (w / 65536 % 256) (w / 256 % 256) (w % 256) 0 = ofOk w := rfl
    refine ⟨fun h => ?_, fun h => ?_⟩
    · rw [ofOk_imm h, e]; cases hk : ofOk w <;> simp [ofF, hk, ofImm, h]
    · rw [e]; cases hk : ofOk w <;> simp [ofF, hk, ofImm, h]
  · cases hr
def krClass : List SVal → Nat → Acc ORes := fun a n => match a with | [.int .i64 op] => .ret ({ v := .int .i64 (.sym (isaClass op.val) 0 4) }) | _ => .fail "rClass"
theorem argrClass (op : SI) : (all (subL 134 none' [] deep [.int .i64 op] [.int .i64 (.full op.val)])) = (
  SI.val op = SI.val op) := by kernel_rfl
theorem runrClass (gl : List (Nat × SVal)) (op : SI) : (Tr.sat (plainQ (.int .i64 (.sym (isaClass op.val) 0 4))) (run (env gl []) [] (bodyOf Tryd.f19) (start [.int .i64 (.full op.val)] 27) (ends (env gl []) Tryd.f19.results.toList))) = (
  ((decide ((1 : Int) ≤ SI.val op) && decide (SI.val op ≤ (24 : Int))) = true → (1 : Int) = isaClass (SI.val op)) ∧ ((decide ((1 : Int) ≤ SI.val op) && decide (SI.val op ≤ (24 : Int))) = false → ((decide ((32 : Int) ≤ SI.val op) && decide (SI.val op ≤ (44 : Int))) = true → (2 : Int) = isaClass (SI.val op)) ∧ ((decide ((32 : Int) ≤ SI.val op) && decide (SI.val op ≤ (44 : Int))) = false → ((decide ((64 : Int) ≤ SI.val op) && decide (SI.val op ≤ (67 : Int))) = true → (3 : Int) = isaClass (SI.val op)) ∧ ((decide ((64 : Int) ≤ SI.val op) && decide (SI.val op ≤ (67 : Int))) = false → (decide (SI.val op = (96 : Int)) = true → (4 : Int) = isaClass (SI.val op)) ∧ (decide (SI.val op = (96 : Int)) = false → (0 : Int) = isaClass (SI.val op)))))) := by kernel_rfl
set_option maxHeartbeats 4000000 in
theorem crClass : Con ea has gl 19 krClass := by
  refine plain_mk Tryd.func19 27 (con := []) trivial (fun hA hr hv => ?_) (by kernel_rfl) (by kernel_rfl) Tryd.ntmps19
  unfold krClass at hr; split at hr
  · rename_i op
    have := ret_ok hr; subst this
    refine ⟨_, [], rfl, rfl, (argrClass op).mpr (by simp), rfl, (fun W R ρ0 own0 hown => noLoops (by kernel_rfl)), (runrClass gl op).mpr ?_⟩
    clear hr
    generalize op.val = op
    simp only [isaClass, Bool.and_eq_true, decide_eq_true_eq, Bool.and_eq_false_imp, decide_eq_false_iff_not]
    repeat (first | omega | split | intro _ | refine ⟨?_, ?_⟩)
  · cases hr
end
end Go.Proofs.YtbdfibaljoedpaaDoor

set_option linter.unusedVariables false
set_option linter.unusedSimpArgs false
namespace Go.Proofs.YtbdfibaljoedpaaDoor
open Go.RowKit Go.Sy Go.Fac
section
variable {ea : Int → Addr} {has : Int → Prop} {gl : List (Nat × SVal)}
abbrev obV (d c m : List Int) (dr cr : List Rel) (sy : List Sm) : SVal := .agg [.ro .u32 d, .ro .u32 c, .ro .u8 m, .ro .rel dr, .ro .rel cr, .ro .sym sy]
def begM (c m : List Int) (i : Int) : Bool := !(decide (i < 0) || decide ((c.length : Int) ≤ i) || decide ((m.length : Int) ≤ i) || !decide (m.getD i.toNat 0 = 1))
def nextW (c : List Int) (i : Int) : Int := if i + 1 < c.length then c.getD (i + 1).toNat 0 else 0
def insI (c m : List Int) (i : Int) : In5 := if begM c m i = true then ofF (c.getD i.toNat 0) (nextW c i) else ⟨0, 0, 0, 0, 0⟩
def insB (c m : List Int) (i : Int) : Bool := begM c m i && ofOk (c.getD i.toNat 0)
theorem ro_len {C : Ctx} {W : World} {R : Nat → Prop} {ρ : Nat → Option Value} {t : RT} {l : List t.ty} {v : Value} (h : Den C W R ρ (.ro t l) v) : l.length ≤ 9223372036854775807 := by
  cases h with
  | ro _ _ A cap vs h1 h2 => unfold maxLen at h2; omega
theorem ob_len {C : Ctx} {W : World} {R : Nat → Prop} {ρ : Nat → Option Value} {d c m : List Int} {dr cr : List Rel} {sy : List Sm} {l : List SVal} {vs : List Value} (h : DenA C W R ρ (obV d c m dr cr sy :: l) vs) :
    d.length ≤ 9223372036854775807 ∧ c.length ≤ 9223372036854775807 ∧ m.length ≤ 9223372036854775807 ∧ dr.length ≤ 9223372036854775807 ∧ cr.length ≤ 9223372036854775807 ∧ sy.length ≤ 9223372036854775807 := by
  cases h with
  | cons _ v _ us h _ =>
    cases h with
    | agg _ vs h =>
      obtain ⟨_, _, rfl, _, h1, h⟩ := h.inv_one rfl
      obtain ⟨_, _, rfl, _, h2, h⟩ := h.inv_one rfl
      obtain ⟨_, _, rfl, _, h3, h⟩ := h.inv_one rfl
      obtain ⟨_, _, rfl, _, h4, h⟩ := h.inv_one rfl
      obtain ⟨_, _, rfl, _, h5, h⟩ := h.inv_one rfl
      obtain ⟨_, _, rfl, _, h6, h⟩ := h.inv_one rfl
      exact ⟨ro_len h1, ro_len h2, ro_len h3, ro_len h4, ro_len h5, ro_len h6⟩
theorem wrapS {n : Int} (h : 0 ≤ n) (h' : n ≤ 9223372036854775806) : IntKind.i64.wrap (n + 1) = n + 1 := by rw [IntKind.wrap_i64]; omega
def kInstr : List SVal → Nat → Acc ORes := fun a n => match a with | [.agg [.ro .u32 d, .ro .u32 c, .ro .u8 m, .ro .rel dr, .ro .rel cr, .ro .sym sy], .int .i64 i] => .ret ({ v := .tuple [.agg (insI c m i.val).enc, .bool (.sym (insB c m i.val))] }) | _ => .fail "Instr"
theorem argInstr (d c m : List Int) (dr cr : List Rel) (sy : List Sm) (i : SI) : (all (subL 134 none' [] deep [.agg [.ro .u32 d, .ro .u32 c, .ro .u8 m, .ro .rel dr, .ro .rel cr, .ro .sym sy], .int .i64 i] [.agg [.ro .u32 d, .ro .u32 c, .ro .u8 m, .ro .rel dr, .ro .rel cr, .ro .sym sy], .int .i64 (.full i.val)])) = (
  d = d ∧ c = c ∧ m = m ∧ dr = dr ∧ cr = cr ∧ sy = sy ∧ SI.val i = SI.val i) := by kernel_rfl
theorem runInstr (gl : List (Nat × SVal)) (d c m : List Int) (dr cr : List Rel) (sy : List Sm) (i : SI) : (Tr.sat (plainQ (.tuple [.agg (insI c m i.val).enc, .bool (.sym (insB c m i.val))])) (run (env gl [(79, kOf)]) [] (bodyOf Tryd.f58) (start [.agg [.ro .u32 d, .ro .u32 c, .ro .u8 m, .ro .rel dr, .ro .rel cr, .ro .sym sy], .int .i64 (.full i.val)] 53) (ends (env gl [(79, kOf)]) Tryd.f58.results.toList))) = (
  ((!(decide (SI.val i < (0 : Int)) || decide ((↑(List.length c) : Int) ≤ SI.val i) || decide ((↑(List.length m) : Int) ≤ SI.val i))) = true → (0 : Int) ≤ SI.val i ∧ SI.val i < (↑(List.length m) : Int)) ∧ (((!(decide (SI.val i < (0 : Int)) || decide ((↑(List.length c) : Int) ≤ SI.val i) || decide ((↑(List.length m) : Int) ≤ SI.val i))) = true → (0 : Int) ≤ SI.val i ∧ SI.val i < (↑(List.length m) : Int)) → ((decide (SI.val i < (0 : Int)) || decide ((↑(List.length c) : Int) ≤ SI.val i) || decide ((↑(List.length m) : Int) ≤ SI.val i) || !decide (List.getD m (Int.toNat (SI.val i)) (RT.dflt RT.u8) = (1 : Int))) = true → (0 : Int) = (insI c m (SI.val i)).op ∧ (0 : Int) = (insI c m (SI.val i)).a ∧ (0 : Int) = (insI c m (SI.val i)).b ∧ (0 : Int) = (insI c m (SI.val i)).c ∧ (0 : Int) = (insI c m (SI.val i)).imm ∧ false = insB c m (SI.val i)) ∧ ((decide (SI.val i < (0 : Int)) || decide ((↑(List.length c) : Int) ≤ SI.val i) || decide ((↑(List.length m) : Int) ≤ SI.val i) || !decide (List.getD m (Int.toNat (SI.val i)) (RT.dflt RT.u8) = (1 : Int))) = false → (decide (IntKind.wrap IntKind.i64 (SI.val i + (1 : Int)) < (↑(List.length c) : Int)) = true → ((0 : Int) ≤ IntKind.wrap IntKind.i64 (SI.val i + (1 : Int)) ∧ IntKind.wrap IntKind.i64 (SI.val i + (1 : Int)) < (↑(List.length c) : Int)) ∧ ((0 : Int) ≤ IntKind.wrap IntKind.i64 (SI.val i + (1 : Int)) ∧ IntKind.wrap IntKind.i64 (SI.val i + (1 : Int)) < (↑(List.length c) : Int) → ((0 : Int) ≤ SI.val i ∧ SI.val i < (↑(List.length c) : Int)) ∧ ((0 : Int) ≤ SI.val i ∧ SI.val i < (↑(List.length c) : Int) → (ofF (List.getD c (Int.toNat (SI.val i)) (RT.dflt RT.u32)) (List.getD c (Int.toNat (IntKind.wrap IntKind.i64 (SI.val i + (1 : Int)))) (RT.dflt RT.u32))).op = (insI c m (SI.val i)).op ∧ (ofF (List.getD c (Int.toNat (SI.val i)) (RT.dflt RT.u32)) (List.getD c (Int.toNat (IntKind.wrap IntKind.i64 (SI.val i + (1 : Int)))) (RT.dflt RT.u32))).a = (insI c m (SI.val i)).a ∧ (ofF (List.getD c (Int.toNat (SI.val i)) (RT.dflt RT.u32)) (List.getD c (Int.toNat (IntKind.wrap IntKind.i64 (SI.val i + (1 : Int)))) (RT.dflt RT.u32))).b = (insI c m (SI.val i)).b ∧ (ofF (List.getD c (Int.toNat (SI.val i)) (RT.dflt RT.u32)) (List.getD c (Int.toNat (IntKind.wrap IntKind.i64 (SI.val i + (1 : Int)))) (RT.dflt RT.u32))).c = (insI c m (SI.val i)).c ∧ (ofF (List.getD c (Int.toNat (SI.val i)) (RT.dflt RT.u32)) (List.getD c (Int.toNat (IntKind.wrap IntKind.i64 (SI.val i + (1 : Int)))) (RT.dflt RT.u32))).imm = (insI c m (SI.val i)).imm ∧ ofOk (List.getD c (Int.toNat (SI.val i)) (RT.dflt RT.u32)) = insB c m (SI.val i)))) ∧ (decide (IntKind.wrap IntKind.i64 (SI.val i + (1 : Int)) < (↑(List.length c) : Int)) = false → ((0 : Int) ≤ SI.val i ∧ SI.val i < (↑(List.length c) : Int)) ∧ ((0 : Int) ≤ SI.val i ∧ SI.val i < (↑(List.length c) : Int) → (ofF (List.getD c (Int.toNat (SI.val i)) (RT.dflt RT.u32)) (0 : Int)).op = (insI c m (SI.val i)).op ∧ (ofF (List.getD c (Int.toNat (SI.val i)) (RT.dflt RT.u32)) (0 : Int)).a = (insI c m (SI.val i)).a ∧ (ofF (List.getD c (Int.toNat (SI.val i)) (RT.dflt RT.u32)) (0 : Int)).b = (insI c m (SI.val i)).b ∧ (ofF (List.getD c (Int.toNat (SI.val i)) (RT.dflt RT.u32)) (0 : Int)).c = (insI c m (SI.val i)).c ∧ (ofF (List.getD c (Int.toNat (SI.val i)) (RT.dflt RT.u32)) (0 : Int)).imm = (insI c m (SI.val i)).imm ∧ ofOk (List.getD c (Int.toNat (SI.val i)) (RT.dflt RT.u32)) = insB c m (SI.val i)))))) := by kernel_rfl
set_option maxHeartbeats 4000000 in
theorem cInstr : Con ea has gl 58 kInstr := by
  refine plain_mk Tryd.func58 53 (con := [(79, kOf)]) ⟨cOf, trivial⟩ (fun hA hr hv => ?_) (by kernel_rfl) (by kernel_rfl) Tryd.ntmps58
  unfold kInstr at hr; split at hr
  · rename_i d c m dr cr sy i
    have := ret_ok hr; subst this
    refine ⟨_, [], rfl, rfl, (argInstr d c m dr cr sy i).mpr (by simp), rfl, (fun W R ρ0 own0 hown => noLoops (by kernel_rfl)), (runInstr gl d c m dr cr sy i).mpr ?_⟩
    clear hr
    have hl := (ob_len hA).2.1
    clear hA hv
    generalize i.val = i
    have d1 : RT.u8.dflt = (0 : Int) := rfl
    have d2 : RT.u32.dflt = (0 : Int) := rfl
    simp only [d1, d2]
    refine ⟨fun h => by simp at h; omega, fun _ => ⟨fun h => ?_, fun h => ?_⟩⟩
    · have h : begM c m i = false := by unfold begM; rw [h]; rfl
      simp [insI, insB, h]
    · have hb : begM c m i = true := by unfold begM; rw [h]; rfl
      simp only [Bool.or_eq_false_iff, decide_eq_false_iff_not] at h
      rw [wrapS (by omega) (by omega)]
      refine ⟨fun h2 => ⟨by have := of_decide_eq_true h2; omega, fun _ => ⟨by omega, fun _ => ?_⟩⟩, fun h2 => ⟨by omega, fun _ => ?_⟩⟩
      · have h2 := of_decide_eq_true h2
        simp [insI, insB, hb, nextW, h2]
      · have h2 := of_decide_eq_false h2
        simp [insI, insB, hb, nextW, h2]
  · cases hr
def startsF (c m : List Int) : Nat → List Int
  | 0 => []
  | n + 1 => if m.getD n 0 = 1 ∧ n < c.length then startsF c m n ++ [(n : Int)] else startsF c m n
theorem startsF_len (c m : List Int) : ∀ n, (startsF c m n).length ≤ n
  | 0 => Nat.le_refl _
  | n + 1 => by
    have := startsF_len c m n
    unfold startsF
    split <;> simp <;> omega
def HStarts (d c m : List Int) (dr cr : List Rel) (sy : List Sm) (i : Nat) : SState := { fr := [(1, .ptr 0 0), (3, .own 1), (7, .ro .u8 m), (8, .int .i64 (.full m.length)), (9, .int .i64 (.sym i 0 1000000))], hp := [(0, some (.cells [.ro .u32 d, .ro .u32 c, .ro .u8 m, .ro .rel dr, .ro .rel cr, .ro .sym sy])), (1, some (.recs .i64 (startsF c m i)))], next := 2, sz := 29 }
def XStarts (d c m : List Int) (dr cr : List Rel) (sy : List Sm) : SState := { fr := [(3, .own 0)], hp := [(0, some (.recs .i64 (startsF c m m.length)))], next := 1, sz := 29 }
def LStarts (d c m : List Int) (dr cr : List Rel) (sy : List Sm) : LSum := ⟨HStarts d c m dr cr sy 0, fun k => k (.exit 0) (XStarts d c m dr cr sy), m.length ≤ 1000000⟩
theorem bStarts (gl : List (Nat × SVal)) (d c m : List Int) (dr cr : List Rel) (sy : List Sm) (i : Nat) : (Tr.sat (rnd1 (env gl []) (fun _ => True) (m.length) (HStarts d c m dr cr sy) 0 (XStarts d c m dr cr sy) i) (run (env gl []) [] (loopN (bodyOf Tryd.f54) 0) (HStarts d c m dr cr sy i) .leaf)) = (
  (decide ((↑i : Int) < (↑(List.length m) : Int)) = true → ((0 : Int) ≤ (↑i : Int) ∧ (↑i : Int) < (↑(List.length m) : Int)) ∧ ((0 : Int) ≤ (↑i : Int) ∧ (↑i : Int) < (↑(List.length m) : Int) → ((decide (List.getD m (Int.toNat (↑i : Int)) (RT.dflt RT.u8) = (1 : Int)) && decide ((↑i : Int) < (↑(List.length c) : Int))) = true → List.length (startsF c m i) + List.length [(↑i : Int)] ≤ (137438953472 : Nat) ∧ (List.length (startsF c m i) + List.length [(↑i : Int)] ≤ (137438953472 : Nat) → i < List.length m ∧ True ∧ m = m ∧ (↑(List.length m) : Int) = (↑(List.length m) : Int) ∧ (↑i : Int) + (1 : Int) = (↑(i + (1 : Nat)) : Int) ∧ ((0 : Int) ≤ (↑(i + (1 : Nat)) : Int) ∧ (↑(i + (1 : Nat)) : Int) ≤ (1000000 : Int)) ∧ d = d ∧ c = c ∧ m = m ∧ dr = dr ∧ cr = cr ∧ sy = sy ∧ startsF c m i ++ [(↑i : Int)] = startsF c m (i + (1 : Nat)))) ∧ ((decide (List.getD m (Int.toNat (↑i : Int)) (RT.dflt RT.u8) = (1 : Int)) && decide ((↑i : Int) < (↑(List.length c) : Int))) = false → i < List.length m ∧ True ∧ m = m ∧ (↑(List.length m) : Int) = (↑(List.length m) : Int) ∧ (↑i : Int) + (1 : Int) = (↑(i + (1 : Nat)) : Int) ∧ ((0 : Int) ≤ (↑(i + (1 : Nat)) : Int) ∧ (↑(i + (1 : Nat)) : Int) ≤ (1000000 : Int)) ∧ d = d ∧ c = c ∧ m = m ∧ dr = dr ∧ cr = cr ∧ sy = sy ∧ startsF c m i = startsF c m (i + (1 : Nat))))) ∧ (decide ((↑i : Int) < (↑(List.length m) : Int)) = false → Nat.beq (0 : Nat) (0 : Nat) = true ∧ startsF c m i = startsF c m (List.length m))) := by kernel_rfl
set_option maxHeartbeats 4000000 in
theorem lStarts (d c m : List Int) (dr cr : List Rel) (sy : List Sm) {W : World} {R own0 : Nat → Prop} {ρ0 : Nat → Option Value} (hown : HownOk (env gl []) own0 ρ0) : LOk Tryd.prog (env gl []) (ctx ea has) gl W R own0 ρ0 (loopN (bodyOf Tryd.f54) 0) (LStarts d c m dr cr sy) := by
  refine loop1_ok (env_ok (con := []) trivial) hown (ls := fun i => []) (fun i => noLoops (by kernel_rfl)) (fun hm i hi hj => (bStarts gl d c m dr cr sy i).mpr ?_) 0 (fun hm => by first | exact Nat.zero_le _ | omega) (fun hm => trivial)
  have d1 : RT.u8.dflt = (0 : Int) := rfl
  have hs := startsF_len c m i
  simp only [d1, Int.toNat_natCast, decide_eq_true_eq, decide_eq_false_iff_not, Bool.and_eq_true, Nat.beq_refl, List.length_singleton]
  refine ⟨fun h => ⟨by omega, fun _ => ⟨fun h2 => ⟨by omega, fun _ => ?_⟩, fun h2 => ?_⟩⟩, fun h => ?_⟩
  · have : startsF c m (i + 1) = startsF c m i ++ [(i : Int)] := by rw [startsF, if_pos ⟨h2.1, by omega⟩]
    simp [this]; omega
  · have : startsF c m (i + 1) = startsF c m i := by
      rw [startsF, if_neg fun hh => ?_]
      have : (decide (m.getD i 0 = 1) && decide ((i : Int) < c.length)) = true := by simp only [Bool.and_eq_true, decide_eq_true_eq]; omega
      rw [this] at h2; cases h2
    simp [this]; omega
  · have : i = m.length := by omega
    simp [this]
def kStarts : List SVal → Nat → Acc ORes := fun a n => match a with | [.agg [.ro .u32 d, .ro .u32 c, .ro .u8 m, .ro .rel dr, .ro .rel cr, .ro .sym sy]] => .ret (newR n (.own 0) ([(0, .recs .i64 (startsF c m m.length))]) 1 (some (m.length ≤ 1000000))) | _ => .fail "Starts"
theorem argStarts (d c m : List Int) (dr cr : List Rel) (sy : List Sm) : (all (subL 134 none' [] deep [.agg [.ro .u32 d, .ro .u32 c, .ro .u8 m, .ro .rel dr, .ro .rel cr, .ro .sym sy]] [.agg [.ro .u32 d, .ro .u32 c, .ro .u8 m, .ro .rel dr, .ro .rel cr, .ro .sym sy]])) = (
  d = d ∧ c = c ∧ m = m ∧ dr = dr ∧ cr = cr ∧ sy = sy) := by kernel_rfl
theorem runStarts (gl : List (Nat × SVal)) (d c m : List Int) (dr cr : List Rel) (sy : List Sm) : (Tr.sat (newQ (env gl []) (.own 0) ([(0, .recs .i64 (startsF c m m.length))]) 1) (run (env gl []) [(3, LStarts d c m dr cr sy)] (bodyOf Tryd.f54) (start [.agg [.ro .u32 d, .ro .u32 c, .ro .u8 m, .ro .rel dr, .ro .rel cr, .ro .sym sy]] 29) (ends (env gl []) Tryd.f54.results.toList))) = (
  (List.length m ≤ (1000000 : Nat) ∧ m = m ∧ (↑(List.length m) : Int) = (↑(List.length m) : Int) ∧ (0 : Int) = (↑(0 : Nat) : Int) ∧ d = d ∧ c = c ∧ m = m ∧ dr = dr ∧ cr = cr ∧ sy = sy ∧ [] = startsF c m (0 : Nat)) ∧ (List.length m ≤ (1000000 : Nat) ∧ m = m ∧ (↑(List.length m) : Int) = (↑(List.length m) : Int) ∧ (0 : Int) = (↑(0 : Nat) : Int) ∧ d = d ∧ c = c ∧ m = m ∧ dr = dr ∧ cr = cr ∧ sy = sy ∧ [] = startsF c m (0 : Nat) → startsF c m (List.length m) = startsF c m (List.length m))) := by kernel_rfl
set_option maxHeartbeats 4000000 in
theorem cStarts : Con ea has gl 54 kStarts := by
  refine new_mk Tryd.func54 29 (con := []) trivial (fun hA hr hv => ?_) (by kernel_rfl) (by kernel_rfl) Tryd.ntmps54
  unfold kStarts at hr; split at hr
  · rename_i d c m dr cr sy
    have := ret_ok hr; subst this
    replace hv := hv _ rfl
    refine ⟨_, [(3, LStarts d c m dr cr sy)], _, _, _, ⟨rfl, rfl, rfl⟩, (argStarts d c m dr cr sy).mpr (by simp), rfl, rfl, (fun W R ρ0 own0 hown => hl1 (by kernel_rfl) (by kernel_rfl) (lStarts d c m dr cr sy hown)), (runStarts gl d c m dr cr sy).mpr ?_⟩
    clear hr
    simp [startsF, hv]
  · cases hr
end
end Go.Proofs.YtbdfibaljoedpaaDoor

