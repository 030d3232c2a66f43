/- Contracts that the proofs use. -/
import Derived.Test.YtfbagpbncfapbaaDoorQSyTi
import Derived.Test.YtfbagpbncfapbaaDoorRows
set_option linter.unusedVariables false
set_option linter.unusedSimpArgs false
namespace Go.Proofs.YtfbagpbncfapbaaDoor
open Go.RowKit Go.Sy
def ti1 : TI := ⟨.func, 1, 8, .nilFunc, none⟩
theorem ti1_ok : TiOk Tryd.prog 1 ti1 := ti_mk (i := Tryd.t1) (z := .nilFunc) Tryd.underlying1 ⟨_, _, _, rfl⟩ (by kernel_rfl) (by kernel_rfl) (by kernel_rfl) (by kernel_rfl)
def ti2 : TI := ⟨.int .i64, 1, 8, .int .i64 (.lit 0), none⟩
theorem ti2_ok : TiOk Tryd.prog 2 ti2 := ti_mk (i := Tryd.t2) (z := .int .i64 0) Tryd.underlying2 rfl (by kernel_rfl) (by kernel_rfl) (by kernel_rfl) (by kernel_rfl)
def ti3 : TI := ⟨.int .i64, 1, 8, .int .i64 (.lit 0), some .i64⟩
theorem ti3_ok : TiOk Tryd.prog 3 ti3 := ti_mk (i := Tryd.t3) (z := .int .i64 0) Tryd.underlying3 rfl (by kernel_rfl) (by kernel_rfl) (by kernel_rfl) (by kernel_rfl)
def ti4 : TI := ⟨.bool, 1, 1, .bool (.lit false), some .bool⟩
theorem ti4_ok : TiOk Tryd.prog 4 ti4 := ti_mk (i := Tryd.t4) (z := .bool false) Tryd.underlying4 rfl (by kernel_rfl) (by kernel_rfl) (by kernel_rfl) (by kernel_rfl)
def ti5 : TI := ⟨.int .u8, 1, 1, .int .u8 (.lit 0), some .u8⟩
theorem ti5_ok : TiOk Tryd.prog 5 ti5 := ti_mk (i := Tryd.t5) (z := .int .u8 0) Tryd.underlying5 rfl (by kernel_rfl) (by kernel_rfl) (by kernel_rfl) (by kernel_rfl)
def ti9 : TI := ⟨.str, 1, 16, .str ByteArray.empty, some .str⟩
theorem ti9_ok : TiOk Tryd.prog 9 ti9 := ti_mk (i := Tryd.t9) (z := .string ByteArray.empty) Tryd.underlying9 rfl (by kernel_rfl) (by kernel_rfl) (by kernel_rfl) (by kernel_rfl)
def ti12 : TI := ⟨.int .u64, 1, 8, .int .u64 (.lit 0), none⟩
theorem ti12_ok : TiOk Tryd.prog 12 ti12 := ti_mk (i := Tryd.t12) (z := .int .u64 0) Tryd.underlying12 rfl (by kernel_rfl) (by kernel_rfl) (by kernel_rfl) (by kernel_rfl)
def ti13 : TI := ⟨.struct [(0, 9, 1), (1, 12, 1)], 2, 24, .agg [.str ByteArray.empty, .int .u64 (.lit 0)], none⟩
theorem ti13_ok : TiOk Tryd.prog 13 ti13 := ti_mk (i := Tryd.t13) (z := .agg #[.string ByteArray.empty, .int .u64 0]) Tryd.underlying13 ⟨_, rfl, (by kernel_rfl), fun f hf => by
    simp only [List.mem_cons, List.not_mem_nil, or_false] at hf
    rcases hf with rfl | rfl
    · exact ⟨Tryd.t9, by kernel_rfl, by kernel_rfl, Nat.le_of_ble_eq_true (by kernel_rfl)⟩
    · exact ⟨Tryd.t12, by kernel_rfl, by kernel_rfl, Nat.le_of_ble_eq_true (by kernel_rfl)⟩⟩ (by kernel_rfl) (by kernel_rfl) (by kernel_rfl) (by kernel_rfl)
def ti19 : TI := ⟨.struct [(0, 17, 1)], 1, 8, .agg [.nilptr], none⟩
theorem ti19_ok : TiOk Tryd.prog 19 ti19 := ti_mk (i := Tryd.t19) (z := .agg #[.pointer none]) Tryd.underlying19 ⟨_, rfl, (by kernel_rfl), fun f hf => by
    simp only [List.mem_cons, List.not_mem_nil, or_false] at hf
    subst hf
    · exact ⟨Tryd.t17, by kernel_rfl, by kernel_rfl, Nat.le_of_ble_eq_true (by kernel_rfl)⟩⟩ (by kernel_rfl) (by kernel_rfl) (by kernel_rfl) (by kernel_rfl)
def ti20 : TI := ⟨.iface, 1, 16, .nilIface, none⟩
theorem ti20_ok : TiOk Tryd.prog 20 ti20 := ti_mk (i := Tryd.t20) (z := .nilIface) Tryd.underlying20 ⟨_, rfl⟩ (by kernel_rfl) (by kernel_rfl) (by kernel_rfl) (by kernel_rfl)
def ti21 : TI := ⟨.int .i32, 1, 4, .int .i32 (.lit 0), none⟩
theorem ti21_ok : TiOk Tryd.prog 21 ti21 := ti_mk (i := Tryd.t21) (z := .int .i32 0) Tryd.underlying21 rfl (by kernel_rfl) (by kernel_rfl) (by kernel_rfl) (by kernel_rfl)
def ti22 : TI := ⟨.int .u32, 1, 4, .int .u32 (.lit 0), some .u32⟩
theorem ti22_ok : TiOk Tryd.prog 22 ti22 := ti_mk (i := Tryd.t22) (z := .int .u32 0) Tryd.underlying22 rfl (by kernel_rfl) (by kernel_rfl) (by kernel_rfl) (by kernel_rfl)
def ti23 : TI := ⟨.func, 1, 8, .nilFunc, none⟩
theorem ti23_ok : TiOk Tryd.prog 23 ti23 := ti_mk (i := Tryd.t23) (z := .nilFunc) Tryd.underlying23 ⟨_, _, _, rfl⟩ (by kernel_rfl) (by kernel_rfl) (by kernel_rfl) (by kernel_rfl)
def ti25 : TI := ⟨.func, 1, 8, .nilFunc, none⟩
theorem ti25_ok : TiOk Tryd.prog 25 ti25 := ti_mk (i := Tryd.t25) (z := .nilFunc) Tryd.underlying25 ⟨_, _, _, rfl⟩ (by kernel_rfl) (by kernel_rfl) (by kernel_rfl) (by kernel_rfl)
def ti26 : TI := ⟨.struct [(0, 3, 1), (1, 3, 1), (2, 3, 1), (3, 3, 1), (4, 22, 1)], 5, 40, .agg [.int .i64 (.lit 0), .int .i64 (.lit 0), .int .i64 (.lit 0), .int .i64 (.lit 0), .int .u32 (.lit 0)], none⟩
theorem ti26_ok : TiOk Tryd.prog 26 ti26 := ti_mk (i := Tryd.t26) (z := .agg #[.int .i64 0, .int .i64 0, .int .i64 0, .int .i64 0, .int .u32 0]) Tryd.underlying26 ⟨_, rfl, (by kernel_rfl), fun f hf => by
    simp only [List.mem_cons, List.not_mem_nil, or_false] at hf
    rcases hf with rfl | rfl | rfl | rfl | rfl
    · exact ⟨Tryd.t3, by kernel_rfl, by kernel_rfl, Nat.le_of_ble_eq_true (by kernel_rfl)⟩
    · exact ⟨Tryd.t3, by kernel_rfl, by kernel_rfl, Nat.le_of_ble_eq_true (by kernel_rfl)⟩
    · exact ⟨Tryd.t3, by kernel_rfl, by kernel_rfl, Nat.le_of_ble_eq_true (by kernel_rfl)⟩
    · exact ⟨Tryd.t3, by kernel_rfl, by kernel_rfl, Nat.le_of_ble_eq_true (by kernel_rfl)⟩
    · exact ⟨Tryd.t22, by kernel_rfl, by kernel_rfl, Nat.le_of_ble_eq_true (by kernel_rfl)⟩⟩ (by kernel_rfl) (by kernel_rfl) (by kernel_rfl) (by kernel_rfl)
def ti27 : TI := ⟨.struct [(0, 3, 1), (1, 3, 1), (2, 3, 1), (3, 3, 1), (4, 22, 1)], 5, 40, .agg [.int .i64 (.lit 0), .int .i64 (.lit 0), .int .i64 (.lit 0), .int .i64 (.lit 0), .int .u32 (.lit 0)], some .instr⟩
theorem ti27_ok : TiOk Tryd.prog 27 ti27 := ti_mk (i := Tryd.t27) (z := .agg #[.int .i64 0, .int .i64 0, .int .i64 0, .int .i64 0, .int .u32 0]) Tryd.underlying27 ⟨_, rfl, (by kernel_rfl), fun f hf => by
    simp only [List.mem_cons, List.not_mem_nil, or_false] at hf
    rcases hf with rfl | rfl | rfl | rfl | rfl
    · exact ⟨Tryd.t3, by kernel_rfl, by kernel_rfl, Nat.le_of_ble_eq_true (by kernel_rfl)⟩
    · exact ⟨Tryd.t3, by kernel_rfl, by kernel_rfl, Nat.le_of_ble_eq_true (by kernel_rfl)⟩
    · exact ⟨Tryd.t3, by kernel_rfl, by kernel_rfl, Nat.le_of_ble_eq_true (by kernel_rfl)⟩
    · exact ⟨Tryd.t3, by kernel_rfl, by kernel_rfl, Nat.le_of_ble_eq_true (by kernel_rfl)⟩
    · exact ⟨Tryd.t22, by kernel_rfl, by kernel_rfl, Nat.le_of_ble_eq_true (by kernel_rfl)⟩⟩ (by kernel_rfl) (by kernel_rfl) (by kernel_rfl) (by kernel_rfl)
def ti28 : TI := ⟨.slice 22, 1, 24, .nilslice, none⟩
theorem ti28_ok : TiOk Tryd.prog 28 ti28 := ti_mk (i := Tryd.t28) (z := .slice none 0 0) Tryd.underlying28 rfl (by kernel_rfl) (by kernel_rfl) (by kernel_rfl) (by kernel_rfl)
def ti29 : TI := ⟨.ptr 99, 1, 8, .nilptr, none⟩
theorem ti29_ok : TiOk Tryd.prog 29 ti29 := ti_mk (i := Tryd.t29) (z := .pointer none) Tryd.underlying29 rfl (by kernel_rfl) (by kernel_rfl) (by kernel_rfl) (by kernel_rfl)
def ti30 : TI := ⟨.ptr 101, 1, 8, .nilptr, none⟩
theorem ti30_ok : TiOk Tryd.prog 30 ti30 := ti_mk (i := Tryd.t30) (z := .pointer none) Tryd.underlying30 rfl (by kernel_rfl) (by kernel_rfl) (by kernel_rfl) (by kernel_rfl)
def ti32 : TI := ⟨.func, 1, 8, .nilFunc, none⟩
theorem ti32_ok : TiOk Tryd.prog 32 ti32 := ti_mk (i := Tryd.t32) (z := .nilFunc) Tryd.underlying32 ⟨_, _, _, rfl⟩ (by kernel_rfl) (by kernel_rfl) (by kernel_rfl) (by kernel_rfl)
def ti33 : TI := ⟨.func, 1, 8, .nilFunc, none⟩
theorem ti33_ok : TiOk Tryd.prog 33 ti33 := ti_mk (i := Tryd.t33) (z := .nilFunc) Tryd.underlying33 ⟨_, _, _, rfl⟩ (by kernel_rfl) (by kernel_rfl) (by kernel_rfl) (by kernel_rfl)
def ti34 : TI := ⟨.struct [(0, 3, 1), (1, 22, 1), (2, 27, 5), (7, 22, 1)], 8, 64, .agg [.int .i64 (.lit 0), .int .u32 (.lit 0), .int .i64 (.lit 0), .int .i64 (.lit 0), .int .i64 (.lit 0), .int .i64 (.lit 0), .int .u32 (.lit 0), .int .u32 (.lit 0)], none⟩
theorem ti34_ok : TiOk Tryd.prog 34 ti34 := ti_mk (i := Tryd.t34) (z := .agg #[.int .i64 0, .int .u32 0, .int .i64 0, .int .i64 0, .int .i64 0, .int .i64 0, .int .u32 0, .int .u32 0]) Tryd.underlying34 ⟨_, rfl, (by kernel_rfl), fun f hf => by
    simp only [List.mem_cons, List.not_mem_nil, or_false] at hf
    rcases hf with rfl | rfl | rfl | rfl
    · exact ⟨Tryd.t3, by kernel_rfl, by kernel_rfl, Nat.le_of_ble_eq_true (by kernel_rfl)⟩
    · exact ⟨Tryd.t22, by kernel_rfl, by kernel_rfl, Nat.le_of_ble_eq_true (by kernel_rfl)⟩
    · exact ⟨Tryd.t27, by kernel_rfl, by kernel_rfl, Nat.le_of_ble_eq_true (by kernel_rfl)⟩
    · exact ⟨Tryd.t22, by kernel_rfl, by kernel_rfl, Nat.le_of_ble_eq_true (by kernel_rfl)⟩⟩ (by kernel_rfl) (by kernel_rfl) (by kernel_rfl) (by kernel_rfl)
def ti35 : TI := ⟨.struct [(0, 3, 1), (1, 22, 1), (2, 27, 5), (7, 22, 1)], 8, 64, .agg [.int .i64 (.lit 0), .int .u32 (.lit 0), .int .i64 (.lit 0), .int .i64 (.lit 0), .int .i64 (.lit 0), .int .i64 (.lit 0), .int .u32 (.lit 0), .int .u32 (.lit 0)], none⟩
theorem ti35_ok : TiOk Tryd.prog 35 ti35 := ti_mk (i := Tryd.t35) (z := .agg #[.int .i64 0, .int .u32 0, .int .i64 0, .int .i64 0, .int .i64 0, .int .i64 0, .int .u32 0, .int .u32 0]) Tryd.underlying35 ⟨_, rfl, (by kernel_rfl), fun f hf => by
    simp only [List.mem_cons, List.not_mem_nil, or_false] at hf
    rcases hf with rfl | rfl | rfl | rfl
    · exact ⟨Tryd.t3, by kernel_rfl, by kernel_rfl, Nat.le_of_ble_eq_true (by kernel_rfl)⟩
    · exact ⟨Tryd.t22, by kernel_rfl, by kernel_rfl, Nat.le_of_ble_eq_true (by kernel_rfl)⟩
    · exact ⟨Tryd.t27, by kernel_rfl, by kernel_rfl, Nat.le_of_ble_eq_true (by kernel_rfl)⟩
    · exact ⟨Tryd.t22, by kernel_rfl, by kernel_rfl, Nat.le_of_ble_eq_true (by kernel_rfl)⟩⟩ (by kernel_rfl) (by kernel_rfl) (by kernel_rfl) (by kernel_rfl)
def ti37 : TI := ⟨.func, 1, 8, .nilFunc, none⟩
theorem ti37_ok : TiOk Tryd.prog 37 ti37 := ti_mk (i := Tryd.t37) (z := .nilFunc) Tryd.underlying37 ⟨_, _, _, rfl⟩ (by kernel_rfl) (by kernel_rfl) (by kernel_rfl) (by kernel_rfl)
def ti39 : TI := ⟨.func, 1, 8, .nilFunc, none⟩
theorem ti39_ok : TiOk Tryd.prog 39 ti39 := ti_mk (i := Tryd.t39) (z := .nilFunc) Tryd.underlying39 ⟨_, _, _, rfl⟩ (by kernel_rfl) (by kernel_rfl) (by kernel_rfl) (by kernel_rfl)
def ti40 : TI := ⟨.func, 1, 8, .nilFunc, none⟩
theorem ti40_ok : TiOk Tryd.prog 40 ti40 := ti_mk (i := Tryd.t40) (z := .nilFunc) Tryd.underlying40 ⟨_, _, _, rfl⟩ (by kernel_rfl) (by kernel_rfl) (by kernel_rfl) (by kernel_rfl)
def ti41 : TI := ⟨.func, 1, 8, .nilFunc, none⟩
theorem ti41_ok : TiOk Tryd.prog 41 ti41 := ti_mk (i := Tryd.t41) (z := .nilFunc) Tryd.underlying41 ⟨_, _, _, rfl⟩ (by kernel_rfl) (by kernel_rfl) (by kernel_rfl) (by kernel_rfl)
def ti42 : TI := ⟨.func, 1, 8, .nilFunc, none⟩
theorem ti42_ok : TiOk Tryd.prog 42 ti42 := ti_mk (i := Tryd.t42) (z := .nilFunc) Tryd.underlying42 ⟨_, _, _, rfl⟩ (by kernel_rfl) (by kernel_rfl) (by kernel_rfl) (by kernel_rfl)
def ti43 : TI := ⟨.arr 16 22, 16, 64, .arr .u32 16 (List.replicate 16 0), none⟩
theorem ti43_ok : TiOk Tryd.prog 43 ti43 := ti_mk (i := Tryd.t43) (z := .agg #[.int .u32 0, .int .u32 0, .int .u32 0, .int .u32 0, .int .u32 0, .int .u32 0, .int .u32 0, .int .u32 0, .int .u32 0, .int .u32 0, .int .u32 0, .int .u32 0, .int .u32 0, .int .u32 0, .int .u32 0, .int .u32 0]) Tryd.underlying43 rfl (by kernel_rfl) (by kernel_rfl) (by kernel_rfl) (by kernel_rfl)
def ti44 : TI := ⟨.arr 16 22, 16, 64, .arr .u32 16 (List.replicate 16 0), none⟩
theorem ti44_ok : TiOk Tryd.prog 44 ti44 := ti_mk (i := Tryd.t44) (z := .agg #[.int .u32 0, .int .u32 0, .int .u32 0, .int .u32 0, .int .u32 0, .int .u32 0, .int .u32 0, .int .u32 0, .int .u32 0, .int .u32 0, .int .u32 0, .int .u32 0, .int .u32 0, .int .u32 0, .int .u32 0, .int .u32 0]) Tryd.underlying44 rfl (by kernel_rfl) (by kernel_rfl) (by kernel_rfl) (by kernel_rfl)
def ti45 : TI := ⟨.struct [(0, 27, 5), (5, 9, 1), (6, 9, 1), (7, 4, 1)], 8, 80, .agg [.int .i64 (.lit 0), .int .i64 (.lit 0), .int .i64 (.lit 0), .int .i64 (.lit 0), .int .u32 (.lit 0), .str ByteArray.empty, .str ByteArray.empty, .bool (.lit false)], none⟩
theorem ti45_ok : TiOk Tryd.prog 45 ti45 := ti_mk (i := Tryd.t45) (z := .agg #[.int .i64 0, .int .i64 0, .int .i64 0, .int .i64 0, .int .u32 0, .string ByteArray.empty, .string ByteArray.empty, .bool false]) Tryd.underlying45 ⟨_, rfl, (by kernel_rfl), fun f hf => by
    simp only [List.mem_cons, List.not_mem_nil, or_false] at hf
    rcases hf with rfl | rfl | rfl | rfl
    · exact ⟨Tryd.t27, by kernel_rfl, by kernel_rfl, Nat.le_of_ble_eq_true (by kernel_rfl)⟩
    · exact ⟨Tryd.t9, by kernel_rfl, by kernel_rfl, Nat.le_of_ble_eq_true (by kernel_rfl)⟩
    · exact ⟨Tryd.t9, by kernel_rfl, by kernel_rfl, Nat.le_of_ble_eq_true (by kernel_rfl)⟩
    · exact ⟨Tryd.t4, by kernel_rfl, by kernel_rfl, Nat.le_of_ble_eq_true (by kernel_rfl)⟩⟩ (by kernel_rfl) (by kernel_rfl) (by kernel_rfl) (by kernel_rfl)
def ti46 : TI := ⟨.struct [(0, 27, 5), (5, 9, 1), (6, 9, 1), (7, 4, 1)], 8, 80, .agg [.int .i64 (.lit 0), .int .i64 (.lit 0), .int .i64 (.lit 0), .int .i64 (.lit 0), .int .u32 (.lit 0), .str ByteArray.empty, .str ByteArray.empty, .bool (.lit false)], some .line⟩
theorem ti46_ok : TiOk Tryd.prog 46 ti46 := ti_mk (i := Tryd.t46) (z := .agg #[.int .i64 0, .int .i64 0, .int .i64 0, .int .i64 0, .int .u32 0, .string ByteArray.empty, .string ByteArray.empty, .bool false]) Tryd.underlying46 ⟨_, rfl, (by kernel_rfl), fun f hf => by
    simp only [List.mem_cons, List.not_mem_nil, or_false] at hf
    rcases hf with rfl | rfl | rfl | rfl
    · exact ⟨Tryd.t27, by kernel_rfl, by kernel_rfl, Nat.le_of_ble_eq_true (by kernel_rfl)⟩
    · exact ⟨Tryd.t9, by kernel_rfl, by kernel_rfl, Nat.le_of_ble_eq_true (by kernel_rfl)⟩
    · exact ⟨Tryd.t9, by kernel_rfl, by kernel_rfl, Nat.le_of_ble_eq_true (by kernel_rfl)⟩
    · exact ⟨Tryd.t4, by kernel_rfl, by kernel_rfl, Nat.le_of_ble_eq_true (by kernel_rfl)⟩⟩ (by kernel_rfl) (by kernel_rfl) (by kernel_rfl) (by kernel_rfl)
def ti47 : TI := ⟨.func, 1, 8, .nilFunc, none⟩
theorem ti47_ok : TiOk Tryd.prog 47 ti47 := ti_mk (i := Tryd.t47) (z := .nilFunc) Tryd.underlying47 ⟨_, _, _, rfl⟩ (by kernel_rfl) (by kernel_rfl) (by kernel_rfl) (by kernel_rfl)
def ti48 : TI := ⟨.struct [(0, 44, 16), (16, 22, 1), (17, 4, 1), (18, 4, 1), (19, 22, 1), (20, 22, 1), (21, 22, 1), (22, 22, 1)], 23, 88, .agg [.arr .u32 16 (List.replicate 16 0), .int .u32 (.lit 0), .bool (.lit false), .bool (.lit false), .int .u32 (.lit 0), .int .u32 (.lit 0), .int .u32 (.lit 0), .int .u32 (.lit 0)], none⟩
theorem ti48_ok : TiOk Tryd.prog 48 ti48 := ti_mk (i := Tryd.t48) (z := .agg #[.int .u32 0, .int .u32 0, .int .u32 0, .int .u32 0, .int .u32 0, .int .u32 0, .int .u32 0, .int .u32 0, .int .u32 0, .int .u32 0, .int .u32 0, .int .u32 0, .int .u32 0, .int .u32 0, .int .u32 0, .int .u32 0, .int .u32 0, .bool false, .bool false, .int .u32 0, .int .u32 0, .int .u32 0, .int .u32 0]) Tryd.underlying48 ⟨_, rfl, (by kernel_rfl), fun f hf => by
    simp only [List.mem_cons, List.not_mem_nil, or_false] at hf
    rcases hf with rfl | rfl | rfl | rfl | rfl | rfl | rfl | rfl
    · exact ⟨Tryd.t44, by kernel_rfl, by kernel_rfl, Nat.le_of_ble_eq_true (by kernel_rfl)⟩
    · exact ⟨Tryd.t22, by kernel_rfl, by kernel_rfl, Nat.le_of_ble_eq_true (by kernel_rfl)⟩
    · exact ⟨Tryd.t4, by kernel_rfl, by kernel_rfl, Nat.le_of_ble_eq_true (by kernel_rfl)⟩
    · exact ⟨Tryd.t4, by kernel_rfl, by kernel_rfl, Nat.le_of_ble_eq_true (by kernel_rfl)⟩
    · exact ⟨Tryd.t22, by kernel_rfl, by kernel_rfl, Nat.le_of_ble_eq_true (by kernel_rfl)⟩
    · exact ⟨Tryd.t22, by kernel_rfl, by kernel_rfl, Nat.le_of_ble_eq_true (by kernel_rfl)⟩
    · exact ⟨Tryd.t22, by kernel_rfl, by kernel_rfl, Nat.le_of_ble_eq_true (by kernel_rfl)⟩
    · exact ⟨Tryd.t22, by kernel_rfl, by kernel_rfl, Nat.le_of_ble_eq_true (by kernel_rfl)⟩⟩ (by kernel_rfl) (by kernel_rfl) (by kernel_rfl) (by kernel_rfl)
def ti49 : TI := ⟨.struct [(0, 44, 16), (16, 22, 1), (17, 4, 1), (18, 4, 1), (19, 22, 1), (20, 22, 1), (21, 22, 1), (22, 22, 1)], 23, 88, .agg [.arr .u32 16 (List.replicate 16 0), .int .u32 (.lit 0), .bool (.lit false), .bool (.lit false), .int .u32 (.lit 0), .int .u32 (.lit 0), .int .u32 (.lit 0), .int .u32 (.lit 0)], none⟩
theorem ti49_ok : TiOk Tryd.prog 49 ti49 := ti_mk (i := Tryd.t49) (z := .agg #[.int .u32 0, .int .u32 0, .int .u32 0, .int .u32 0, .int .u32 0, .int .u32 0, .int .u32 0, .int .u32 0, .int .u32 0, .int .u32 0, .int .u32 0, .int .u32 0, .int .u32 0, .int .u32 0, .int .u32 0, .int .u32 0, .int .u32 0, .bool false, .bool false, .int .u32 0, .int .u32 0, .int .u32 0, .int .u32 0]) Tryd.underlying49 ⟨_, rfl, (by kernel_rfl), fun f hf => by
    simp only [List.mem_cons, List.not_mem_nil, or_false] at hf
    rcases hf with rfl | rfl | rfl | rfl | rfl | rfl | rfl | rfl
    · exact ⟨Tryd.t44, by kernel_rfl, by kernel_rfl, Nat.le_of_ble_eq_true (by kernel_rfl)⟩
    · exact ⟨Tryd.t22, by kernel_rfl, by kernel_rfl, Nat.le_of_ble_eq_true (by kernel_rfl)⟩
    · exact ⟨Tryd.t4, by kernel_rfl, by kernel_rfl, Nat.le_of_ble_eq_true (by kernel_rfl)⟩
    · exact ⟨Tryd.t4, by kernel_rfl, by kernel_rfl, Nat.le_of_ble_eq_true (by kernel_rfl)⟩
    · exact ⟨Tryd.t22, by kernel_rfl, by kernel_rfl, Nat.le_of_ble_eq_true (by kernel_rfl)⟩
    · exact ⟨Tryd.t22, by kernel_rfl, by kernel_rfl, Nat.le_of_ble_eq_true (by kernel_rfl)⟩
    · exact ⟨Tryd.t22, by kernel_rfl, by kernel_rfl, Nat.le_of_ble_eq_true (by kernel_rfl)⟩
    · exact ⟨Tryd.t22, by kernel_rfl, by kernel_rfl, Nat.le_of_ble_eq_true (by kernel_rfl)⟩⟩ (by kernel_rfl) (by kernel_rfl) (by kernel_rfl) (by kernel_rfl)
def ti51 : TI := ⟨.func, 1, 8, .nilFunc, none⟩
theorem ti51_ok : TiOk Tryd.prog 51 ti51 := ti_mk (i := Tryd.t51) (z := .nilFunc) Tryd.underlying51 ⟨_, _, _, rfl⟩ (by kernel_rfl) (by kernel_rfl) (by kernel_rfl) (by kernel_rfl)
def ti52 : TI := ⟨.func, 1, 8, .nilFunc, none⟩
theorem ti52_ok : TiOk Tryd.prog 52 ti52 := ti_mk (i := Tryd.t52) (z := .nilFunc) Tryd.underlying52 ⟨_, _, _, rfl⟩ (by kernel_rfl) (by kernel_rfl) (by kernel_rfl) (by kernel_rfl)
def ti53 : TI := ⟨.func, 1, 8, .nilFunc, none⟩
theorem ti53_ok : TiOk Tryd.prog 53 ti53 := ti_mk (i := Tryd.t53) (z := .nilFunc) Tryd.underlying53 ⟨_, _, _, rfl⟩ (by kernel_rfl) (by kernel_rfl) (by kernel_rfl) (by kernel_rfl)
def ti54 : TI := ⟨.func, 1, 8, .nilFunc, none⟩
theorem ti54_ok : TiOk Tryd.prog 54 ti54 := ti_mk (i := Tryd.t54) (z := .nilFunc) Tryd.underlying54 ⟨_, _, _, rfl⟩ (by kernel_rfl) (by kernel_rfl) (by kernel_rfl) (by kernel_rfl)
def ti55 : TI := ⟨.slice 3, 1, 24, .nilslice, none⟩
theorem ti55_ok : TiOk Tryd.prog 55 ti55 := ti_mk (i := Tryd.t55) (z := .slice none 0 0) Tryd.underlying55 rfl (by kernel_rfl) (by kernel_rfl) (by kernel_rfl) (by kernel_rfl)
def ti56 : TI := ⟨.func, 1, 8, .nilFunc, none⟩
theorem ti56_ok : TiOk Tryd.prog 56 ti56 := ti_mk (i := Tryd.t56) (z := .nilFunc) Tryd.underlying56 ⟨_, _, _, rfl⟩ (by kernel_rfl) (by kernel_rfl) (by kernel_rfl) (by kernel_rfl)
def ti57 : TI := ⟨.func, 1, 8, .nilFunc, none⟩
theorem ti57_ok : TiOk Tryd.prog 57 ti57 := ti_mk (i := Tryd.t57) (z := .nilFunc) Tryd.underlying57 ⟨_, _, _, rfl⟩ (by kernel_rfl) (by kernel_rfl) (by kernel_rfl) (by kernel_rfl)
def ti58 : TI := ⟨.struct [(0, 3, 1), (1, 22, 1), (2, 27, 5), (7, 22, 1)], 8, 64, .agg [.int .i64 (.lit 0), .int .u32 (.lit 0), .int .i64 (.lit 0), .int .i64 (.lit 0), .int .i64 (.lit 0), .int .i64 (.lit 0), .int .u32 (.lit 0), .int .u32 (.lit 0)], none⟩
theorem ti58_ok : TiOk Tryd.prog 58 ti58 := ti_mk (i := Tryd.t58) (z := .agg #[.int .i64 0, .int .u32 0, .int .i64 0, .int .i64 0, .int .i64 0, .int .i64 0, .int .u32 0, .int .u32 0]) Tryd.underlying58 ⟨_, rfl, (by kernel_rfl), fun f hf => by
    simp only [List.mem_cons, List.not_mem_nil, or_false] at hf
    rcases hf with rfl | rfl | rfl | rfl
    · exact ⟨Tryd.t3, by kernel_rfl, by kernel_rfl, Nat.le_of_ble_eq_true (by kernel_rfl)⟩
    · exact ⟨Tryd.t22, by kernel_rfl, by kernel_rfl, Nat.le_of_ble_eq_true (by kernel_rfl)⟩
    · exact ⟨Tryd.t27, by kernel_rfl, by kernel_rfl, Nat.le_of_ble_eq_true (by kernel_rfl)⟩
    · exact ⟨Tryd.t22, by kernel_rfl, by kernel_rfl, Nat.le_of_ble_eq_true (by kernel_rfl)⟩⟩ (by kernel_rfl) (by kernel_rfl) (by kernel_rfl) (by kernel_rfl)
def ti60 : TI := ⟨.func, 1, 8, .nilFunc, none⟩
theorem ti60_ok : TiOk Tryd.prog 60 ti60 := ti_mk (i := Tryd.t60) (z := .nilFunc) Tryd.underlying60 ⟨_, _, _, rfl⟩ (by kernel_rfl) (by kernel_rfl) (by kernel_rfl) (by kernel_rfl)
def ti61 : TI := ⟨.func, 1, 8, .nilFunc, none⟩
theorem ti61_ok : TiOk Tryd.prog 61 ti61 := ti_mk (i := Tryd.t61) (z := .nilFunc) Tryd.underlying61 ⟨_, _, _, rfl⟩ (by kernel_rfl) (by kernel_rfl) (by kernel_rfl) (by kernel_rfl)
def ti63 : TI := ⟨.func, 1, 8, .nilFunc, none⟩
theorem ti63_ok : TiOk Tryd.prog 63 ti63 := ti_mk (i := Tryd.t63) (z := .nilFunc) Tryd.underlying63 ⟨_, _, _, rfl⟩ (by kernel_rfl) (by kernel_rfl) (by kernel_rfl) (by kernel_rfl)
def ti64 : TI := ⟨.func, 1, 8, .nilFunc, none⟩
theorem ti64_ok : TiOk Tryd.prog 64 ti64 := ti_mk (i := Tryd.t64) (z := .nilFunc) Tryd.underlying64 ⟨_, _, _, rfl⟩ (by kernel_rfl) (by kernel_rfl) (by kernel_rfl) (by kernel_rfl)
def ti65 : TI := ⟨.func, 1, 8, .nilFunc, none⟩
theorem ti65_ok : TiOk Tryd.prog 65 ti65 := ti_mk (i := Tryd.t65) (z := .nilFunc) Tryd.underlying65 ⟨_, _, _, rfl⟩ (by kernel_rfl) (by kernel_rfl) (by kernel_rfl) (by kernel_rfl)
def ti66 : TI := ⟨.func, 1, 8, .nilFunc, none⟩
theorem ti66_ok : TiOk Tryd.prog 66 ti66 := ti_mk (i := Tryd.t66) (z := .nilFunc) Tryd.underlying66 ⟨_, _, _, rfl⟩ (by kernel_rfl) (by kernel_rfl) (by kernel_rfl) (by kernel_rfl)
def ti67 : TI := ⟨.struct [(0, 3, 1), (1, 4, 1), (2, 4, 1), (3, 4, 1)], 4, 16, .agg [.int .i64 (.lit 0), .bool (.lit false), .bool (.lit false), .bool (.lit false)], none⟩
theorem ti67_ok : TiOk Tryd.prog 67 ti67 := ti_mk (i := Tryd.t67) (z := .agg #[.int .i64 0, .bool false, .bool false, .bool false]) Tryd.underlying67 ⟨_, rfl, (by kernel_rfl), fun f hf => by
    simp only [List.mem_cons, List.not_mem_nil, or_false] at hf
    rcases hf with rfl | rfl | rfl | rfl
    · exact ⟨Tryd.t3, by kernel_rfl, by kernel_rfl, Nat.le_of_ble_eq_true (by kernel_rfl)⟩
    · exact ⟨Tryd.t4, by kernel_rfl, by kernel_rfl, Nat.le_of_ble_eq_true (by kernel_rfl)⟩
    · exact ⟨Tryd.t4, by kernel_rfl, by kernel_rfl, Nat.le_of_ble_eq_true (by kernel_rfl)⟩
    · exact ⟨Tryd.t4, by kernel_rfl, by kernel_rfl, Nat.le_of_ble_eq_true (by kernel_rfl)⟩⟩ (by kernel_rfl) (by kernel_rfl) (by kernel_rfl) (by kernel_rfl)
def ti68 : TI := ⟨.struct [(0, 3, 1), (1, 4, 1), (2, 4, 1), (3, 4, 1)], 4, 16, .agg [.int .i64 (.lit 0), .bool (.lit false), .bool (.lit false), .bool (.lit false)], none⟩
theorem ti68_ok : TiOk Tryd.prog 68 ti68 := ti_mk (i := Tryd.t68) (z := .agg #[.int .i64 0, .bool false, .bool false, .bool false]) Tryd.underlying68 ⟨_, rfl, (by kernel_rfl), fun f hf => by
    simp only [List.mem_cons, List.not_mem_nil, or_false] at hf
    rcases hf with rfl | rfl | rfl | rfl
    · exact ⟨Tryd.t3, by kernel_rfl, by kernel_rfl, Nat.le_of_ble_eq_true (by kernel_rfl)⟩
    · exact ⟨Tryd.t4, by kernel_rfl, by kernel_rfl, Nat.le_of_ble_eq_true (by kernel_rfl)⟩
    · exact ⟨Tryd.t4, by kernel_rfl, by kernel_rfl, Nat.le_of_ble_eq_true (by kernel_rfl)⟩
    · exact ⟨Tryd.t4, by kernel_rfl, by kernel_rfl, Nat.le_of_ble_eq_true (by kernel_rfl)⟩⟩ (by kernel_rfl) (by kernel_rfl) (by kernel_rfl) (by kernel_rfl)
def ti70 : TI := ⟨.func, 1, 8, .nilFunc, none⟩
theorem ti70_ok : TiOk Tryd.prog 70 ti70 := ti_mk (i := Tryd.t70) (z := .nilFunc) Tryd.underlying70 ⟨_, _, _, rfl⟩ (by kernel_rfl) (by kernel_rfl) (by kernel_rfl) (by kernel_rfl)
def ti72 : TI := ⟨.func, 1, 8, .nilFunc, none⟩
theorem ti72_ok : TiOk Tryd.prog 72 ti72 := ti_mk (i := Tryd.t72) (z := .nilFunc) Tryd.underlying72 ⟨_, _, _, rfl⟩ (by kernel_rfl) (by kernel_rfl) (by kernel_rfl) (by kernel_rfl)
def ti73 : TI := ⟨.func, 1, 8, .nilFunc, none⟩
theorem ti73_ok : TiOk Tryd.prog 73 ti73 := ti_mk (i := Tryd.t73) (z := .nilFunc) Tryd.underlying73 ⟨_, _, _, rfl⟩ (by kernel_rfl) (by kernel_rfl) (by kernel_rfl) (by kernel_rfl)
def ti74 : TI := ⟨.int .u64, 1, 8, .int .u64 (.lit 0), none⟩
theorem ti74_ok : TiOk Tryd.prog 74 ti74 := ti_mk (i := Tryd.t74) (z := .int .u64 0) Tryd.underlying74 rfl (by kernel_rfl) (by kernel_rfl) (by kernel_rfl) (by kernel_rfl)
def ti75 : TI := ⟨.iface, 1, 16, .nilIface, none⟩
theorem ti75_ok : TiOk Tryd.prog 75 ti75 := ti_mk (i := Tryd.t75) (z := .nilIface) Tryd.underlying75 ⟨_, rfl⟩ (by kernel_rfl) (by kernel_rfl) (by kernel_rfl) (by kernel_rfl)
def ti76 : TI := ⟨.iface, 1, 16, .nilIface, some .err⟩
theorem ti76_ok : TiOk Tryd.prog 76 ti76 := ti_mk (i := Tryd.t76) (z := .nilIface) Tryd.underlying76 ⟨_, rfl⟩ (by kernel_rfl) (by kernel_rfl) (by kernel_rfl) (by kernel_rfl)
def ti78 : TI := ⟨.func, 1, 8, .nilFunc, none⟩
theorem ti78_ok : TiOk Tryd.prog 78 ti78 := ti_mk (i := Tryd.t78) (z := .nilFunc) Tryd.underlying78 ⟨_, _, _, rfl⟩ (by kernel_rfl) (by kernel_rfl) (by kernel_rfl) (by kernel_rfl)
def ti79 : TI := ⟨.func, 1, 8, .nilFunc, none⟩
theorem ti79_ok : TiOk Tryd.prog 79 ti79 := ti_mk (i := Tryd.t79) (z := .nilFunc) Tryd.underlying79 ⟨_, _, _, rfl⟩ (by kernel_rfl) (by kernel_rfl) (by kernel_rfl) (by kernel_rfl)
def ti80 : TI := ⟨.func, 1, 8, .nilFunc, none⟩
theorem ti80_ok : TiOk Tryd.prog 80 ti80 := ti_mk (i := Tryd.t80) (z := .nilFunc) Tryd.underlying80 ⟨_, _, _, rfl⟩ (by kernel_rfl) (by kernel_rfl) (by kernel_rfl) (by kernel_rfl)
def ti81 : TI := ⟨.func, 1, 8, .nilFunc, none⟩
theorem ti81_ok : TiOk Tryd.prog 81 ti81 := ti_mk (i := Tryd.t81) (z := .nilFunc) Tryd.underlying81 ⟨_, _, _, rfl⟩ (by kernel_rfl) (by kernel_rfl) (by kernel_rfl) (by kernel_rfl)
def ti82 : TI := ⟨.struct [], 0, 0, .agg [], none⟩
theorem ti82_ok : TiOk Tryd.prog 82 ti82 := ti_mk (i := Tryd.t82) (z := .agg #[]) Tryd.underlying82 ⟨_, rfl, (by kernel_rfl), fun f hf => by
    simp at hf⟩ (by kernel_rfl) (by kernel_rfl) (by kernel_rfl) (by kernel_rfl)
def ti83 : TI := ⟨.struct [], 0, 0, .agg [], none⟩
theorem ti83_ok : TiOk Tryd.prog 83 ti83 := ti_mk (i := Tryd.t83) (z := .agg #[]) Tryd.underlying83 ⟨_, rfl, (by kernel_rfl), fun f hf => by
    simp at hf⟩ (by kernel_rfl) (by kernel_rfl) (by kernel_rfl) (by kernel_rfl)
def ti84 : TI := ⟨.func, 1, 8, .nilFunc, none⟩
theorem ti84_ok : TiOk Tryd.prog 84 ti84 := ti_mk (i := Tryd.t84) (z := .nilFunc) Tryd.underlying84 ⟨_, _, _, rfl⟩ (by kernel_rfl) (by kernel_rfl) (by kernel_rfl) (by kernel_rfl)
def ti85 : TI := ⟨.func, 1, 8, .nilFunc, none⟩
theorem ti85_ok : TiOk Tryd.prog 85 ti85 := ti_mk (i := Tryd.t85) (z := .nilFunc) Tryd.underlying85 ⟨_, _, _, rfl⟩ (by kernel_rfl) (by kernel_rfl) (by kernel_rfl) (by kernel_rfl)
def ti86 : TI := ⟨.func, 1, 8, .nilFunc, none⟩
theorem ti86_ok : TiOk Tryd.prog 86 ti86 := ti_mk (i := Tryd.t86) (z := .nilFunc) Tryd.underlying86 ⟨_, _, _, rfl⟩ (by kernel_rfl) (by kernel_rfl) (by kernel_rfl) (by kernel_rfl)
def ti88 : TI := ⟨.func, 1, 8, .nilFunc, none⟩
theorem ti88_ok : TiOk Tryd.prog 88 ti88 := ti_mk (i := Tryd.t88) (z := .nilFunc) Tryd.underlying88 ⟨_, _, _, rfl⟩ (by kernel_rfl) (by kernel_rfl) (by kernel_rfl) (by kernel_rfl)
def ti89 : TI := ⟨.func, 1, 8, .nilFunc, none⟩
theorem ti89_ok : TiOk Tryd.prog 89 ti89 := ti_mk (i := Tryd.t89) (z := .nilFunc) Tryd.underlying89 ⟨_, _, _, rfl⟩ (by kernel_rfl) (by kernel_rfl) (by kernel_rfl) (by kernel_rfl)
def ti91 : TI := ⟨.func, 1, 8, .nilFunc, none⟩
theorem ti91_ok : TiOk Tryd.prog 91 ti91 := ti_mk (i := Tryd.t91) (z := .nilFunc) Tryd.underlying91 ⟨_, _, _, rfl⟩ (by kernel_rfl) (by kernel_rfl) (by kernel_rfl) (by kernel_rfl)
def ti93 : TI := ⟨.func, 1, 8, .nilFunc, none⟩
theorem ti93_ok : TiOk Tryd.prog 93 ti93 := ti_mk (i := Tryd.t93) (z := .nilFunc) Tryd.underlying93 ⟨_, _, _, rfl⟩ (by kernel_rfl) (by kernel_rfl) (by kernel_rfl) (by kernel_rfl)
def ti94 : TI := ⟨.func, 1, 8, .nilFunc, none⟩
theorem ti94_ok : TiOk Tryd.prog 94 ti94 := ti_mk (i := Tryd.t94) (z := .nilFunc) Tryd.underlying94 ⟨_, _, _, rfl⟩ (by kernel_rfl) (by kernel_rfl) (by kernel_rfl) (by kernel_rfl)
def ti96 : TI := ⟨.func, 1, 8, .nilFunc, none⟩
theorem ti96_ok : TiOk Tryd.prog 96 ti96 := ti_mk (i := Tryd.t96) (z := .nilFunc) Tryd.underlying96 ⟨_, _, _, rfl⟩ (by kernel_rfl) (by kernel_rfl) (by kernel_rfl) (by kernel_rfl)
def ti97 : TI := ⟨.func, 1, 8, .nilFunc, none⟩
theorem ti97_ok : TiOk Tryd.prog 97 ti97 := ti_mk (i := Tryd.t97) (z := .nilFunc) Tryd.underlying97 ⟨_, _, _, rfl⟩ (by kernel_rfl) (by kernel_rfl) (by kernel_rfl) (by kernel_rfl)
def ti98 : TI := ⟨.struct [(0, 28, 1)], 1, 24, .agg [.nilslice], none⟩
theorem ti98_ok : TiOk Tryd.prog 98 ti98 := ti_mk (i := Tryd.t98) (z := .agg #[.slice none 0 0]) Tryd.underlying98 ⟨_, rfl, (by kernel_rfl), fun f hf => by
    simp only [List.mem_cons, List.not_mem_nil, or_false] at hf
    subst hf
    · exact ⟨Tryd.t28, by kernel_rfl, by kernel_rfl, Nat.le_of_ble_eq_true (by kernel_rfl)⟩⟩ (by kernel_rfl) (by kernel_rfl) (by kernel_rfl) (by kernel_rfl)
def ti99 : TI := ⟨.struct [(0, 28, 1)], 1, 24, .agg [.nilslice], none⟩
theorem ti99_ok : TiOk Tryd.prog 99 ti99 := ti_mk (i := Tryd.t99) (z := .agg #[.slice none 0 0]) Tryd.underlying99 ⟨_, rfl, (by kernel_rfl), fun f hf => by
    simp only [List.mem_cons, List.not_mem_nil, or_false] at hf
    subst hf
    · exact ⟨Tryd.t28, by kernel_rfl, by kernel_rfl, Nat.le_of_ble_eq_true (by kernel_rfl)⟩⟩ (by kernel_rfl) (by kernel_rfl) (by kernel_rfl) (by kernel_rfl)
def ti100 : TI := ⟨.struct [(0, 28, 1)], 1, 24, .agg [.nilslice], none⟩
theorem ti100_ok : TiOk Tryd.prog 100 ti100 := ti_mk (i := Tryd.t100) (z := .agg #[.slice none 0 0]) Tryd.underlying100 ⟨_, rfl, (by kernel_rfl), fun f hf => by
    simp only [List.mem_cons, List.not_mem_nil, or_false] at hf
    subst hf
    · exact ⟨Tryd.t28, by kernel_rfl, by kernel_rfl, Nat.le_of_ble_eq_true (by kernel_rfl)⟩⟩ (by kernel_rfl) (by kernel_rfl) (by kernel_rfl) (by kernel_rfl)
def ti101 : TI := ⟨.struct [(0, 28, 1)], 1, 24, .agg [.nilslice], none⟩
theorem ti101_ok : TiOk Tryd.prog 101 ti101 := ti_mk (i := Tryd.t101) (z := .agg #[.slice none 0 0]) Tryd.underlying101 ⟨_, rfl, (by kernel_rfl), fun f hf => by
    simp only [List.mem_cons, List.not_mem_nil, or_false] at hf
    subst hf
    · exact ⟨Tryd.t28, by kernel_rfl, by kernel_rfl, Nat.le_of_ble_eq_true (by kernel_rfl)⟩⟩ (by kernel_rfl) (by kernel_rfl) (by kernel_rfl) (by kernel_rfl)
def ti102 : TI := ⟨.func, 1, 8, .nilFunc, none⟩
theorem ti102_ok : TiOk Tryd.prog 102 ti102 := ti_mk (i := Tryd.t102) (z := .nilFunc) Tryd.underlying102 ⟨_, _, _, rfl⟩ (by kernel_rfl) (by kernel_rfl) (by kernel_rfl) (by kernel_rfl)
def ti103 : TI := ⟨.func, 1, 8, .nilFunc, none⟩
theorem ti103_ok : TiOk Tryd.prog 103 ti103 := ti_mk (i := Tryd.t103) (z := .nilFunc) Tryd.underlying103 ⟨_, _, _, rfl⟩ (by kernel_rfl) (by kernel_rfl) (by kernel_rfl) (by kernel_rfl)
def ti104 : TI := ⟨.func, 1, 8, .nilFunc, none⟩
theorem ti104_ok : TiOk Tryd.prog 104 ti104 := ti_mk (i := Tryd.t104) (z := .nilFunc) Tryd.underlying104 ⟨_, _, _, rfl⟩ (by kernel_rfl) (by kernel_rfl) (by kernel_rfl) (by kernel_rfl)
def ti105 : TI := ⟨.func, 1, 8, .nilFunc, none⟩
theorem ti105_ok : TiOk Tryd.prog 105 ti105 := ti_mk (i := Tryd.t105) (z := .nilFunc) Tryd.underlying105 ⟨_, _, _, rfl⟩ (by kernel_rfl) (by kernel_rfl) (by kernel_rfl) (by kernel_rfl)
def ti106 : TI := ⟨.func, 1, 8, .nilFunc, none⟩
theorem ti106_ok : TiOk Tryd.prog 106 ti106 := ti_mk (i := Tryd.t106) (z := .nilFunc) Tryd.underlying106 ⟨_, _, _, rfl⟩ (by kernel_rfl) (by kernel_rfl) (by kernel_rfl) (by kernel_rfl)
def ti107 : TI := ⟨.func, 1, 8, .nilFunc, none⟩
theorem ti107_ok : TiOk Tryd.prog 107 ti107 := ti_mk (i := Tryd.t107) (z := .nilFunc) Tryd.underlying107 ⟨_, _, _, rfl⟩ (by kernel_rfl) (by kernel_rfl) (by kernel_rfl) (by kernel_rfl)
def ti108 : TI := ⟨.func, 1, 8, .nilFunc, none⟩
theorem ti108_ok : TiOk Tryd.prog 108 ti108 := ti_mk (i := Tryd.t108) (z := .nilFunc) Tryd.underlying108 ⟨_, _, _, rfl⟩ (by kernel_rfl) (by kernel_rfl) (by kernel_rfl) (by kernel_rfl)
def ti110 : TI := ⟨.func, 1, 8, .nilFunc, none⟩
theorem ti110_ok : TiOk Tryd.prog 110 ti110 := ti_mk (i := Tryd.t110) (z := .nilFunc) Tryd.underlying110 ⟨_, _, _, rfl⟩ (by kernel_rfl) (by kernel_rfl) (by kernel_rfl) (by kernel_rfl)
def ti111 : TI := ⟨.func, 1, 8, .nilFunc, none⟩
theorem ti111_ok : TiOk Tryd.prog 111 ti111 := ti_mk (i := Tryd.t111) (z := .nilFunc) Tryd.underlying111 ⟨_, _, _, rfl⟩ (by kernel_rfl) (by kernel_rfl) (by kernel_rfl) (by kernel_rfl)
def ti112 : TI := ⟨.func, 1, 8, .nilFunc, none⟩
theorem ti112_ok : TiOk Tryd.prog 112 ti112 := ti_mk (i := Tryd.t112) (z := .nilFunc) Tryd.underlying112 ⟨_, _, _, rfl⟩ (by kernel_rfl) (by kernel_rfl) (by kernel_rfl) (by kernel_rfl)
def ti113 : TI := ⟨.func, 1, 8, .nilFunc, none⟩
theorem ti113_ok : TiOk Tryd.prog 113 ti113 := ti_mk (i := Tryd.t113) (z := .nilFunc) Tryd.underlying113 ⟨_, _, _, rfl⟩ (by kernel_rfl) (by kernel_rfl) (by kernel_rfl) (by kernel_rfl)
def ti114 : TI := ⟨.struct [(0, 22, 1), (1, 22, 1)], 2, 8, .agg [.int .u32 (.lit 0), .int .u32 (.lit 0)], none⟩
theorem ti114_ok : TiOk Tryd.prog 114 ti114 := ti_mk (i := Tryd.t114) (z := .agg #[.int .u32 0, .int .u32 0]) Tryd.underlying114 ⟨_, rfl, (by kernel_rfl), fun f hf => by
    simp only [List.mem_cons, List.not_mem_nil, or_false] at hf
    rcases hf with rfl | rfl
    · exact ⟨Tryd.t22, by kernel_rfl, by kernel_rfl, Nat.le_of_ble_eq_true (by kernel_rfl)⟩
    · exact ⟨Tryd.t22, by kernel_rfl, by kernel_rfl, Nat.le_of_ble_eq_true (by kernel_rfl)⟩⟩ (by kernel_rfl) (by kernel_rfl) (by kernel_rfl) (by kernel_rfl)
def ti115 : TI := ⟨.struct [(0, 22, 1), (1, 22, 1)], 2, 8, .agg [.int .u32 (.lit 0), .int .u32 (.lit 0)], none⟩
theorem ti115_ok : TiOk Tryd.prog 115 ti115 := ti_mk (i := Tryd.t115) (z := .agg #[.int .u32 0, .int .u32 0]) Tryd.underlying115 ⟨_, rfl, (by kernel_rfl), fun f hf => by
    simp only [List.mem_cons, List.not_mem_nil, or_false] at hf
    rcases hf with rfl | rfl
    · exact ⟨Tryd.t22, by kernel_rfl, by kernel_rfl, Nat.le_of_ble_eq_true (by kernel_rfl)⟩
    · exact ⟨Tryd.t22, by kernel_rfl, by kernel_rfl, Nat.le_of_ble_eq_true (by kernel_rfl)⟩⟩ (by kernel_rfl) (by kernel_rfl) (by kernel_rfl) (by kernel_rfl)
def ti116 : TI := ⟨.func, 1, 8, .nilFunc, none⟩
theorem ti116_ok : TiOk Tryd.prog 116 ti116 := ti_mk (i := Tryd.t116) (z := .nilFunc) Tryd.underlying116 ⟨_, _, _, rfl⟩ (by kernel_rfl) (by kernel_rfl) (by kernel_rfl) (by kernel_rfl)
def ti117 : TI := ⟨.int .i8, 1, 1, .int .i8 (.lit 0), none⟩
theorem ti117_ok : TiOk Tryd.prog 117 ti117 := ti_mk (i := Tryd.t117) (z := .int .i8 0) Tryd.underlying117 rfl (by kernel_rfl) (by kernel_rfl) (by kernel_rfl) (by kernel_rfl)
def ti118 : TI := ⟨.slice 113, 1, 24, .nilslice, none⟩
theorem ti118_ok : TiOk Tryd.prog 118 ti118 := ti_mk (i := Tryd.t118) (z := .slice none 0 0) Tryd.underlying118 rfl (by kernel_rfl) (by kernel_rfl) (by kernel_rfl) (by kernel_rfl)
def ti119 : TI := ⟨.slice 4, 1, 24, .nilslice, none⟩
theorem ti119_ok : TiOk Tryd.prog 119 ti119 := ti_mk (i := Tryd.t119) (z := .slice none 0 0) Tryd.underlying119 rfl (by kernel_rfl) (by kernel_rfl) (by kernel_rfl) (by kernel_rfl)
def ti121 : TI := ⟨.func, 1, 8, .nilFunc, none⟩
theorem ti121_ok : TiOk Tryd.prog 121 ti121 := ti_mk (i := Tryd.t121) (z := .nilFunc) Tryd.underlying121 ⟨_, _, _, rfl⟩ (by kernel_rfl) (by kernel_rfl) (by kernel_rfl) (by kernel_rfl)
def ti129 : TI := ⟨.func, 1, 8, .nilFunc, none⟩
theorem ti129_ok : TiOk Tryd.prog 129 ti129 := ti_mk (i := Tryd.t129) (z := .nilFunc) Tryd.underlying129 ⟨_, _, _, rfl⟩ (by kernel_rfl) (by kernel_rfl) (by kernel_rfl) (by kernel_rfl)
def ti130 : TI := ⟨.ptr 5, 1, 8, .nilptr, none⟩
theorem ti130_ok : TiOk Tryd.prog 130 ti130 := ti_mk (i := Tryd.t130) (z := .pointer none) Tryd.underlying130 rfl (by kernel_rfl) (by kernel_rfl) (by kernel_rfl) (by kernel_rfl)
def ti135 : TI := ⟨.struct [(0, 9, 1)], 1, 16, .agg [.str ByteArray.empty], none⟩
theorem ti135_ok : TiOk Tryd.prog 135 ti135 := ti_mk (i := Tryd.t135) (z := .agg #[.string ByteArray.empty]) Tryd.underlying135 ⟨_, rfl, (by kernel_rfl), fun f hf => by
    simp only [List.mem_cons, List.not_mem_nil, or_false] at hf
    subst hf
    · exact ⟨Tryd.t9, by kernel_rfl, by kernel_rfl, Nat.le_of_ble_eq_true (by kernel_rfl)⟩⟩ (by kernel_rfl) (by kernel_rfl) (by kernel_rfl) (by kernel_rfl)
def ti138 : TI := ⟨.func, 1, 8, .nilFunc, none⟩
theorem ti138_ok : TiOk Tryd.prog 138 ti138 := ti_mk (i := Tryd.t138) (z := .nilFunc) Tryd.underlying138 ⟨_, _, _, rfl⟩ (by kernel_rfl) (by kernel_rfl) (by kernel_rfl) (by kernel_rfl)
def tab : List (Nat × TI) := [(1, ti1), (2, ti2), (3, ti3), (4, ti4), (5, ti5), (9, ti9), (12, ti12), (13, ti13), (19, ti19), (20, ti20), (21, ti21), (22, ti22), (23, ti23), (25, ti25), (26, ti26), (27, ti27), (28, ti28), (29, ti29), (30, ti30), (32, ti32), (33, ti33), (34, ti34), (35, ti35), (37, ti37), (39, ti39), (40, ti40), (41, ti41), (42, ti42), (43, ti43), (44, ti44), (45, ti45), (46, ti46), (47, ti47), (48, ti48), (49, ti49), (51, ti51), (52, ti52), (53, ti53), (54, ti54), (55, ti55), (56, ti56), (57, ti57), (58, ti58), (60, ti60), (61, ti61), (63, ti63), (64, ti64), (65, ti65), (66, ti66), (67, ti67), (68, ti68), (70, ti70), (72, ti72), (73, ti73), (74, ti74), (75, ti75), (76, ti76), (78, ti78), (79, ti79), (80, ti80), (81, ti81), (82, ti82), (83, ti83), (84, ti84), (85, ti85), (86, ti86), (88, ti88), (89, ti89), (91, ti91), (93, ti93), (94, ti94), (96, ti96), (97, ti97), (98, ti98), (99, ti99), (100, ti100), (101, ti101), (102, ti102), (103, ti103), (104, ti104), (105, ti105), (106, ti106), (107, ti107), (108, ti108), (110, ti110), (111, ti111), (112, ti112), (113, ti113), (114, ti114), (115, ti115), (116, ti116), (117, ti117), (118, ti118), (119, ti119), (121, ti121), (129, ti129), (130, ti130), (135, ti135), (138, ti138)]
theorem tab_ok : ∀ t ti, find t tab = some ti → TiOk Tryd.prog t ti := by
  intro t ti h
  have h := find_mem h
  simp only [tab, List.mem_cons, Prod.mk.injEq, List.not_mem_nil, or_false] at h
  rcases h with ⟨rfl, rfl⟩ | ⟨rfl, rfl⟩ | ⟨rfl, rfl⟩ | ⟨rfl, rfl⟩ | ⟨rfl, rfl⟩ | ⟨rfl, rfl⟩ | ⟨rfl, rfl⟩ | ⟨rfl, rfl⟩ | ⟨rfl, rfl⟩ | ⟨rfl, rfl⟩ | ⟨rfl, rfl⟩ | ⟨rfl, rfl⟩ | ⟨rfl, rfl⟩ | ⟨rfl, rfl⟩ | ⟨rfl, rfl⟩ | ⟨rfl, rfl⟩ | ⟨rfl, rfl⟩ | ⟨rfl, rfl⟩ | ⟨rfl, rfl⟩ | ⟨rfl, rfl⟩ | ⟨rfl, rfl⟩ | ⟨rfl, rfl⟩ | ⟨rfl, rfl⟩ | ⟨rfl, rfl⟩ | ⟨rfl, rfl⟩ | ⟨rfl, rfl⟩ | ⟨rfl, rfl⟩ | ⟨rfl, rfl⟩ | ⟨rfl, rfl⟩ | ⟨rfl, rfl⟩ | ⟨rfl, rfl⟩ | ⟨rfl, rfl⟩ | ⟨rfl, rfl⟩ | ⟨rfl, rfl⟩ | ⟨rfl, rfl⟩ | ⟨rfl, rfl⟩ | ⟨rfl, rfl⟩ | ⟨rfl, rfl⟩ | ⟨rfl, rfl⟩ | ⟨rfl, rfl⟩ | ⟨rfl, rfl⟩ | ⟨rfl, rfl⟩ | ⟨rfl, rfl⟩ | ⟨rfl, rfl⟩ | ⟨rfl, rfl⟩ | ⟨rfl, rfl⟩ | ⟨rfl, rfl⟩ | ⟨rfl, rfl⟩ | ⟨rfl, rfl⟩ | ⟨rfl, rfl⟩ | ⟨rfl, rfl⟩ | ⟨rfl, rfl⟩ | ⟨rfl, rfl⟩ | ⟨rfl, rfl⟩ | ⟨rfl, rfl⟩ | ⟨rfl, rfl⟩ | ⟨rfl, rfl⟩ | ⟨rfl, rfl⟩ | ⟨rfl, rfl⟩ | ⟨rfl, rfl⟩ | ⟨rfl, rfl⟩ | ⟨rfl, rfl⟩ | ⟨rfl, rfl⟩ | ⟨rfl, rfl⟩ | ⟨rfl, rfl⟩ | ⟨rfl, rfl⟩ | ⟨rfl, rfl⟩ | ⟨rfl, rfl⟩ | ⟨rfl, rfl⟩ | ⟨rfl, rfl⟩ | ⟨rfl, rfl⟩ | ⟨rfl, rfl⟩ | ⟨rfl, rfl⟩ | ⟨rfl, rfl⟩ | ⟨rfl, rfl⟩ | ⟨rfl, rfl⟩ | ⟨rfl, rfl⟩ | ⟨rfl, rfl⟩ | ⟨rfl, rfl⟩ | ⟨rfl, rfl⟩ | ⟨rfl, rfl⟩ | ⟨rfl, rfl⟩ | ⟨rfl, rfl⟩ | ⟨rfl, rfl⟩ | ⟨rfl, rfl⟩ | ⟨rfl, rfl⟩ | ⟨rfl, rfl⟩ | ⟨rfl, rfl⟩ | ⟨rfl, rfl⟩ | ⟨rfl, rfl⟩ | ⟨rfl, rfl⟩ | ⟨rfl, rfl⟩ | ⟨rfl, rfl⟩ | ⟨rfl, rfl⟩ | ⟨rfl, rfl⟩ | ⟨rfl, rfl⟩ | ⟨rfl, rfl⟩ | ⟨rfl, rfl⟩ | ⟨rfl, rfl⟩
  · exact ti1_ok
  · exact ti2_ok
  · exact ti3_ok
  · exact ti4_ok
  · exact ti5_ok
  · exact ti9_ok
  · exact ti12_ok
  · exact ti13_ok
  · exact ti19_ok
  · exact ti20_ok
  · exact ti21_ok
  · exact ti22_ok
  · exact ti23_ok
  · exact ti25_ok
  · exact ti26_ok
  · exact ti27_ok
  · exact ti28_ok
  · exact ti29_ok
  · exact ti30_ok
  · exact ti32_ok
  · exact ti33_ok
  · exact ti34_ok
  · exact ti35_ok
  · exact ti37_ok
  · exact ti39_ok
  · exact ti40_ok
  · exact ti41_ok
  · exact ti42_ok
  · exact ti43_ok
  · exact ti44_ok
  · exact ti45_ok
  · exact ti46_ok
  · exact ti47_ok
  · exact ti48_ok
  · exact ti49_ok
  · exact ti51_ok
  · exact ti52_ok
  · exact ti53_ok
  · exact ti54_ok
  · exact ti55_ok
  · exact ti56_ok
  · exact ti57_ok
  · exact ti58_ok
  · exact ti60_ok
  · exact ti61_ok
  · exact ti63_ok
  · exact ti64_ok
  · exact ti65_ok
  · exact ti66_ok
  · exact ti67_ok
  · exact ti68_ok
  · exact ti70_ok
  · exact ti72_ok
  · exact ti73_ok
  · exact ti74_ok
  · exact ti75_ok
  · exact ti76_ok
  · exact ti78_ok
  · exact ti79_ok
  · exact ti80_ok
  · exact ti81_ok
  · exact ti82_ok
  · exact ti83_ok
  · exact ti84_ok
  · exact ti85_ok
  · exact ti86_ok
  · exact ti88_ok
  · exact ti89_ok
  · exact ti91_ok
  · exact ti93_ok
  · exact ti94_ok
  · exact ti96_ok
  · exact ti97_ok
  · exact ti98_ok
  · exact ti99_ok
  · exact ti100_ok
  · exact ti101_ok
  · exact ti102_ok
  · exact ti103_ok
  · exact ti104_ok
  · exact ti105_ok
  · exact ti106_ok
  · exact ti107_ok
  · exact ti108_ok
  · exact ti110_ok
  · exact ti111_ok
  · exact ti112_ok
  · exact ti113_ok
  · exact ti114_ok
  · exact ti115_ok
  · exact ti116_ok
  · exact ti117_ok
  · exact ti118_ok
  · exact ti119_ok
  · exact ti121_ok
  · exact ti129_ok
  · exact ti130_ok
  · exact ti135_ok
  · exact ti138_ok
end Go.Proofs.YtfbagpbncfapbaaDoor

