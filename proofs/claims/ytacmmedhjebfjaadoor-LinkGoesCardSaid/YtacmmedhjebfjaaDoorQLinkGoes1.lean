/- Contracts that the proofs use. -/
import Derived.Test.YtacmmedhjebfjaaDoorQE14
import Derived.Test.YtacmmedhjebfjaaDoorRows
set_option linter.unusedVariables false
set_option linter.unusedSimpArgs false
namespace Go.Proofs.YtacmmedhjebfjaaDoor
open Go.RowKit Go.Sy
def ti1 : TI := ⟨.func, 1, 8, .nilFunc, none⟩
theorem ti1_ok : TiOk Tryd.prog 1 ti1 := ti_mk (i := Tryd.t1) (z := .nilFunc) Tryd.underlying1 ⟨_, _, _, rfl⟩ (by kernel_rfl) (by kernel_rfl) (by kernel_rfl) (by kernel_rfl)
def ti2 : TI := ⟨.int .i64, 1, 8, .int .i64 (.lit 0), none⟩
theorem ti2_ok : TiOk Tryd.prog 2 ti2 := ti_mk (i := Tryd.t2) (z := .int .i64 0) Tryd.underlying2 rfl (by kernel_rfl) (by kernel_rfl) (by kernel_rfl) (by kernel_rfl)
def ti3 : TI := ⟨.int .i64, 1, 8, .int .i64 (.lit 0), some (.i64)⟩
theorem ti3_ok : TiOk Tryd.prog 3 ti3 := ti_mk (i := Tryd.t3) (z := .int .i64 0) Tryd.underlying3 rfl (by kernel_rfl) (by kernel_rfl) (by kernel_rfl) (by kernel_rfl)
def ti4 : TI := ⟨.bool, 1, 1, .bool (.lit false), some (.bool)⟩
theorem ti4_ok : TiOk Tryd.prog 4 ti4 := ti_mk (i := Tryd.t4) (z := .bool false) Tryd.underlying4 rfl (by kernel_rfl) (by kernel_rfl) (by kernel_rfl) (by kernel_rfl)
def ti5 : TI := ⟨.int .u8, 1, 1, .int .u8 (.lit 0), some (.u8)⟩
theorem ti5_ok : TiOk Tryd.prog 5 ti5 := ti_mk (i := Tryd.t5) (z := .int .u8 0) Tryd.underlying5 rfl (by kernel_rfl) (by kernel_rfl) (by kernel_rfl) (by kernel_rfl)
def ti9 : TI := ⟨.str, 1, 16, .str ByteArray.empty, some (.str)⟩
theorem ti9_ok : TiOk Tryd.prog 9 ti9 := ti_mk (i := Tryd.t9) (z := .string ByteArray.empty) Tryd.underlying9 rfl (by kernel_rfl) (by kernel_rfl) (by kernel_rfl) (by kernel_rfl)
def ti12 : TI := ⟨.int .u64, 1, 8, .int .u64 (.lit 0), none⟩
theorem ti12_ok : TiOk Tryd.prog 12 ti12 := ti_mk (i := Tryd.t12) (z := .int .u64 0) Tryd.underlying12 rfl (by kernel_rfl) (by kernel_rfl) (by kernel_rfl) (by kernel_rfl)
def ti13 : TI := ⟨.struct [(0, 9, 1), (1, 12, 1)], 2, 24, .agg [.str ByteArray.empty, .int .u64 (.lit 0)], some (.flat (.str) [.int .u64])⟩
theorem ti13_ok : TiOk Tryd.prog 13 ti13 := ti_mk (i := Tryd.t13) (z := .agg #[.string ByteArray.empty, .int .u64 0]) Tryd.underlying13 ⟨_, rfl, (by kernel_rfl), fun f hf => by
    simp only [List.mem_cons, List.not_mem_nil, or_false] at hf
    rcases hf with rfl | rfl
    · exact ⟨Tryd.t9, by kernel_rfl, by kernel_rfl, Nat.le_of_ble_eq_true (by kernel_rfl)⟩
    · exact ⟨Tryd.t12, by kernel_rfl, by kernel_rfl, Nat.le_of_ble_eq_true (by kernel_rfl)⟩⟩ (by kernel_rfl) (by kernel_rfl) (by kernel_rfl) (by kernel_rfl)
def ti19 : TI := ⟨.struct [(0, 17, 1)], 1, 8, .agg [.nilptr], none⟩
theorem ti19_ok : TiOk Tryd.prog 19 ti19 := ti_mk (i := Tryd.t19) (z := .agg #[.pointer none]) Tryd.underlying19 ⟨_, rfl, (by kernel_rfl), fun f hf => by
    simp only [List.mem_cons, List.not_mem_nil, or_false] at hf
    subst hf
    · exact ⟨Tryd.t17, by kernel_rfl, by kernel_rfl, Nat.le_of_ble_eq_true (by kernel_rfl)⟩⟩ (by kernel_rfl) (by kernel_rfl) (by kernel_rfl) (by kernel_rfl)
def ti20 : TI := ⟨.iface, 1, 16, .nilIface, none⟩
theorem ti20_ok : TiOk Tryd.prog 20 ti20 := ti_mk (i := Tryd.t20) (z := .nilIface) Tryd.underlying20 ⟨_, rfl⟩ (by kernel_rfl) (by kernel_rfl) (by kernel_rfl) (by kernel_rfl)
def ti21 : TI := ⟨.int .i32, 1, 4, .int .i32 (.lit 0), none⟩
theorem ti21_ok : TiOk Tryd.prog 21 ti21 := ti_mk (i := Tryd.t21) (z := .int .i32 0) Tryd.underlying21 rfl (by kernel_rfl) (by kernel_rfl) (by kernel_rfl) (by kernel_rfl)
def ti22 : TI := ⟨.slice 52, 1, 24, .nilslice, some (.slc (.obj))⟩
theorem ti22_ok : TiOk Tryd.prog 22 ti22 := ti_mk (i := Tryd.t22) (z := .slice none 0 0) Tryd.underlying22 rfl (by kernel_rfl) (by kernel_rfl) (by kernel_rfl) (by kernel_rfl)
def ti23 : TI := ⟨.func, 1, 8, .nilFunc, none⟩
theorem ti23_ok : TiOk Tryd.prog 23 ti23 := ti_mk (i := Tryd.t23) (z := .nilFunc) Tryd.underlying23 ⟨_, _, _, rfl⟩ (by kernel_rfl) (by kernel_rfl) (by kernel_rfl) (by kernel_rfl)
def ti24 : TI := ⟨.func, 1, 8, .nilFunc, none⟩
theorem ti24_ok : TiOk Tryd.prog 24 ti24 := ti_mk (i := Tryd.t24) (z := .nilFunc) Tryd.underlying24 ⟨_, _, _, rfl⟩ (by kernel_rfl) (by kernel_rfl) (by kernel_rfl) (by kernel_rfl)
def ti25 : TI := ⟨.int .u32, 1, 4, .int .u32 (.lit 0), some (.u32)⟩
theorem ti25_ok : TiOk Tryd.prog 25 ti25 := ti_mk (i := Tryd.t25) (z := .int .u32 0) Tryd.underlying25 rfl (by kernel_rfl) (by kernel_rfl) (by kernel_rfl) (by kernel_rfl)
def ti26 : TI := ⟨.slice 25, 1, 24, .nilslice, some (.slc (.u32))⟩
theorem ti26_ok : TiOk Tryd.prog 26 ti26 := ti_mk (i := Tryd.t26) (z := .slice none 0 0) Tryd.underlying26 rfl (by kernel_rfl) (by kernel_rfl) (by kernel_rfl) (by kernel_rfl)
def ti27 : TI := ⟨.slice 3, 1, 24, .nilslice, some (.slc (.i64))⟩
theorem ti27_ok : TiOk Tryd.prog 27 ti27 := ti_mk (i := Tryd.t27) (z := .slice none 0 0) Tryd.underlying27 rfl (by kernel_rfl) (by kernel_rfl) (by kernel_rfl) (by kernel_rfl)
def ti28 : TI := ⟨.struct [(0, 25, 1), (1, 26, 1), (2, 26, 1), (3, 27, 1), (4, 27, 1), (5, 27, 1)], 6, 128, .agg [.int .u32 (.lit 0), .nilslice, .nilslice, .nilslice, .nilslice, .nilslice], none⟩
theorem ti28_ok : TiOk Tryd.prog 28 ti28 := ti_mk (i := Tryd.t28) (z := .agg #[.int .u32 0, .slice none 0 0, .slice none 0 0, .slice none 0 0, .slice none 0 0, .slice none 0 0]) Tryd.underlying28 ⟨_, rfl, (by kernel_rfl), fun f hf => by
    simp only [List.mem_cons, List.not_mem_nil, or_false] at hf
    rcases hf with rfl | rfl | rfl | rfl | rfl | rfl
    · exact ⟨Tryd.t25, by kernel_rfl, by kernel_rfl, Nat.le_of_ble_eq_true (by kernel_rfl)⟩
    · exact ⟨Tryd.t26, by kernel_rfl, by kernel_rfl, Nat.le_of_ble_eq_true (by kernel_rfl)⟩
    · exact ⟨Tryd.t26, by kernel_rfl, by kernel_rfl, Nat.le_of_ble_eq_true (by kernel_rfl)⟩
    · exact ⟨Tryd.t27, by kernel_rfl, by kernel_rfl, Nat.le_of_ble_eq_true (by kernel_rfl)⟩
    · exact ⟨Tryd.t27, by kernel_rfl, by kernel_rfl, Nat.le_of_ble_eq_true (by kernel_rfl)⟩
    · exact ⟨Tryd.t27, by kernel_rfl, by kernel_rfl, Nat.le_of_ble_eq_true (by kernel_rfl)⟩⟩ (by kernel_rfl) (by kernel_rfl) (by kernel_rfl) (by kernel_rfl)
def ti29 : TI := ⟨.struct [(0, 25, 1), (1, 26, 1), (2, 26, 1), (3, 27, 1), (4, 27, 1), (5, 27, 1)], 6, 128, .agg [.int .u32 (.lit 0), .nilslice, .nilslice, .nilslice, .nilslice, .nilslice], none⟩
theorem ti29_ok : TiOk Tryd.prog 29 ti29 := ti_mk (i := Tryd.t29) (z := .agg #[.int .u32 0, .slice none 0 0, .slice none 0 0, .slice none 0 0, .slice none 0 0, .slice none 0 0]) Tryd.underlying29 ⟨_, rfl, (by kernel_rfl), fun f hf => by
    simp only [List.mem_cons, List.not_mem_nil, or_false] at hf
    rcases hf with rfl | rfl | rfl | rfl | rfl | rfl
    · exact ⟨Tryd.t25, by kernel_rfl, by kernel_rfl, Nat.le_of_ble_eq_true (by kernel_rfl)⟩
    · exact ⟨Tryd.t26, by kernel_rfl, by kernel_rfl, Nat.le_of_ble_eq_true (by kernel_rfl)⟩
    · exact ⟨Tryd.t26, by kernel_rfl, by kernel_rfl, Nat.le_of_ble_eq_true (by kernel_rfl)⟩
    · exact ⟨Tryd.t27, by kernel_rfl, by kernel_rfl, Nat.le_of_ble_eq_true (by kernel_rfl)⟩
    · exact ⟨Tryd.t27, by kernel_rfl, by kernel_rfl, Nat.le_of_ble_eq_true (by kernel_rfl)⟩
    · exact ⟨Tryd.t27, by kernel_rfl, by kernel_rfl, Nat.le_of_ble_eq_true (by kernel_rfl)⟩⟩ (by kernel_rfl) (by kernel_rfl) (by kernel_rfl) (by kernel_rfl)
def ti30 : TI := ⟨.iface, 1, 16, .nilIface, none⟩
theorem ti30_ok : TiOk Tryd.prog 30 ti30 := ti_mk (i := Tryd.t30) (z := .nilIface) Tryd.underlying30 ⟨_, rfl⟩ (by kernel_rfl) (by kernel_rfl) (by kernel_rfl) (by kernel_rfl)
def ti31 : TI := ⟨.iface, 1, 16, .nilIface, some (.err)⟩
theorem ti31_ok : TiOk Tryd.prog 31 ti31 := ti_mk (i := Tryd.t31) (z := .nilIface) Tryd.underlying31 ⟨_, rfl⟩ (by kernel_rfl) (by kernel_rfl) (by kernel_rfl) (by kernel_rfl)
def ti33 : TI := ⟨.func, 1, 8, .nilFunc, none⟩
theorem ti33_ok : TiOk Tryd.prog 33 ti33 := ti_mk (i := Tryd.t33) (z := .nilFunc) Tryd.underlying33 ⟨_, _, _, rfl⟩ (by kernel_rfl) (by kernel_rfl) (by kernel_rfl) (by kernel_rfl)
def ti34 : TI := ⟨.func, 1, 8, .nilFunc, none⟩
theorem ti34_ok : TiOk Tryd.prog 34 ti34 := ti_mk (i := Tryd.t34) (z := .nilFunc) Tryd.underlying34 ⟨_, _, _, rfl⟩ (by kernel_rfl) (by kernel_rfl) (by kernel_rfl) (by kernel_rfl)
def ti35 : TI := ⟨.struct [(0, 3, 1), (1, 3, 1), (2, 3, 1), (3, 3, 1), (4, 25, 1)], 5, 40, .agg [.int .i64 (.lit 0), .int .i64 (.lit 0), .int .i64 (.lit 0), .int .i64 (.lit 0), .int .u32 (.lit 0)], some (.flat (.int .i64) [.int .i64, .int .i64, .int .i64, .int .u32])⟩
theorem ti35_ok : TiOk Tryd.prog 35 ti35 := ti_mk (i := Tryd.t35) (z := .agg #[.int .i64 0, .int .i64 0, .int .i64 0, .int .i64 0, .int .u32 0]) Tryd.underlying35 ⟨_, rfl, (by kernel_rfl), fun f hf => by
    simp only [List.mem_cons, List.not_mem_nil, or_false] at hf
    rcases hf with rfl | rfl | rfl | rfl | rfl
    · exact ⟨Tryd.t3, by kernel_rfl, by kernel_rfl, Nat.le_of_ble_eq_true (by kernel_rfl)⟩
    · exact ⟨Tryd.t3, by kernel_rfl, by kernel_rfl, Nat.le_of_ble_eq_true (by kernel_rfl)⟩
    · exact ⟨Tryd.t3, by kernel_rfl, by kernel_rfl, Nat.le_of_ble_eq_true (by kernel_rfl)⟩
    · exact ⟨Tryd.t3, by kernel_rfl, by kernel_rfl, Nat.le_of_ble_eq_true (by kernel_rfl)⟩
    · exact ⟨Tryd.t25, by kernel_rfl, by kernel_rfl, Nat.le_of_ble_eq_true (by kernel_rfl)⟩⟩ (by kernel_rfl) (by kernel_rfl) (by kernel_rfl) (by kernel_rfl)
def ti36 : TI := ⟨.struct [(0, 3, 1), (1, 3, 1), (2, 3, 1), (3, 3, 1), (4, 25, 1)], 5, 40, .agg [.int .i64 (.lit 0), .int .i64 (.lit 0), .int .i64 (.lit 0), .int .i64 (.lit 0), .int .u32 (.lit 0)], some (.instr)⟩
theorem ti36_ok : TiOk Tryd.prog 36 ti36 := ti_mk (i := Tryd.t36) (z := .agg #[.int .i64 0, .int .i64 0, .int .i64 0, .int .i64 0, .int .u32 0]) Tryd.underlying36 ⟨_, rfl, (by kernel_rfl), fun f hf => by
    simp only [List.mem_cons, List.not_mem_nil, or_false] at hf
    rcases hf with rfl | rfl | rfl | rfl | rfl
    · exact ⟨Tryd.t3, by kernel_rfl, by kernel_rfl, Nat.le_of_ble_eq_true (by kernel_rfl)⟩
    · exact ⟨Tryd.t3, by kernel_rfl, by kernel_rfl, Nat.le_of_ble_eq_true (by kernel_rfl)⟩
    · exact ⟨Tryd.t3, by kernel_rfl, by kernel_rfl, Nat.le_of_ble_eq_true (by kernel_rfl)⟩
    · exact ⟨Tryd.t3, by kernel_rfl, by kernel_rfl, Nat.le_of_ble_eq_true (by kernel_rfl)⟩
    · exact ⟨Tryd.t25, by kernel_rfl, by kernel_rfl, Nat.le_of_ble_eq_true (by kernel_rfl)⟩⟩ (by kernel_rfl) (by kernel_rfl) (by kernel_rfl) (by kernel_rfl)
def ti38 : TI := ⟨.func, 1, 8, .nilFunc, none⟩
theorem ti38_ok : TiOk Tryd.prog 38 ti38 := ti_mk (i := Tryd.t38) (z := .nilFunc) Tryd.underlying38 ⟨_, _, _, rfl⟩ (by kernel_rfl) (by kernel_rfl) (by kernel_rfl) (by kernel_rfl)
def ti39 : TI := ⟨.func, 1, 8, .nilFunc, none⟩
theorem ti39_ok : TiOk Tryd.prog 39 ti39 := ti_mk (i := Tryd.t39) (z := .nilFunc) Tryd.underlying39 ⟨_, _, _, rfl⟩ (by kernel_rfl) (by kernel_rfl) (by kernel_rfl) (by kernel_rfl)
def ti40 : TI := ⟨.func, 1, 8, .nilFunc, none⟩
theorem ti40_ok : TiOk Tryd.prog 40 ti40 := ti_mk (i := Tryd.t40) (z := .nilFunc) Tryd.underlying40 ⟨_, _, _, rfl⟩ (by kernel_rfl) (by kernel_rfl) (by kernel_rfl) (by kernel_rfl)
def ti41 : TI := ⟨.func, 1, 8, .nilFunc, none⟩
theorem ti41_ok : TiOk Tryd.prog 41 ti41 := ti_mk (i := Tryd.t41) (z := .nilFunc) Tryd.underlying41 ⟨_, _, _, rfl⟩ (by kernel_rfl) (by kernel_rfl) (by kernel_rfl) (by kernel_rfl)
def ti42 : TI := ⟨.struct [(0, 36, 5), (5, 9, 1), (6, 9, 1), (7, 4, 1)], 8, 80, .agg [.int .i64 (.lit 0), .int .i64 (.lit 0), .int .i64 (.lit 0), .int .i64 (.lit 0), .int .u32 (.lit 0), .str ByteArray.empty, .str ByteArray.empty, .bool (.lit false)], none⟩
theorem ti42_ok : TiOk Tryd.prog 42 ti42 := ti_mk (i := Tryd.t42) (z := .agg #[.int .i64 0, .int .i64 0, .int .i64 0, .int .i64 0, .int .u32 0, .string ByteArray.empty, .string ByteArray.empty, .bool false]) Tryd.underlying42 ⟨_, rfl, (by kernel_rfl), fun f hf => by
    simp only [List.mem_cons, List.not_mem_nil, or_false] at hf
    rcases hf with rfl | rfl | rfl | rfl
    · exact ⟨Tryd.t36, by kernel_rfl, by kernel_rfl, Nat.le_of_ble_eq_true (by kernel_rfl)⟩
    · exact ⟨Tryd.t9, by kernel_rfl, by kernel_rfl, Nat.le_of_ble_eq_true (by kernel_rfl)⟩
    · exact ⟨Tryd.t9, by kernel_rfl, by kernel_rfl, Nat.le_of_ble_eq_true (by kernel_rfl)⟩
    · exact ⟨Tryd.t4, by kernel_rfl, by kernel_rfl, Nat.le_of_ble_eq_true (by kernel_rfl)⟩⟩ (by kernel_rfl) (by kernel_rfl) (by kernel_rfl) (by kernel_rfl)
def ti43 : TI := ⟨.struct [(0, 36, 5), (5, 9, 1), (6, 9, 1), (7, 4, 1)], 8, 80, .agg [.int .i64 (.lit 0), .int .i64 (.lit 0), .int .i64 (.lit 0), .int .i64 (.lit 0), .int .u32 (.lit 0), .str ByteArray.empty, .str ByteArray.empty, .bool (.lit false)], some (.line)⟩
theorem ti43_ok : TiOk Tryd.prog 43 ti43 := ti_mk (i := Tryd.t43) (z := .agg #[.int .i64 0, .int .i64 0, .int .i64 0, .int .i64 0, .int .u32 0, .string ByteArray.empty, .string ByteArray.empty, .bool false]) Tryd.underlying43 ⟨_, rfl, (by kernel_rfl), fun f hf => by
    simp only [List.mem_cons, List.not_mem_nil, or_false] at hf
    rcases hf with rfl | rfl | rfl | rfl
    · exact ⟨Tryd.t36, by kernel_rfl, by kernel_rfl, Nat.le_of_ble_eq_true (by kernel_rfl)⟩
    · exact ⟨Tryd.t9, by kernel_rfl, by kernel_rfl, Nat.le_of_ble_eq_true (by kernel_rfl)⟩
    · exact ⟨Tryd.t9, by kernel_rfl, by kernel_rfl, Nat.le_of_ble_eq_true (by kernel_rfl)⟩
    · exact ⟨Tryd.t4, by kernel_rfl, by kernel_rfl, Nat.le_of_ble_eq_true (by kernel_rfl)⟩⟩ (by kernel_rfl) (by kernel_rfl) (by kernel_rfl) (by kernel_rfl)
def ti44 : TI := ⟨.func, 1, 8, .nilFunc, none⟩
theorem ti44_ok : TiOk Tryd.prog 44 ti44 := ti_mk (i := Tryd.t44) (z := .nilFunc) Tryd.underlying44 ⟨_, _, _, rfl⟩ (by kernel_rfl) (by kernel_rfl) (by kernel_rfl) (by kernel_rfl)
def ti45 : TI := ⟨.func, 1, 8, .nilFunc, none⟩
theorem ti45_ok : TiOk Tryd.prog 45 ti45 := ti_mk (i := Tryd.t45) (z := .nilFunc) Tryd.underlying45 ⟨_, _, _, rfl⟩ (by kernel_rfl) (by kernel_rfl) (by kernel_rfl) (by kernel_rfl)
def ti46 : TI := ⟨.slice 43, 1, 24, .nilslice, some (.slc (.line))⟩
theorem ti46_ok : TiOk Tryd.prog 46 ti46 := ti_mk (i := Tryd.t46) (z := .slice none 0 0) Tryd.underlying46 rfl (by kernel_rfl) (by kernel_rfl) (by kernel_rfl) (by kernel_rfl)
def ti47 : TI := ⟨.func, 1, 8, .nilFunc, none⟩
theorem ti47_ok : TiOk Tryd.prog 47 ti47 := ti_mk (i := Tryd.t47) (z := .nilFunc) Tryd.underlying47 ⟨_, _, _, rfl⟩ (by kernel_rfl) (by kernel_rfl) (by kernel_rfl) (by kernel_rfl)
def ti48 : TI := ⟨.slice 5, 1, 24, .nilslice, some (.slc (.u8))⟩
theorem ti48_ok : TiOk Tryd.prog 48 ti48 := ti_mk (i := Tryd.t48) (z := .slice none 0 0) Tryd.underlying48 rfl (by kernel_rfl) (by kernel_rfl) (by kernel_rfl) (by kernel_rfl)
def ti49 : TI := ⟨.slice 69, 1, 24, .nilslice, some (.slc (.rel))⟩
theorem ti49_ok : TiOk Tryd.prog 49 ti49 := ti_mk (i := Tryd.t49) (z := .slice none 0 0) Tryd.underlying49 rfl (by kernel_rfl) (by kernel_rfl) (by kernel_rfl) (by kernel_rfl)
def ti50 : TI := ⟨.slice 67, 1, 24, .nilslice, some (.slc (.sym))⟩
theorem ti50_ok : TiOk Tryd.prog 50 ti50 := ti_mk (i := Tryd.t50) (z := .slice none 0 0) Tryd.underlying50 rfl (by kernel_rfl) (by kernel_rfl) (by kernel_rfl) (by kernel_rfl)
def ti51 : TI := ⟨.struct [(0, 26, 1), (1, 26, 1), (2, 48, 1), (3, 49, 1), (4, 49, 1), (5, 50, 1)], 6, 144, .agg [.nilslice, .nilslice, .nilslice, .nilslice, .nilslice, .nilslice], none⟩
theorem ti51_ok : TiOk Tryd.prog 51 ti51 := ti_mk (i := Tryd.t51) (z := .agg #[.slice none 0 0, .slice none 0 0, .slice none 0 0, .slice none 0 0, .slice none 0 0, .slice none 0 0]) Tryd.underlying51 ⟨_, rfl, (by kernel_rfl), fun f hf => by
    simp only [List.mem_cons, List.not_mem_nil, or_false] at hf
    rcases hf with rfl | rfl | rfl | rfl | rfl | rfl
    · exact ⟨Tryd.t26, by kernel_rfl, by kernel_rfl, Nat.le_of_ble_eq_true (by kernel_rfl)⟩
    · exact ⟨Tryd.t26, by kernel_rfl, by kernel_rfl, Nat.le_of_ble_eq_true (by kernel_rfl)⟩
    · exact ⟨Tryd.t48, by kernel_rfl, by kernel_rfl, Nat.le_of_ble_eq_true (by kernel_rfl)⟩
    · exact ⟨Tryd.t49, by kernel_rfl, by kernel_rfl, Nat.le_of_ble_eq_true (by kernel_rfl)⟩
    · exact ⟨Tryd.t49, by kernel_rfl, by kernel_rfl, Nat.le_of_ble_eq_true (by kernel_rfl)⟩
    · exact ⟨Tryd.t50, by kernel_rfl, by kernel_rfl, Nat.le_of_ble_eq_true (by kernel_rfl)⟩⟩ (by kernel_rfl) (by kernel_rfl) (by kernel_rfl) (by kernel_rfl)
def ti52 : TI := ⟨.struct [(0, 26, 1), (1, 26, 1), (2, 48, 1), (3, 49, 1), (4, 49, 1), (5, 50, 1)], 6, 144, .agg [.nilslice, .nilslice, .nilslice, .nilslice, .nilslice, .nilslice], some (.obj)⟩
theorem ti52_ok : TiOk Tryd.prog 52 ti52 := ti_mk (i := Tryd.t52) (z := .agg #[.slice none 0 0, .slice none 0 0, .slice none 0 0, .slice none 0 0, .slice none 0 0, .slice none 0 0]) Tryd.underlying52 ⟨_, rfl, (by kernel_rfl), fun f hf => by
    simp only [List.mem_cons, List.not_mem_nil, or_false] at hf
    rcases hf with rfl | rfl | rfl | rfl | rfl | rfl
    · exact ⟨Tryd.t26, by kernel_rfl, by kernel_rfl, Nat.le_of_ble_eq_true (by kernel_rfl)⟩
    · exact ⟨Tryd.t26, by kernel_rfl, by kernel_rfl, Nat.le_of_ble_eq_true (by kernel_rfl)⟩
    · exact ⟨Tryd.t48, by kernel_rfl, by kernel_rfl, Nat.le_of_ble_eq_true (by kernel_rfl)⟩
    · exact ⟨Tryd.t49, by kernel_rfl, by kernel_rfl, Nat.le_of_ble_eq_true (by kernel_rfl)⟩
    · exact ⟨Tryd.t49, by kernel_rfl, by kernel_rfl, Nat.le_of_ble_eq_true (by kernel_rfl)⟩
    · exact ⟨Tryd.t50, by kernel_rfl, by kernel_rfl, Nat.le_of_ble_eq_true (by kernel_rfl)⟩⟩ (by kernel_rfl) (by kernel_rfl) (by kernel_rfl) (by kernel_rfl)
def ti53 : TI := ⟨.func, 1, 8, .nilFunc, none⟩
theorem ti53_ok : TiOk Tryd.prog 53 ti53 := ti_mk (i := Tryd.t53) (z := .nilFunc) Tryd.underlying53 ⟨_, _, _, rfl⟩ (by kernel_rfl) (by kernel_rfl) (by kernel_rfl) (by kernel_rfl)
def ti54 : TI := ⟨.func, 1, 8, .nilFunc, none⟩
theorem ti54_ok : TiOk Tryd.prog 54 ti54 := ti_mk (i := Tryd.t54) (z := .nilFunc) Tryd.underlying54 ⟨_, _, _, rfl⟩ (by kernel_rfl) (by kernel_rfl) (by kernel_rfl) (by kernel_rfl)
def ti55 : TI := ⟨.func, 1, 8, .nilFunc, none⟩
theorem ti55_ok : TiOk Tryd.prog 55 ti55 := ti_mk (i := Tryd.t55) (z := .nilFunc) Tryd.underlying55 ⟨_, _, _, rfl⟩ (by kernel_rfl) (by kernel_rfl) (by kernel_rfl) (by kernel_rfl)
def ti57 : TI := ⟨.func, 1, 8, .nilFunc, none⟩
theorem ti57_ok : TiOk Tryd.prog 57 ti57 := ti_mk (i := Tryd.t57) (z := .nilFunc) Tryd.underlying57 ⟨_, _, _, rfl⟩ (by kernel_rfl) (by kernel_rfl) (by kernel_rfl) (by kernel_rfl)
def ti58 : TI := ⟨.int .u64, 1, 8, .int .u64 (.lit 0), none⟩
theorem ti58_ok : TiOk Tryd.prog 58 ti58 := ti_mk (i := Tryd.t58) (z := .int .u64 0) Tryd.underlying58 rfl (by kernel_rfl) (by kernel_rfl) (by kernel_rfl) (by kernel_rfl)
def ti59 : TI := ⟨.func, 1, 8, .nilFunc, none⟩
theorem ti59_ok : TiOk Tryd.prog 59 ti59 := ti_mk (i := Tryd.t59) (z := .nilFunc) Tryd.underlying59 ⟨_, _, _, rfl⟩ (by kernel_rfl) (by kernel_rfl) (by kernel_rfl) (by kernel_rfl)
def ti60 : TI := ⟨.func, 1, 8, .nilFunc, none⟩
theorem ti60_ok : TiOk Tryd.prog 60 ti60 := ti_mk (i := Tryd.t60) (z := .nilFunc) Tryd.underlying60 ⟨_, _, _, rfl⟩ (by kernel_rfl) (by kernel_rfl) (by kernel_rfl) (by kernel_rfl)
def ti61 : TI := ⟨.slice 9, 1, 24, .nilslice, some (.slc (.str))⟩
theorem ti61_ok : TiOk Tryd.prog 61 ti61 := ti_mk (i := Tryd.t61) (z := .slice none 0 0) Tryd.underlying61 rfl (by kernel_rfl) (by kernel_rfl) (by kernel_rfl) (by kernel_rfl)
def ti62 : TI := ⟨.func, 1, 8, .nilFunc, none⟩
theorem ti62_ok : TiOk Tryd.prog 62 ti62 := ti_mk (i := Tryd.t62) (z := .nilFunc) Tryd.underlying62 ⟨_, _, _, rfl⟩ (by kernel_rfl) (by kernel_rfl) (by kernel_rfl) (by kernel_rfl)
def ti64 : TI := ⟨.func, 1, 8, .nilFunc, none⟩
theorem ti64_ok : TiOk Tryd.prog 64 ti64 := ti_mk (i := Tryd.t64) (z := .nilFunc) Tryd.underlying64 ⟨_, _, _, rfl⟩ (by kernel_rfl) (by kernel_rfl) (by kernel_rfl) (by kernel_rfl)
def ti65 : TI := ⟨.func, 1, 8, .nilFunc, none⟩
theorem ti65_ok : TiOk Tryd.prog 65 ti65 := ti_mk (i := Tryd.t65) (z := .nilFunc) Tryd.underlying65 ⟨_, _, _, rfl⟩ (by kernel_rfl) (by kernel_rfl) (by kernel_rfl) (by kernel_rfl)
def ti66 : TI := ⟨.struct [(0, 9, 1), (1, 3, 1), (2, 3, 1), (3, 4, 1)], 4, 40, .agg [.str ByteArray.empty, .int .i64 (.lit 0), .int .i64 (.lit 0), .bool (.lit false)], some (.flat (.str) [.int .i64, .int .i64, .bool])⟩
theorem ti66_ok : TiOk Tryd.prog 66 ti66 := ti_mk (i := Tryd.t66) (z := .agg #[.string ByteArray.empty, .int .i64 0, .int .i64 0, .bool false]) Tryd.underlying66 ⟨_, rfl, (by kernel_rfl), fun f hf => by
    simp only [List.mem_cons, List.not_mem_nil, or_false] at hf
    rcases hf with rfl | rfl | rfl | rfl
    · exact ⟨Tryd.t9, by kernel_rfl, by kernel_rfl, Nat.le_of_ble_eq_true (by kernel_rfl)⟩
    · exact ⟨Tryd.t3, by kernel_rfl, by kernel_rfl, Nat.le_of_ble_eq_true (by kernel_rfl)⟩
    · exact ⟨Tryd.t3, by kernel_rfl, by kernel_rfl, Nat.le_of_ble_eq_true (by kernel_rfl)⟩
    · exact ⟨Tryd.t4, by kernel_rfl, by kernel_rfl, Nat.le_of_ble_eq_true (by kernel_rfl)⟩⟩ (by kernel_rfl) (by kernel_rfl) (by kernel_rfl) (by kernel_rfl)
def ti67 : TI := ⟨.struct [(0, 9, 1), (1, 3, 1), (2, 3, 1), (3, 4, 1)], 4, 40, .agg [.str ByteArray.empty, .int .i64 (.lit 0), .int .i64 (.lit 0), .bool (.lit false)], some (.sym)⟩
theorem ti67_ok : TiOk Tryd.prog 67 ti67 := ti_mk (i := Tryd.t67) (z := .agg #[.string ByteArray.empty, .int .i64 0, .int .i64 0, .bool false]) Tryd.underlying67 ⟨_, rfl, (by kernel_rfl), fun f hf => by
    simp only [List.mem_cons, List.not_mem_nil, or_false] at hf
    rcases hf with rfl | rfl | rfl | rfl
    · exact ⟨Tryd.t9, by kernel_rfl, by kernel_rfl, Nat.le_of_ble_eq_true (by kernel_rfl)⟩
    · exact ⟨Tryd.t3, by kernel_rfl, by kernel_rfl, Nat.le_of_ble_eq_true (by kernel_rfl)⟩
    · exact ⟨Tryd.t3, by kernel_rfl, by kernel_rfl, Nat.le_of_ble_eq_true (by kernel_rfl)⟩
    · exact ⟨Tryd.t4, by kernel_rfl, by kernel_rfl, Nat.le_of_ble_eq_true (by kernel_rfl)⟩⟩ (by kernel_rfl) (by kernel_rfl) (by kernel_rfl) (by kernel_rfl)
def ti68 : TI := ⟨.struct [(0, 3, 1), (1, 3, 1), (2, 3, 1), (3, 3, 1)], 4, 32, .agg [.int .i64 (.lit 0), .int .i64 (.lit 0), .int .i64 (.lit 0), .int .i64 (.lit 0)], some (.flat (.int .i64) [.int .i64, .int .i64, .int .i64])⟩
theorem ti68_ok : TiOk Tryd.prog 68 ti68 := ti_mk (i := Tryd.t68) (z := .agg #[.int .i64 0, .int .i64 0, .int .i64 0, .int .i64 0]) Tryd.underlying68 ⟨_, rfl, (by kernel_rfl), fun f hf => by
    simp only [List.mem_cons, List.not_mem_nil, or_false] at hf
    rcases hf with rfl | rfl | rfl | rfl
    · exact ⟨Tryd.t3, by kernel_rfl, by kernel_rfl, Nat.le_of_ble_eq_true (by kernel_rfl)⟩
    · exact ⟨Tryd.t3, by kernel_rfl, by kernel_rfl, Nat.le_of_ble_eq_true (by kernel_rfl)⟩
    · exact ⟨Tryd.t3, by kernel_rfl, by kernel_rfl, Nat.le_of_ble_eq_true (by kernel_rfl)⟩
    · exact ⟨Tryd.t3, by kernel_rfl, by kernel_rfl, Nat.le_of_ble_eq_true (by kernel_rfl)⟩⟩ (by kernel_rfl) (by kernel_rfl) (by kernel_rfl) (by kernel_rfl)
def ti69 : TI := ⟨.struct [(0, 3, 1), (1, 3, 1), (2, 3, 1), (3, 3, 1)], 4, 32, .agg [.int .i64 (.lit 0), .int .i64 (.lit 0), .int .i64 (.lit 0), .int .i64 (.lit 0)], some (.rel)⟩
theorem ti69_ok : TiOk Tryd.prog 69 ti69 := ti_mk (i := Tryd.t69) (z := .agg #[.int .i64 0, .int .i64 0, .int .i64 0, .int .i64 0]) Tryd.underlying69 ⟨_, rfl, (by kernel_rfl), fun f hf => by
    simp only [List.mem_cons, List.not_mem_nil, or_false] at hf
    rcases hf with rfl | rfl | rfl | rfl
    · exact ⟨Tryd.t3, by kernel_rfl, by kernel_rfl, Nat.le_of_ble_eq_true (by kernel_rfl)⟩
    · exact ⟨Tryd.t3, by kernel_rfl, by kernel_rfl, Nat.le_of_ble_eq_true (by kernel_rfl)⟩
    · exact ⟨Tryd.t3, by kernel_rfl, by kernel_rfl, Nat.le_of_ble_eq_true (by kernel_rfl)⟩
    · exact ⟨Tryd.t3, by kernel_rfl, by kernel_rfl, Nat.le_of_ble_eq_true (by kernel_rfl)⟩⟩ (by kernel_rfl) (by kernel_rfl) (by kernel_rfl) (by kernel_rfl)
def ti70 : TI := ⟨.func, 1, 8, .nilFunc, none⟩
theorem ti70_ok : TiOk Tryd.prog 70 ti70 := ti_mk (i := Tryd.t70) (z := .nilFunc) Tryd.underlying70 ⟨_, _, _, rfl⟩ (by kernel_rfl) (by kernel_rfl) (by kernel_rfl) (by kernel_rfl)
def ti71 : TI := ⟨.func, 1, 8, .nilFunc, none⟩
theorem ti71_ok : TiOk Tryd.prog 71 ti71 := ti_mk (i := Tryd.t71) (z := .nilFunc) Tryd.underlying71 ⟨_, _, _, rfl⟩ (by kernel_rfl) (by kernel_rfl) (by kernel_rfl) (by kernel_rfl)
def ti72 : TI := ⟨.ptr 91, 1, 8, .nilptr, none⟩
theorem ti72_ok : TiOk Tryd.prog 72 ti72 := ti_mk (i := Tryd.t72) (z := .pointer none) Tryd.underlying72 rfl (by kernel_rfl) (by kernel_rfl) (by kernel_rfl) (by kernel_rfl)
def ti74 : TI := ⟨.func, 1, 8, .nilFunc, none⟩
theorem ti74_ok : TiOk Tryd.prog 74 ti74 := ti_mk (i := Tryd.t74) (z := .nilFunc) Tryd.underlying74 ⟨_, _, _, rfl⟩ (by kernel_rfl) (by kernel_rfl) (by kernel_rfl) (by kernel_rfl)
def ti75 : TI := ⟨.func, 1, 8, .nilFunc, none⟩
theorem ti75_ok : TiOk Tryd.prog 75 ti75 := ti_mk (i := Tryd.t75) (z := .nilFunc) Tryd.underlying75 ⟨_, _, _, rfl⟩ (by kernel_rfl) (by kernel_rfl) (by kernel_rfl) (by kernel_rfl)
def ti77 : TI := ⟨.func, 1, 8, .nilFunc, none⟩
theorem ti77_ok : TiOk Tryd.prog 77 ti77 := ti_mk (i := Tryd.t77) (z := .nilFunc) Tryd.underlying77 ⟨_, _, _, rfl⟩ (by kernel_rfl) (by kernel_rfl) (by kernel_rfl) (by kernel_rfl)
def ti78 : TI := ⟨.func, 1, 8, .nilFunc, none⟩
theorem ti78_ok : TiOk Tryd.prog 78 ti78 := ti_mk (i := Tryd.t78) (z := .nilFunc) Tryd.underlying78 ⟨_, _, _, rfl⟩ (by kernel_rfl) (by kernel_rfl) (by kernel_rfl) (by kernel_rfl)
def ti79 : TI := ⟨.func, 1, 8, .nilFunc, none⟩
theorem ti79_ok : TiOk Tryd.prog 79 ti79 := ti_mk (i := Tryd.t79) (z := .nilFunc) Tryd.underlying79 ⟨_, _, _, rfl⟩ (by kernel_rfl) (by kernel_rfl) (by kernel_rfl) (by kernel_rfl)
def ti80 : TI := ⟨.ptr 52, 1, 8, .nilptr, none⟩
theorem ti80_ok : TiOk Tryd.prog 80 ti80 := ti_mk (i := Tryd.t80) (z := .pointer none) Tryd.underlying80 rfl (by kernel_rfl) (by kernel_rfl) (by kernel_rfl) (by kernel_rfl)
def ti81 : TI := ⟨.slice 27, 1, 24, .nilslice, some (.slc (.slc (.i64)))⟩
theorem ti81_ok : TiOk Tryd.prog 81 ti81 := ti_mk (i := Tryd.t81) (z := .slice none 0 0) Tryd.underlying81 rfl (by kernel_rfl) (by kernel_rfl) (by kernel_rfl) (by kernel_rfl)
def ti83 : TI := ⟨.func, 1, 8, .nilFunc, none⟩
theorem ti83_ok : TiOk Tryd.prog 83 ti83 := ti_mk (i := Tryd.t83) (z := .nilFunc) Tryd.underlying83 ⟨_, _, _, rfl⟩ (by kernel_rfl) (by kernel_rfl) (by kernel_rfl) (by kernel_rfl)
def ti84 : TI := ⟨.func, 1, 8, .nilFunc, none⟩
theorem ti84_ok : TiOk Tryd.prog 84 ti84 := ti_mk (i := Tryd.t84) (z := .nilFunc) Tryd.underlying84 ⟨_, _, _, rfl⟩ (by kernel_rfl) (by kernel_rfl) (by kernel_rfl) (by kernel_rfl)
def ti85 : TI := ⟨.map 9 94, 1, 8, .nilmap, some (.fmap (.str) (.flat (.int .i64) [.int .i64]))⟩
theorem ti85_ok : TiOk Tryd.prog 85 ti85 := ti_mk (i := Tryd.t85) (z := .map none) Tryd.underlying85 rfl (by kernel_rfl) (by kernel_rfl) (by kernel_rfl) (by kernel_rfl)
def ti86 : TI := ⟨.slice 117, 1, 24, .nilslice, some (.slc (.flat (.int .i64) [.int .i64, .bool]))⟩
theorem ti86_ok : TiOk Tryd.prog 86 ti86 := ti_mk (i := Tryd.t86) (z := .slice none 0 0) Tryd.underlying86 rfl (by kernel_rfl) (by kernel_rfl) (by kernel_rfl) (by kernel_rfl)
def ti87 : TI := ⟨.slice 94, 1, 24, .nilslice, some (.slc (.flat (.int .i64) [.int .i64]))⟩
theorem ti87_ok : TiOk Tryd.prog 87 ti87 := ti_mk (i := Tryd.t87) (z := .slice none 0 0) Tryd.underlying87 rfl (by kernel_rfl) (by kernel_rfl) (by kernel_rfl) (by kernel_rfl)
def ti88 : TI := ⟨.slice 92, 1, 24, .nilslice, some (.slc (.fmap (.int .i64) (.i64)))⟩
theorem ti88_ok : TiOk Tryd.prog 88 ti88 := ti_mk (i := Tryd.t88) (z := .slice none 0 0) Tryd.underlying88 rfl (by kernel_rfl) (by kernel_rfl) (by kernel_rfl) (by kernel_rfl)
def ti89 : TI := ⟨.slice 4, 1, 24, .nilslice, some (.slc (.bool))⟩
theorem ti89_ok : TiOk Tryd.prog 89 ti89 := ti_mk (i := Tryd.t89) (z := .slice none 0 0) Tryd.underlying89 rfl (by kernel_rfl) (by kernel_rfl) (by kernel_rfl) (by kernel_rfl)
def ti90 : TI := ⟨.struct [(0, 22, 1), (1, 85, 1), (2, 27, 1), (3, 86, 1), (4, 87, 1), (5, 88, 1), (6, 27, 1), (7, 89, 1)], 8, 176, .agg [.nilslice, .nilmap, .nilslice, .nilslice, .nilslice, .nilslice, .nilslice, .nilslice], none⟩
theorem ti90_ok : TiOk Tryd.prog 90 ti90 := ti_mk (i := Tryd.t90) (z := .agg #[.slice none 0 0, .map none, .slice none 0 0, .slice none 0 0, .slice none 0 0, .slice none 0 0, .slice none 0 0, .slice none 0 0]) Tryd.underlying90 ⟨_, rfl, (by kernel_rfl), fun f hf => by
    simp only [List.mem_cons, List.not_mem_nil, or_false] at hf
    rcases hf with rfl | rfl | rfl | rfl | rfl | rfl | rfl | rfl
    · exact ⟨Tryd.t22, by kernel_rfl, by kernel_rfl, Nat.le_of_ble_eq_true (by kernel_rfl)⟩
    · exact ⟨Tryd.t85, by kernel_rfl, by kernel_rfl, Nat.le_of_ble_eq_true (by kernel_rfl)⟩
    · exact ⟨Tryd.t27, by kernel_rfl, by kernel_rfl, Nat.le_of_ble_eq_true (by kernel_rfl)⟩
    · exact ⟨Tryd.t86, by kernel_rfl, by kernel_rfl, Nat.le_of_ble_eq_true (by kernel_rfl)⟩
    · exact ⟨Tryd.t87, by kernel_rfl, by kernel_rfl, Nat.le_of_ble_eq_true (by kernel_rfl)⟩
    · exact ⟨Tryd.t88, by kernel_rfl, by kernel_rfl, Nat.le_of_ble_eq_true (by kernel_rfl)⟩
    · exact ⟨Tryd.t27, by kernel_rfl, by kernel_rfl, Nat.le_of_ble_eq_true (by kernel_rfl)⟩
    · exact ⟨Tryd.t89, by kernel_rfl, by kernel_rfl, Nat.le_of_ble_eq_true (by kernel_rfl)⟩⟩ (by kernel_rfl) (by kernel_rfl) (by kernel_rfl) (by kernel_rfl)
def ti91 : TI := ⟨.struct [(0, 22, 1), (1, 85, 1), (2, 27, 1), (3, 86, 1), (4, 87, 1), (5, 88, 1), (6, 27, 1), (7, 89, 1)], 8, 176, .agg [.nilslice, .nilmap, .nilslice, .nilslice, .nilslice, .nilslice, .nilslice, .nilslice], none⟩
theorem ti91_ok : TiOk Tryd.prog 91 ti91 := ti_mk (i := Tryd.t91) (z := .agg #[.slice none 0 0, .map none, .slice none 0 0, .slice none 0 0, .slice none 0 0, .slice none 0 0, .slice none 0 0, .slice none 0 0]) Tryd.underlying91 ⟨_, rfl, (by kernel_rfl), fun f hf => by
    simp only [List.mem_cons, List.not_mem_nil, or_false] at hf
    rcases hf with rfl | rfl | rfl | rfl | rfl | rfl | rfl | rfl
    · exact ⟨Tryd.t22, by kernel_rfl, by kernel_rfl, Nat.le_of_ble_eq_true (by kernel_rfl)⟩
    · exact ⟨Tryd.t85, by kernel_rfl, by kernel_rfl, Nat.le_of_ble_eq_true (by kernel_rfl)⟩
    · exact ⟨Tryd.t27, by kernel_rfl, by kernel_rfl, Nat.le_of_ble_eq_true (by kernel_rfl)⟩
    · exact ⟨Tryd.t86, by kernel_rfl, by kernel_rfl, Nat.le_of_ble_eq_true (by kernel_rfl)⟩
    · exact ⟨Tryd.t87, by kernel_rfl, by kernel_rfl, Nat.le_of_ble_eq_true (by kernel_rfl)⟩
    · exact ⟨Tryd.t88, by kernel_rfl, by kernel_rfl, Nat.le_of_ble_eq_true (by kernel_rfl)⟩
    · exact ⟨Tryd.t27, by kernel_rfl, by kernel_rfl, Nat.le_of_ble_eq_true (by kernel_rfl)⟩
    · exact ⟨Tryd.t89, by kernel_rfl, by kernel_rfl, Nat.le_of_ble_eq_true (by kernel_rfl)⟩⟩ (by kernel_rfl) (by kernel_rfl) (by kernel_rfl) (by kernel_rfl)
def ti92 : TI := ⟨.map 3 3, 1, 8, .nilmap, some (.fmap (.int .i64) (.i64))⟩
theorem ti92_ok : TiOk Tryd.prog 92 ti92 := ti_mk (i := Tryd.t92) (z := .map none) Tryd.underlying92 rfl (by kernel_rfl) (by kernel_rfl) (by kernel_rfl) (by kernel_rfl)
def ti93 : TI := ⟨.struct [(0, 3, 1), (1, 3, 1)], 2, 16, .agg [.int .i64 (.lit 0), .int .i64 (.lit 0)], some (.flat (.int .i64) [.int .i64])⟩
theorem ti93_ok : TiOk Tryd.prog 93 ti93 := ti_mk (i := Tryd.t93) (z := .agg #[.int .i64 0, .int .i64 0]) Tryd.underlying93 ⟨_, rfl, (by kernel_rfl), fun f hf => by
    simp only [List.mem_cons, List.not_mem_nil, or_false] at hf
    rcases hf with rfl | rfl
    · exact ⟨Tryd.t3, by kernel_rfl, by kernel_rfl, Nat.le_of_ble_eq_true (by kernel_rfl)⟩
    · exact ⟨Tryd.t3, by kernel_rfl, by kernel_rfl, Nat.le_of_ble_eq_true (by kernel_rfl)⟩⟩ (by kernel_rfl) (by kernel_rfl) (by kernel_rfl) (by kernel_rfl)
def ti94 : TI := ⟨.struct [(0, 3, 1), (1, 3, 1)], 2, 16, .agg [.int .i64 (.lit 0), .int .i64 (.lit 0)], some (.flat (.int .i64) [.int .i64])⟩
theorem ti94_ok : TiOk Tryd.prog 94 ti94 := ti_mk (i := Tryd.t94) (z := .agg #[.int .i64 0, .int .i64 0]) Tryd.underlying94 ⟨_, rfl, (by kernel_rfl), fun f hf => by
    simp only [List.mem_cons, List.not_mem_nil, or_false] at hf
    rcases hf with rfl | rfl
    · exact ⟨Tryd.t3, by kernel_rfl, by kernel_rfl, Nat.le_of_ble_eq_true (by kernel_rfl)⟩
    · exact ⟨Tryd.t3, by kernel_rfl, by kernel_rfl, Nat.le_of_ble_eq_true (by kernel_rfl)⟩⟩ (by kernel_rfl) (by kernel_rfl) (by kernel_rfl) (by kernel_rfl)
def ti96 : TI := ⟨.func, 1, 8, .nilFunc, none⟩
theorem ti96_ok : TiOk Tryd.prog 96 ti96 := ti_mk (i := Tryd.t96) (z := .nilFunc) Tryd.underlying96 ⟨_, _, _, rfl⟩ (by kernel_rfl) (by kernel_rfl) (by kernel_rfl) (by kernel_rfl)
def ti97 : TI := ⟨.func, 1, 8, .nilFunc, none⟩
theorem ti97_ok : TiOk Tryd.prog 97 ti97 := ti_mk (i := Tryd.t97) (z := .nilFunc) Tryd.underlying97 ⟨_, _, _, rfl⟩ (by kernel_rfl) (by kernel_rfl) (by kernel_rfl) (by kernel_rfl)
def ti98 : TI := ⟨.func, 1, 8, .nilFunc, none⟩
theorem ti98_ok : TiOk Tryd.prog 98 ti98 := ti_mk (i := Tryd.t98) (z := .nilFunc) Tryd.underlying98 ⟨_, _, _, rfl⟩ (by kernel_rfl) (by kernel_rfl) (by kernel_rfl) (by kernel_rfl)
def ti99 : TI := ⟨.func, 1, 8, .nilFunc, none⟩
theorem ti99_ok : TiOk Tryd.prog 99 ti99 := ti_mk (i := Tryd.t99) (z := .nilFunc) Tryd.underlying99 ⟨_, _, _, rfl⟩ (by kernel_rfl) (by kernel_rfl) (by kernel_rfl) (by kernel_rfl)
def ti100 : TI := ⟨.slice 101, 1, 24, .nilslice, some (.slc (.fmap (.int .i64) (.rel)))⟩
theorem ti100_ok : TiOk Tryd.prog 100 ti100 := ti_mk (i := Tryd.t100) (z := .slice none 0 0) Tryd.underlying100 rfl (by kernel_rfl) (by kernel_rfl) (by kernel_rfl) (by kernel_rfl)
def ti101 : TI := ⟨.map 3 69, 1, 8, .nilmap, some (.fmap (.int .i64) (.rel))⟩
theorem ti101_ok : TiOk Tryd.prog 101 ti101 := ti_mk (i := Tryd.t101) (z := .map none) Tryd.underlying101 rfl (by kernel_rfl) (by kernel_rfl) (by kernel_rfl) (by kernel_rfl)
def ti102 : TI := ⟨.func, 1, 8, .nilFunc, none⟩
theorem ti102_ok : TiOk Tryd.prog 102 ti102 := ti_mk (i := Tryd.t102) (z := .nilFunc) Tryd.underlying102 ⟨_, _, _, rfl⟩ (by kernel_rfl) (by kernel_rfl) (by kernel_rfl) (by kernel_rfl)
def ti103 : TI := ⟨.ptr 29, 1, 8, .nilptr, none⟩
theorem ti103_ok : TiOk Tryd.prog 103 ti103 := ti_mk (i := Tryd.t103) (z := .pointer none) Tryd.underlying103 rfl (by kernel_rfl) (by kernel_rfl) (by kernel_rfl) (by kernel_rfl)
def ti105 : TI := ⟨.func, 1, 8, .nilFunc, none⟩
theorem ti105_ok : TiOk Tryd.prog 105 ti105 := ti_mk (i := Tryd.t105) (z := .nilFunc) Tryd.underlying105 ⟨_, _, _, rfl⟩ (by kernel_rfl) (by kernel_rfl) (by kernel_rfl) (by kernel_rfl)
def ti106 : TI := ⟨.func, 1, 8, .nilFunc, none⟩
theorem ti106_ok : TiOk Tryd.prog 106 ti106 := ti_mk (i := Tryd.t106) (z := .nilFunc) Tryd.underlying106 ⟨_, _, _, rfl⟩ (by kernel_rfl) (by kernel_rfl) (by kernel_rfl) (by kernel_rfl)
def ti108 : TI := ⟨.func, 1, 8, .nilFunc, none⟩
theorem ti108_ok : TiOk Tryd.prog 108 ti108 := ti_mk (i := Tryd.t108) (z := .nilFunc) Tryd.underlying108 ⟨_, _, _, rfl⟩ (by kernel_rfl) (by kernel_rfl) (by kernel_rfl) (by kernel_rfl)
def ti109 : TI := ⟨.func, 1, 8, .nilFunc, none⟩
theorem ti109_ok : TiOk Tryd.prog 109 ti109 := ti_mk (i := Tryd.t109) (z := .nilFunc) Tryd.underlying109 ⟨_, _, _, rfl⟩ (by kernel_rfl) (by kernel_rfl) (by kernel_rfl) (by kernel_rfl)
def ti110 : TI := ⟨.func, 1, 8, .nilFunc, none⟩
theorem ti110_ok : TiOk Tryd.prog 110 ti110 := ti_mk (i := Tryd.t110) (z := .nilFunc) Tryd.underlying110 ⟨_, _, _, rfl⟩ (by kernel_rfl) (by kernel_rfl) (by kernel_rfl) (by kernel_rfl)
def ti111 : TI := ⟨.func, 1, 8, .nilFunc, none⟩
theorem ti111_ok : TiOk Tryd.prog 111 ti111 := ti_mk (i := Tryd.t111) (z := .nilFunc) Tryd.underlying111 ⟨_, _, _, rfl⟩ (by kernel_rfl) (by kernel_rfl) (by kernel_rfl) (by kernel_rfl)
def ti112 : TI := ⟨.ptr 114, 1, 8, .nilptr, none⟩
theorem ti112_ok : TiOk Tryd.prog 112 ti112 := ti_mk (i := Tryd.t112) (z := .pointer none) Tryd.underlying112 rfl (by kernel_rfl) (by kernel_rfl) (by kernel_rfl) (by kernel_rfl)
def ti113 : TI := ⟨.struct [(0, 3, 1), (1, 31, 1)], 2, 24, .agg [.int .i64 (.lit 0), .nilIface], none⟩
theorem ti113_ok : TiOk Tryd.prog 113 ti113 := ti_mk (i := Tryd.t113) (z := .agg #[.int .i64 0, .nilIface]) Tryd.underlying113 ⟨_, rfl, (by kernel_rfl), fun f hf => by
    simp only [List.mem_cons, List.not_mem_nil, or_false] at hf
    rcases hf with rfl | rfl
    · exact ⟨Tryd.t3, by kernel_rfl, by kernel_rfl, Nat.le_of_ble_eq_true (by kernel_rfl)⟩
    · exact ⟨Tryd.t31, by kernel_rfl, by kernel_rfl, Nat.le_of_ble_eq_true (by kernel_rfl)⟩⟩ (by kernel_rfl) (by kernel_rfl) (by kernel_rfl) (by kernel_rfl)
def ti114 : TI := ⟨.struct [(0, 3, 1), (1, 31, 1)], 2, 24, .agg [.int .i64 (.lit 0), .nilIface], none⟩
theorem ti114_ok : TiOk Tryd.prog 114 ti114 := ti_mk (i := Tryd.t114) (z := .agg #[.int .i64 0, .nilIface]) Tryd.underlying114 ⟨_, rfl, (by kernel_rfl), fun f hf => by
    simp only [List.mem_cons, List.not_mem_nil, or_false] at hf
    rcases hf with rfl | rfl
    · exact ⟨Tryd.t3, by kernel_rfl, by kernel_rfl, Nat.le_of_ble_eq_true (by kernel_rfl)⟩
    · exact ⟨Tryd.t31, by kernel_rfl, by kernel_rfl, Nat.le_of_ble_eq_true (by kernel_rfl)⟩⟩ (by kernel_rfl) (by kernel_rfl) (by kernel_rfl) (by kernel_rfl)
def ti115 : TI := ⟨.func, 1, 8, .nilFunc, none⟩
theorem ti115_ok : TiOk Tryd.prog 115 ti115 := ti_mk (i := Tryd.t115) (z := .nilFunc) Tryd.underlying115 ⟨_, _, _, rfl⟩ (by kernel_rfl) (by kernel_rfl) (by kernel_rfl) (by kernel_rfl)
def ti116 : TI := ⟨.struct [(0, 3, 1), (1, 3, 1), (2, 4, 1)], 3, 24, .agg [.int .i64 (.lit 0), .int .i64 (.lit 0), .bool (.lit false)], some (.flat (.int .i64) [.int .i64, .bool])⟩
theorem ti116_ok : TiOk Tryd.prog 116 ti116 := ti_mk (i := Tryd.t116) (z := .agg #[.int .i64 0, .int .i64 0, .bool false]) Tryd.underlying116 ⟨_, rfl, (by kernel_rfl), fun f hf => by
    simp only [List.mem_cons, List.not_mem_nil, or_false] at hf
    rcases hf with rfl | rfl | rfl
    · exact ⟨Tryd.t3, by kernel_rfl, by kernel_rfl, Nat.le_of_ble_eq_true (by kernel_rfl)⟩
    · exact ⟨Tryd.t3, by kernel_rfl, by kernel_rfl, Nat.le_of_ble_eq_true (by kernel_rfl)⟩
    · exact ⟨Tryd.t4, by kernel_rfl, by kernel_rfl, Nat.le_of_ble_eq_true (by kernel_rfl)⟩⟩ (by kernel_rfl) (by kernel_rfl) (by kernel_rfl) (by kernel_rfl)
def ti117 : TI := ⟨.struct [(0, 3, 1), (1, 3, 1), (2, 4, 1)], 3, 24, .agg [.int .i64 (.lit 0), .int .i64 (.lit 0), .bool (.lit false)], some (.flat (.int .i64) [.int .i64, .bool])⟩
theorem ti117_ok : TiOk Tryd.prog 117 ti117 := ti_mk (i := Tryd.t117) (z := .agg #[.int .i64 0, .int .i64 0, .bool false]) Tryd.underlying117 ⟨_, rfl, (by kernel_rfl), fun f hf => by
    simp only [List.mem_cons, List.not_mem_nil, or_false] at hf
    rcases hf with rfl | rfl | rfl
    · exact ⟨Tryd.t3, by kernel_rfl, by kernel_rfl, Nat.le_of_ble_eq_true (by kernel_rfl)⟩
    · exact ⟨Tryd.t3, by kernel_rfl, by kernel_rfl, Nat.le_of_ble_eq_true (by kernel_rfl)⟩
    · exact ⟨Tryd.t4, by kernel_rfl, by kernel_rfl, Nat.le_of_ble_eq_true (by kernel_rfl)⟩⟩ (by kernel_rfl) (by kernel_rfl) (by kernel_rfl) (by kernel_rfl)
def ti118 : TI := ⟨.func, 1, 8, .nilFunc, none⟩
theorem ti118_ok : TiOk Tryd.prog 118 ti118 := ti_mk (i := Tryd.t118) (z := .nilFunc) Tryd.underlying118 ⟨_, _, _, rfl⟩ (by kernel_rfl) (by kernel_rfl) (by kernel_rfl) (by kernel_rfl)
def ti119 : TI := ⟨.struct [], 0, 0, .agg [], none⟩
theorem ti119_ok : TiOk Tryd.prog 119 ti119 := ti_mk (i := Tryd.t119) (z := .agg #[]) Tryd.underlying119 ⟨_, rfl, (by kernel_rfl), fun f hf => by
    simp at hf⟩ (by kernel_rfl) (by kernel_rfl) (by kernel_rfl) (by kernel_rfl)
def ti120 : TI := ⟨.struct [], 0, 0, .agg [], none⟩
theorem ti120_ok : TiOk Tryd.prog 120 ti120 := ti_mk (i := Tryd.t120) (z := .agg #[]) Tryd.underlying120 ⟨_, rfl, (by kernel_rfl), fun f hf => by
    simp at hf⟩ (by kernel_rfl) (by kernel_rfl) (by kernel_rfl) (by kernel_rfl)
def ti121 : TI := ⟨.func, 1, 8, .nilFunc, none⟩
theorem ti121_ok : TiOk Tryd.prog 121 ti121 := ti_mk (i := Tryd.t121) (z := .nilFunc) Tryd.underlying121 ⟨_, _, _, rfl⟩ (by kernel_rfl) (by kernel_rfl) (by kernel_rfl) (by kernel_rfl)
def ti122 : TI := ⟨.ptr 117, 1, 8, .nilptr, none⟩
theorem ti122_ok : TiOk Tryd.prog 122 ti122 := ti_mk (i := Tryd.t122) (z := .pointer none) Tryd.underlying122 rfl (by kernel_rfl) (by kernel_rfl) (by kernel_rfl) (by kernel_rfl)
def ti124 : TI := ⟨.func, 1, 8, .nilFunc, none⟩
theorem ti124_ok : TiOk Tryd.prog 124 ti124 := ti_mk (i := Tryd.t124) (z := .nilFunc) Tryd.underlying124 ⟨_, _, _, rfl⟩ (by kernel_rfl) (by kernel_rfl) (by kernel_rfl) (by kernel_rfl)
def ti125 : TI := ⟨.func, 1, 8, .nilFunc, none⟩
theorem ti125_ok : TiOk Tryd.prog 125 ti125 := ti_mk (i := Tryd.t125) (z := .nilFunc) Tryd.underlying125 ⟨_, _, _, rfl⟩ (by kernel_rfl) (by kernel_rfl) (by kernel_rfl) (by kernel_rfl)
def ti126 : TI := ⟨.func, 1, 8, .nilFunc, none⟩
theorem ti126_ok : TiOk Tryd.prog 126 ti126 := ti_mk (i := Tryd.t126) (z := .nilFunc) Tryd.underlying126 ⟨_, _, _, rfl⟩ (by kernel_rfl) (by kernel_rfl) (by kernel_rfl) (by kernel_rfl)
def ti127 : TI := ⟨.slice 132, 1, 24, .nilslice, some (.slc (.site))⟩
theorem ti127_ok : TiOk Tryd.prog 127 ti127 := ti_mk (i := Tryd.t127) (z := .slice none 0 0) Tryd.underlying127 rfl (by kernel_rfl) (by kernel_rfl) (by kernel_rfl) (by kernel_rfl)
def ti129 : TI := ⟨.func, 1, 8, .nilFunc, none⟩
theorem ti129_ok : TiOk Tryd.prog 129 ti129 := ti_mk (i := Tryd.t129) (z := .nilFunc) Tryd.underlying129 ⟨_, _, _, rfl⟩ (by kernel_rfl) (by kernel_rfl) (by kernel_rfl) (by kernel_rfl)
def ti130 : TI := ⟨.func, 1, 8, .nilFunc, none⟩
theorem ti130_ok : TiOk Tryd.prog 130 ti130 := ti_mk (i := Tryd.t130) (z := .nilFunc) Tryd.underlying130 ⟨_, _, _, rfl⟩ (by kernel_rfl) (by kernel_rfl) (by kernel_rfl) (by kernel_rfl)
def ti131 : TI := ⟨.struct [(0, 3, 1), (1, 3, 1), (2, 36, 5)], 7, 56, .agg [.int .i64 (.lit 0), .int .i64 (.lit 0), .int .i64 (.lit 0), .int .i64 (.lit 0), .int .i64 (.lit 0), .int .i64 (.lit 0), .int .u32 (.lit 0)], none⟩
theorem ti131_ok : TiOk Tryd.prog 131 ti131 := ti_mk (i := Tryd.t131) (z := .agg #[.int .i64 0, .int .i64 0, .int .i64 0, .int .i64 0, .int .i64 0, .int .i64 0, .int .u32 0]) Tryd.underlying131 ⟨_, rfl, (by kernel_rfl), fun f hf => by
    simp only [List.mem_cons, List.not_mem_nil, or_false] at hf
    rcases hf with rfl | rfl | rfl
    · exact ⟨Tryd.t3, by kernel_rfl, by kernel_rfl, Nat.le_of_ble_eq_true (by kernel_rfl)⟩
    · exact ⟨Tryd.t3, by kernel_rfl, by kernel_rfl, Nat.le_of_ble_eq_true (by kernel_rfl)⟩
    · exact ⟨Tryd.t36, by kernel_rfl, by kernel_rfl, Nat.le_of_ble_eq_true (by kernel_rfl)⟩⟩ (by kernel_rfl) (by kernel_rfl) (by kernel_rfl) (by kernel_rfl)
def ti132 : TI := ⟨.struct [(0, 3, 1), (1, 3, 1), (2, 36, 5)], 7, 56, .agg [.int .i64 (.lit 0), .int .i64 (.lit 0), .int .i64 (.lit 0), .int .i64 (.lit 0), .int .i64 (.lit 0), .int .i64 (.lit 0), .int .u32 (.lit 0)], some (.site)⟩
theorem ti132_ok : TiOk Tryd.prog 132 ti132 := ti_mk (i := Tryd.t132) (z := .agg #[.int .i64 0, .int .i64 0, .int .i64 0, .int .i64 0, .int .i64 0, .int .i64 0, .int .u32 0]) Tryd.underlying132 ⟨_, rfl, (by kernel_rfl), fun f hf => by
    simp only [List.mem_cons, List.not_mem_nil, or_false] at hf
    rcases hf with rfl | rfl | rfl
    · exact ⟨Tryd.t3, by kernel_rfl, by kernel_rfl, Nat.le_of_ble_eq_true (by kernel_rfl)⟩
    · exact ⟨Tryd.t3, by kernel_rfl, by kernel_rfl, Nat.le_of_ble_eq_true (by kernel_rfl)⟩
    · exact ⟨Tryd.t36, by kernel_rfl, by kernel_rfl, Nat.le_of_ble_eq_true (by kernel_rfl)⟩⟩ (by kernel_rfl) (by kernel_rfl) (by kernel_rfl) (by kernel_rfl)
def ti133 : TI := ⟨.ptr 67, 1, 8, .nilptr, none⟩
theorem ti133_ok : TiOk Tryd.prog 133 ti133 := ti_mk (i := Tryd.t133) (z := .pointer none) Tryd.underlying133 rfl (by kernel_rfl) (by kernel_rfl) (by kernel_rfl) (by kernel_rfl)
def ti134 : TI := ⟨.func, 1, 8, .nilFunc, none⟩
theorem ti134_ok : TiOk Tryd.prog 134 ti134 := ti_mk (i := Tryd.t134) (z := .nilFunc) Tryd.underlying134 ⟨_, _, _, rfl⟩ (by kernel_rfl) (by kernel_rfl) (by kernel_rfl) (by kernel_rfl)
def ti135 : TI := ⟨.ptr 112, 1, 8, .nilptr, none⟩
theorem ti135_ok : TiOk Tryd.prog 135 ti135 := ti_mk (i := Tryd.t135) (z := .pointer none) Tryd.underlying135 rfl (by kernel_rfl) (by kernel_rfl) (by kernel_rfl) (by kernel_rfl)
def ti136 : TI := ⟨.func, 1, 8, .nilFunc, none⟩
theorem ti136_ok : TiOk Tryd.prog 136 ti136 := ti_mk (i := Tryd.t136) (z := .nilFunc) Tryd.underlying136 ⟨_, _, _, rfl⟩ (by kernel_rfl) (by kernel_rfl) (by kernel_rfl) (by kernel_rfl)
def ti137 : TI := ⟨.func, 1, 8, .nilFunc, none⟩
theorem ti137_ok : TiOk Tryd.prog 137 ti137 := ti_mk (i := Tryd.t137) (z := .nilFunc) Tryd.underlying137 ⟨_, _, _, rfl⟩ (by kernel_rfl) (by kernel_rfl) (by kernel_rfl) (by kernel_rfl)
def ti138 : TI := ⟨.map 9 3, 1, 8, .nilmap, some (.fmap (.str) (.i64))⟩
theorem ti138_ok : TiOk Tryd.prog 138 ti138 := ti_mk (i := Tryd.t138) (z := .map none) Tryd.underlying138 rfl (by kernel_rfl) (by kernel_rfl) (by kernel_rfl) (by kernel_rfl)
def ti139 : TI := ⟨.func, 1, 8, .nilFunc, none⟩
theorem ti139_ok : TiOk Tryd.prog 139 ti139 := ti_mk (i := Tryd.t139) (z := .nilFunc) Tryd.underlying139 ⟨_, _, _, rfl⟩ (by kernel_rfl) (by kernel_rfl) (by kernel_rfl) (by kernel_rfl)
def ti140 : TI := ⟨.func, 1, 8, .nilFunc, none⟩
theorem ti140_ok : TiOk Tryd.prog 140 ti140 := ti_mk (i := Tryd.t140) (z := .nilFunc) Tryd.underlying140 ⟨_, _, _, rfl⟩ (by kernel_rfl) (by kernel_rfl) (by kernel_rfl) (by kernel_rfl)
def ti141 : TI := ⟨.func, 1, 8, .nilFunc, none⟩
theorem ti141_ok : TiOk Tryd.prog 141 ti141 := ti_mk (i := Tryd.t141) (z := .nilFunc) Tryd.underlying141 ⟨_, _, _, rfl⟩ (by kernel_rfl) (by kernel_rfl) (by kernel_rfl) (by kernel_rfl)
def ti142 : TI := ⟨.func, 1, 8, .nilFunc, none⟩
theorem ti142_ok : TiOk Tryd.prog 142 ti142 := ti_mk (i := Tryd.t142) (z := .nilFunc) Tryd.underlying142 ⟨_, _, _, rfl⟩ (by kernel_rfl) (by kernel_rfl) (by kernel_rfl) (by kernel_rfl)
def ti143 : TI := ⟨.func, 1, 8, .nilFunc, none⟩
theorem ti143_ok : TiOk Tryd.prog 143 ti143 := ti_mk (i := Tryd.t143) (z := .nilFunc) Tryd.underlying143 ⟨_, _, _, rfl⟩ (by kernel_rfl) (by kernel_rfl) (by kernel_rfl) (by kernel_rfl)
def ti144 : TI := ⟨.func, 1, 8, .nilFunc, none⟩
theorem ti144_ok : TiOk Tryd.prog 144 ti144 := ti_mk (i := Tryd.t144) (z := .nilFunc) Tryd.underlying144 ⟨_, _, _, rfl⟩ (by kernel_rfl) (by kernel_rfl) (by kernel_rfl) (by kernel_rfl)
def ti147 : TI := ⟨.func, 1, 8, .nilFunc, none⟩
theorem ti147_ok : TiOk Tryd.prog 147 ti147 := ti_mk (i := Tryd.t147) (z := .nilFunc) Tryd.underlying147 ⟨_, _, _, rfl⟩ (by kernel_rfl) (by kernel_rfl) (by kernel_rfl) (by kernel_rfl)
def ti148 : TI := ⟨.func, 1, 8, .nilFunc, none⟩
theorem ti148_ok : TiOk Tryd.prog 148 ti148 := ti_mk (i := Tryd.t148) (z := .nilFunc) Tryd.underlying148 ⟨_, _, _, rfl⟩ (by kernel_rfl) (by kernel_rfl) (by kernel_rfl) (by kernel_rfl)
def ti149 : TI := ⟨.func, 1, 8, .nilFunc, none⟩
theorem ti149_ok : TiOk Tryd.prog 149 ti149 := ti_mk (i := Tryd.t149) (z := .nilFunc) Tryd.underlying149 ⟨_, _, _, rfl⟩ (by kernel_rfl) (by kernel_rfl) (by kernel_rfl) (by kernel_rfl)
def ti150 : TI := ⟨.func, 1, 8, .nilFunc, none⟩
theorem ti150_ok : TiOk Tryd.prog 150 ti150 := ti_mk (i := Tryd.t150) (z := .nilFunc) Tryd.underlying150 ⟨_, _, _, rfl⟩ (by kernel_rfl) (by kernel_rfl) (by kernel_rfl) (by kernel_rfl)
def ti151 : TI := ⟨.func, 1, 8, .nilFunc, none⟩
theorem ti151_ok : TiOk Tryd.prog 151 ti151 := ti_mk (i := Tryd.t151) (z := .nilFunc) Tryd.underlying151 ⟨_, _, _, rfl⟩ (by kernel_rfl) (by kernel_rfl) (by kernel_rfl) (by kernel_rfl)
def ti152 : TI := ⟨.func, 1, 8, .nilFunc, none⟩
theorem ti152_ok : TiOk Tryd.prog 152 ti152 := ti_mk (i := Tryd.t152) (z := .nilFunc) Tryd.underlying152 ⟨_, _, _, rfl⟩ (by kernel_rfl) (by kernel_rfl) (by kernel_rfl) (by kernel_rfl)
def ti154 : TI := ⟨.int .u64, 1, 8, .int .u64 (.lit 0), none⟩
theorem ti154_ok : TiOk Tryd.prog 154 ti154 := ti_mk (i := Tryd.t154) (z := .int .u64 0) Tryd.underlying154 rfl (by kernel_rfl) (by kernel_rfl) (by kernel_rfl) (by kernel_rfl)
def ti157 : TI := ⟨.func, 1, 8, .nilFunc, none⟩
theorem ti157_ok : TiOk Tryd.prog 157 ti157 := ti_mk (i := Tryd.t157) (z := .nilFunc) Tryd.underlying157 ⟨_, _, _, rfl⟩ (by kernel_rfl) (by kernel_rfl) (by kernel_rfl) (by kernel_rfl)
def ti159 : TI := ⟨.iface, 1, 16, .nilIface, none⟩
theorem ti159_ok : TiOk Tryd.prog 159 ti159 := ti_mk (i := Tryd.t159) (z := .nilIface) Tryd.underlying159 ⟨_, rfl⟩ (by kernel_rfl) (by kernel_rfl) (by kernel_rfl) (by kernel_rfl)
def ti160 : TI := ⟨.func, 1, 8, .nilFunc, none⟩
theorem ti160_ok : TiOk Tryd.prog 160 ti160 := ti_mk (i := Tryd.t160) (z := .nilFunc) Tryd.underlying160 ⟨_, _, _, rfl⟩ (by kernel_rfl) (by kernel_rfl) (by kernel_rfl) (by kernel_rfl)
def ti163 : TI := ⟨.func, 1, 8, .nilFunc, none⟩
theorem ti163_ok : TiOk Tryd.prog 163 ti163 := ti_mk (i := Tryd.t163) (z := .nilFunc) Tryd.underlying163 ⟨_, _, _, rfl⟩ (by kernel_rfl) (by kernel_rfl) (by kernel_rfl) (by kernel_rfl)
def ti164 : TI := ⟨.func, 1, 8, .nilFunc, none⟩
theorem ti164_ok : TiOk Tryd.prog 164 ti164 := ti_mk (i := Tryd.t164) (z := .nilFunc) Tryd.underlying164 ⟨_, _, _, rfl⟩ (by kernel_rfl) (by kernel_rfl) (by kernel_rfl) (by kernel_rfl)
def ti165 : TI := ⟨.arr 24 5, 24, 24, .arr .u8 24 (List.replicate 24 0), none⟩
theorem ti165_ok : TiOk Tryd.prog 165 ti165 := ti_mk (i := Tryd.t165) (z := .agg #[.int .u8 0, .int .u8 0, .int .u8 0, .int .u8 0, .int .u8 0, .int .u8 0, .int .u8 0, .int .u8 0, .int .u8 0, .int .u8 0, .int .u8 0, .int .u8 0, .int .u8 0, .int .u8 0, .int .u8 0, .int .u8 0, .int .u8 0, .int .u8 0, .int .u8 0, .int .u8 0, .int .u8 0, .int .u8 0, .int .u8 0, .int .u8 0]) Tryd.underlying165 rfl (by kernel_rfl) (by kernel_rfl) (by kernel_rfl) (by kernel_rfl)
def ti166 : TI := ⟨.int .u64, 1, 8, .int .u64 (.lit 0), none⟩
theorem ti166_ok : TiOk Tryd.prog 166 ti166 := ti_mk (i := Tryd.t166) (z := .int .u64 0) Tryd.underlying166 rfl (by kernel_rfl) (by kernel_rfl) (by kernel_rfl) (by kernel_rfl)
def ti167 : TI := ⟨.func, 1, 8, .nilFunc, none⟩
theorem ti167_ok : TiOk Tryd.prog 167 ti167 := ti_mk (i := Tryd.t167) (z := .nilFunc) Tryd.underlying167 ⟨_, _, _, rfl⟩ (by kernel_rfl) (by kernel_rfl) (by kernel_rfl) (by kernel_rfl)
def ti168 : TI := ⟨.func, 1, 8, .nilFunc, none⟩
theorem ti168_ok : TiOk Tryd.prog 168 ti168 := ti_mk (i := Tryd.t168) (z := .nilFunc) Tryd.underlying168 ⟨_, _, _, rfl⟩ (by kernel_rfl) (by kernel_rfl) (by kernel_rfl) (by kernel_rfl)
def ti170 : TI := ⟨.func, 1, 8, .nilFunc, none⟩
theorem ti170_ok : TiOk Tryd.prog 170 ti170 := ti_mk (i := Tryd.t170) (z := .nilFunc) Tryd.underlying170 ⟨_, _, _, rfl⟩ (by kernel_rfl) (by kernel_rfl) (by kernel_rfl) (by kernel_rfl)
def ti171 : TI := ⟨.func, 1, 8, .nilFunc, none⟩
theorem ti171_ok : TiOk Tryd.prog 171 ti171 := ti_mk (i := Tryd.t171) (z := .nilFunc) Tryd.underlying171 ⟨_, _, _, rfl⟩ (by kernel_rfl) (by kernel_rfl) (by kernel_rfl) (by kernel_rfl)
def ti172 : TI := ⟨.func, 1, 8, .nilFunc, none⟩
theorem ti172_ok : TiOk Tryd.prog 172 ti172 := ti_mk (i := Tryd.t172) (z := .nilFunc) Tryd.underlying172 ⟨_, _, _, rfl⟩ (by kernel_rfl) (by kernel_rfl) (by kernel_rfl) (by kernel_rfl)
def ti174 : TI := ⟨.struct [(0, 17, 1)], 1, 8, .agg [.nilptr], none⟩
theorem ti174_ok : TiOk Tryd.prog 174 ti174 := ti_mk (i := Tryd.t174) (z := .agg #[.pointer none]) Tryd.underlying174 ⟨_, rfl, (by kernel_rfl), fun f hf => by
    simp only [List.mem_cons, List.not_mem_nil, or_false] at hf
    subst hf
    · exact ⟨Tryd.t17, by kernel_rfl, by kernel_rfl, Nat.le_of_ble_eq_true (by kernel_rfl)⟩⟩ (by kernel_rfl) (by kernel_rfl) (by kernel_rfl) (by kernel_rfl)
def ti175 : TI := ⟨.ptr 212, 1, 8, .nilptr, none⟩
theorem ti175_ok : TiOk Tryd.prog 175 ti175 := ti_mk (i := Tryd.t175) (z := .pointer none) Tryd.underlying175 rfl (by kernel_rfl) (by kernel_rfl) (by kernel_rfl) (by kernel_rfl)
def ti176 : TI := ⟨.func, 1, 8, .nilFunc, none⟩
theorem ti176_ok : TiOk Tryd.prog 176 ti176 := ti_mk (i := Tryd.t176) (z := .nilFunc) Tryd.underlying176 ⟨_, _, _, rfl⟩ (by kernel_rfl) (by kernel_rfl) (by kernel_rfl) (by kernel_rfl)
def ti177 : TI := ⟨.func, 1, 8, .nilFunc, none⟩
theorem ti177_ok : TiOk Tryd.prog 177 ti177 := ti_mk (i := Tryd.t177) (z := .nilFunc) Tryd.underlying177 ⟨_, _, _, rfl⟩ (by kernel_rfl) (by kernel_rfl) (by kernel_rfl) (by kernel_rfl)
def ti178 : TI := ⟨.func, 1, 8, .nilFunc, none⟩
theorem ti178_ok : TiOk Tryd.prog 178 ti178 := ti_mk (i := Tryd.t178) (z := .nilFunc) Tryd.underlying178 ⟨_, _, _, rfl⟩ (by kernel_rfl) (by kernel_rfl) (by kernel_rfl) (by kernel_rfl)
def ti179 : TI := ⟨.iface, 1, 16, .nilIface, none⟩
theorem ti179_ok : TiOk Tryd.prog 179 ti179 := ti_mk (i := Tryd.t179) (z := .nilIface) Tryd.underlying179 ⟨_, rfl⟩ (by kernel_rfl) (by kernel_rfl) (by kernel_rfl) (by kernel_rfl)
def ti181 : TI := ⟨.func, 1, 8, .nilFunc, none⟩
theorem ti181_ok : TiOk Tryd.prog 181 ti181 := ti_mk (i := Tryd.t181) (z := .nilFunc) Tryd.underlying181 ⟨_, _, _, rfl⟩ (by kernel_rfl) (by kernel_rfl) (by kernel_rfl) (by kernel_rfl)
def ti182 : TI := ⟨.iface, 1, 16, .nilIface, none⟩
theorem ti182_ok : TiOk Tryd.prog 182 ti182 := ti_mk (i := Tryd.t182) (z := .nilIface) Tryd.underlying182 ⟨_, rfl⟩ (by kernel_rfl) (by kernel_rfl) (by kernel_rfl) (by kernel_rfl)
def ti183 : TI := ⟨.iface, 1, 16, .nilIface, none⟩
theorem ti183_ok : TiOk Tryd.prog 183 ti183 := ti_mk (i := Tryd.t183) (z := .nilIface) Tryd.underlying183 ⟨_, rfl⟩ (by kernel_rfl) (by kernel_rfl) (by kernel_rfl) (by kernel_rfl)
def ti184 : TI := ⟨.slice 31, 1, 24, .nilslice, some (.slc (.err))⟩
theorem ti184_ok : TiOk Tryd.prog 184 ti184 := ti_mk (i := Tryd.t184) (z := .slice none 0 0) Tryd.underlying184 rfl (by kernel_rfl) (by kernel_rfl) (by kernel_rfl) (by kernel_rfl)
def ti185 : TI := ⟨.func, 1, 8, .nilFunc, none⟩
theorem ti185_ok : TiOk Tryd.prog 185 ti185 := ti_mk (i := Tryd.t185) (z := .nilFunc) Tryd.underlying185 ⟨_, _, _, rfl⟩ (by kernel_rfl) (by kernel_rfl) (by kernel_rfl) (by kernel_rfl)
def ti186 : TI := ⟨.func, 1, 8, .nilFunc, none⟩
theorem ti186_ok : TiOk Tryd.prog 186 ti186 := ti_mk (i := Tryd.t186) (z := .nilFunc) Tryd.underlying186 ⟨_, _, _, rfl⟩ (by kernel_rfl) (by kernel_rfl) (by kernel_rfl) (by kernel_rfl)
def ti188 : TI := ⟨.arr 65 5, 65, 65, .arr .u8 65 (List.replicate 65 0), none⟩
theorem ti188_ok : TiOk Tryd.prog 188 ti188 := ti_mk (i := Tryd.t188) (z := .agg #[.int .u8 0, .int .u8 0, .int .u8 0, .int .u8 0, .int .u8 0, .int .u8 0, .int .u8 0, .int .u8 0, .int .u8 0, .int .u8 0, .int .u8 0, .int .u8 0, .int .u8 0, .int .u8 0, .int .u8 0, .int .u8 0, .int .u8 0, .int .u8 0, .int .u8 0, .int .u8 0, .int .u8 0, .int .u8 0, .int .u8 0, .int .u8 0, .int .u8 0, .int .u8 0, .int .u8 0, .int .u8 0, .int .u8 0, .int .u8 0, .int .u8 0, .int .u8 0, .int .u8 0, .int .u8 0, .int .u8 0, .int .u8 0, .int .u8 0, .int .u8 0, .int .u8 0, .int .u8 0, .int .u8 0, .int .u8 0, .int .u8 0, .int .u8 0, .int .u8 0, .int .u8 0, .int .u8 0, .int .u8 0, .int .u8 0, .int .u8 0, .int .u8 0, .int .u8 0, .int .u8 0, .int .u8 0, .int .u8 0, .int .u8 0, .int .u8 0, .int .u8 0, .int .u8 0, .int .u8 0, .int .u8 0, .int .u8 0, .int .u8 0, .int .u8 0, .int .u8 0]) Tryd.underlying188 rfl (by kernel_rfl) (by kernel_rfl) (by kernel_rfl) (by kernel_rfl)
def ti189 : TI := ⟨.func, 1, 8, .nilFunc, none⟩
theorem ti189_ok : TiOk Tryd.prog 189 ti189 := ti_mk (i := Tryd.t189) (z := .nilFunc) Tryd.underlying189 ⟨_, _, _, rfl⟩ (by kernel_rfl) (by kernel_rfl) (by kernel_rfl) (by kernel_rfl)
def ti190 : TI := ⟨.func, 1, 8, .nilFunc, none⟩
theorem ti190_ok : TiOk Tryd.prog 190 ti190 := ti_mk (i := Tryd.t190) (z := .nilFunc) Tryd.underlying190 ⟨_, _, _, rfl⟩ (by kernel_rfl) (by kernel_rfl) (by kernel_rfl) (by kernel_rfl)
def ti191 : TI := ⟨.arr 32 5, 32, 32, .arr .u8 32 (List.replicate 32 0), none⟩
theorem ti191_ok : TiOk Tryd.prog 191 ti191 := ti_mk (i := Tryd.t191) (z := .agg #[.int .u8 0, .int .u8 0, .int .u8 0, .int .u8 0, .int .u8 0, .int .u8 0, .int .u8 0, .int .u8 0, .int .u8 0, .int .u8 0, .int .u8 0, .int .u8 0, .int .u8 0, .int .u8 0, .int .u8 0, .int .u8 0, .int .u8 0, .int .u8 0, .int .u8 0, .int .u8 0, .int .u8 0, .int .u8 0, .int .u8 0, .int .u8 0, .int .u8 0, .int .u8 0, .int .u8 0, .int .u8 0, .int .u8 0, .int .u8 0, .int .u8 0, .int .u8 0]) Tryd.underlying191 rfl (by kernel_rfl) (by kernel_rfl) (by kernel_rfl) (by kernel_rfl)
def ti192 : TI := ⟨.arr 64 5, 64, 64, .arr .u8 64 (List.replicate 64 0), none⟩
theorem ti192_ok : TiOk Tryd.prog 192 ti192 := ti_mk (i := Tryd.t192) (z := .agg #[.int .u8 0, .int .u8 0, .int .u8 0, .int .u8 0, .int .u8 0, .int .u8 0, .int .u8 0, .int .u8 0, .int .u8 0, .int .u8 0, .int .u8 0, .int .u8 0, .int .u8 0, .int .u8 0, .int .u8 0, .int .u8 0, .int .u8 0, .int .u8 0, .int .u8 0, .int .u8 0, .int .u8 0, .int .u8 0, .int .u8 0, .int .u8 0, .int .u8 0, .int .u8 0, .int .u8 0, .int .u8 0, .int .u8 0, .int .u8 0, .int .u8 0, .int .u8 0, .int .u8 0, .int .u8 0, .int .u8 0, .int .u8 0, .int .u8 0, .int .u8 0, .int .u8 0, .int .u8 0, .int .u8 0, .int .u8 0, .int .u8 0, .int .u8 0, .int .u8 0, .int .u8 0, .int .u8 0, .int .u8 0, .int .u8 0, .int .u8 0, .int .u8 0, .int .u8 0, .int .u8 0, .int .u8 0, .int .u8 0, .int .u8 0, .int .u8 0, .int .u8 0, .int .u8 0, .int .u8 0, .int .u8 0, .int .u8 0, .int .u8 0, .int .u8 0]) Tryd.underlying192 rfl (by kernel_rfl) (by kernel_rfl) (by kernel_rfl) (by kernel_rfl)
def ti194 : TI := ⟨.func, 1, 8, .nilFunc, none⟩
theorem ti194_ok : TiOk Tryd.prog 194 ti194 := ti_mk (i := Tryd.t194) (z := .nilFunc) Tryd.underlying194 ⟨_, _, _, rfl⟩ (by kernel_rfl) (by kernel_rfl) (by kernel_rfl) (by kernel_rfl)
def ti200 : TI := ⟨.func, 1, 8, .nilFunc, none⟩
theorem ti200_ok : TiOk Tryd.prog 200 ti200 := ti_mk (i := Tryd.t200) (z := .nilFunc) Tryd.underlying200 ⟨_, _, _, rfl⟩ (by kernel_rfl) (by kernel_rfl) (by kernel_rfl) (by kernel_rfl)
def ti203 : TI := ⟨.func, 1, 8, .nilFunc, none⟩
theorem ti203_ok : TiOk Tryd.prog 203 ti203 := ti_mk (i := Tryd.t203) (z := .nilFunc) Tryd.underlying203 ⟨_, _, _, rfl⟩ (by kernel_rfl) (by kernel_rfl) (by kernel_rfl) (by kernel_rfl)
def ti204 : TI := ⟨.ptr 5, 1, 8, .nilptr, none⟩
theorem ti204_ok : TiOk Tryd.prog 204 ti204 := ti_mk (i := Tryd.t204) (z := .pointer none) Tryd.underlying204 rfl (by kernel_rfl) (by kernel_rfl) (by kernel_rfl) (by kernel_rfl)
def ti209 : TI := ⟨.func, 1, 8, .nilFunc, none⟩
theorem ti209_ok : TiOk Tryd.prog 209 ti209 := ti_mk (i := Tryd.t209) (z := .nilFunc) Tryd.underlying209 ⟨_, _, _, rfl⟩ (by kernel_rfl) (by kernel_rfl) (by kernel_rfl) (by kernel_rfl)
def ti212 : TI := ⟨.struct [(0, 9, 1), (1, 161, 1)], 2, 24, .agg [.str ByteArray.empty, .int .u8 (.lit 0)], some (.flat (.str) [.int .u8])⟩
theorem ti212_ok : TiOk Tryd.prog 212 ti212 := ti_mk (i := Tryd.t212) (z := .agg #[.string ByteArray.empty, .int .u8 0]) Tryd.underlying212 ⟨_, rfl, (by kernel_rfl), fun f hf => by
    simp only [List.mem_cons, List.not_mem_nil, or_false] at hf
    rcases hf with rfl | rfl
    · exact ⟨Tryd.t9, by kernel_rfl, by kernel_rfl, Nat.le_of_ble_eq_true (by kernel_rfl)⟩
    · exact ⟨Tryd.t161, by kernel_rfl, by kernel_rfl, Nat.le_of_ble_eq_true (by kernel_rfl)⟩⟩ (by kernel_rfl) (by kernel_rfl) (by kernel_rfl) (by kernel_rfl)
def ti213 : TI := ⟨.struct [(0, 9, 1)], 1, 16, .agg [.str ByteArray.empty], some (.flat (.str) [])⟩
theorem ti213_ok : TiOk Tryd.prog 213 ti213 := ti_mk (i := Tryd.t213) (z := .agg #[.string ByteArray.empty]) Tryd.underlying213 ⟨_, rfl, (by kernel_rfl), fun f hf => by
    simp only [List.mem_cons, List.not_mem_nil, or_false] at hf
    subst hf
    · exact ⟨Tryd.t9, by kernel_rfl, by kernel_rfl, Nat.le_of_ble_eq_true (by kernel_rfl)⟩⟩ (by kernel_rfl) (by kernel_rfl) (by kernel_rfl) (by kernel_rfl)
def ti217 : TI := ⟨.int .u16, 1, 2, .int .u16 (.lit 0), none⟩
theorem ti217_ok : TiOk Tryd.prog 217 ti217 := ti_mk (i := Tryd.t217) (z := .int .u16 0) Tryd.underlying217 rfl (by kernel_rfl) (by kernel_rfl) (by kernel_rfl) (by kernel_rfl)
def ti224 : TI := ⟨.func, 1, 8, .nilFunc, none⟩
theorem ti224_ok : TiOk Tryd.prog 224 ti224 := ti_mk (i := Tryd.t224) (z := .nilFunc) Tryd.underlying224 ⟨_, _, _, rfl⟩ (by kernel_rfl) (by kernel_rfl) (by kernel_rfl) (by kernel_rfl)
def ti225 : TI := ⟨.ptr 31, 1, 8, .nilptr, none⟩
theorem ti225_ok : TiOk Tryd.prog 225 ti225 := ti_mk (i := Tryd.t225) (z := .pointer none) Tryd.underlying225 rfl (by kernel_rfl) (by kernel_rfl) (by kernel_rfl) (by kernel_rfl)
def tab : List (Nat × TI) := [(1, ti1), (2, ti2), (3, ti3), (4, ti4), (5, ti5), (9, ti9), (12, ti12), (13, ti13), (19, ti19), (20, ti20), (21, ti21), (22, ti22), (23, ti23), (24, ti24), (25, ti25), (26, ti26), (27, ti27), (28, ti28), (29, ti29), (30, ti30), (31, ti31), (33, ti33), (34, ti34), (35, ti35), (36, ti36), (38, ti38), (39, ti39), (40, ti40), (41, ti41), (42, ti42), (43, ti43), (44, ti44), (45, ti45), (46, ti46), (47, ti47), (48, ti48), (49, ti49), (50, ti50), (51, ti51), (52, ti52), (53, ti53), (54, ti54), (55, ti55), (57, ti57), (58, ti58), (59, ti59), (60, ti60), (61, ti61), (62, ti62), (64, ti64), (65, ti65), (66, ti66), (67, ti67), (68, ti68), (69, ti69), (70, ti70), (71, ti71), (72, ti72), (74, ti74), (75, ti75), (77, ti77), (78, ti78), (79, ti79), (80, ti80), (81, ti81), (83, ti83), (84, ti84), (85, ti85), (86, ti86), (87, ti87), (88, ti88), (89, ti89), (90, ti90), (91, ti91), (92, ti92), (93, ti93), (94, ti94), (96, ti96), (97, ti97), (98, ti98), (99, ti99), (100, ti100), (101, ti101), (102, ti102), (103, ti103), (105, ti105), (106, ti106), (108, ti108), (109, ti109), (110, ti110), (111, ti111), (112, ti112), (113, ti113), (114, ti114), (115, ti115), (116, ti116), (117, ti117), (118, ti118), (119, ti119), (120, ti120), (121, ti121), (122, ti122), (124, ti124), (125, ti125), (126, ti126), (127, ti127), (129, ti129), (130, ti130), (131, ti131), (132, ti132), (133, ti133), (134, ti134), (135, ti135), (136, ti136), (137, ti137), (138, ti138), (139, ti139), (140, ti140), (141, ti141), (142, ti142), (143, ti143), (144, ti144), (147, ti147), (148, ti148), (149, ti149), (150, ti150), (151, ti151), (152, ti152), (154, ti154), (157, ti157), (159, ti159), (160, ti160), (163, ti163), (164, ti164), (165, ti165), (166, ti166), (167, ti167), (168, ti168), (170, ti170), (171, ti171), (172, ti172), (174, ti174), (175, ti175), (176, ti176), (177, ti177), (178, ti178), (179, ti179), (181, ti181), (182, ti182), (183, ti183), (184, ti184), (185, ti185), (186, ti186), (188, ti188), (189, ti189), (190, ti190), (191, ti191), (192, ti192), (194, ti194), (200, ti200), (203, ti203), (204, ti204), (209, ti209), (212, ti212), (213, ti213), (217, ti217), (224, ti224), (225, ti225)]
theorem tab_ok : ∀ t ti, find t tab = some ti → TiOk Tryd.prog t ti := by
  refine AllTi.find ?_
  unfold tab
  refine .cons ti1_ok ?_
  refine .cons ti2_ok ?_
  refine .cons ti3_ok ?_
  refine .cons ti4_ok ?_
  refine .cons ti5_ok ?_
  refine .cons ti9_ok ?_
  refine .cons ti12_ok ?_
  refine .cons ti13_ok ?_
  refine .cons ti19_ok ?_
  refine .cons ti20_ok ?_
  refine .cons ti21_ok ?_
  refine .cons ti22_ok ?_
  refine .cons ti23_ok ?_
  refine .cons ti24_ok ?_
  refine .cons ti25_ok ?_
  refine .cons ti26_ok ?_
  refine .cons ti27_ok ?_
  refine .cons ti28_ok ?_
  refine .cons ti29_ok ?_
  refine .cons ti30_ok ?_
  refine .cons ti31_ok ?_
  refine .cons ti33_ok ?_
  refine .cons ti34_ok ?_
  refine .cons ti35_ok ?_
  refine .cons ti36_ok ?_
  refine .cons ti38_ok ?_
  refine .cons ti39_ok ?_
  refine .cons ti40_ok ?_
  refine .cons ti41_ok ?_
  refine .cons ti42_ok ?_
  refine .cons ti43_ok ?_
  refine .cons ti44_ok ?_
  refine .cons ti45_ok ?_
  refine .cons ti46_ok ?_
  refine .cons ti47_ok ?_
  refine .cons ti48_ok ?_
  refine .cons ti49_ok ?_
  refine .cons ti50_ok ?_
  refine .cons ti51_ok ?_
  refine .cons ti52_ok ?_
  refine .cons ti53_ok ?_
  refine .cons ti54_ok ?_
  refine .cons ti55_ok ?_
  refine .cons ti57_ok ?_
  refine .cons ti58_ok ?_
  refine .cons ti59_ok ?_
  refine .cons ti60_ok ?_
  refine .cons ti61_ok ?_
  refine .cons ti62_ok ?_
  refine .cons ti64_ok ?_
  refine .cons ti65_ok ?_
  refine .cons ti66_ok ?_
  refine .cons ti67_ok ?_
  refine .cons ti68_ok ?_
  refine .cons ti69_ok ?_
  refine .cons ti70_ok ?_
  refine .cons ti71_ok ?_
  refine .cons ti72_ok ?_
  refine .cons ti74_ok ?_
  refine .cons ti75_ok ?_
  refine .cons ti77_ok ?_
  refine .cons ti78_ok ?_
  refine .cons ti79_ok ?_
  refine .cons ti80_ok ?_
  refine .cons ti81_ok ?_
  refine .cons ti83_ok ?_
  refine .cons ti84_ok ?_
  refine .cons ti85_ok ?_
  refine .cons ti86_ok ?_
  refine .cons ti87_ok ?_
  refine .cons ti88_ok ?_
  refine .cons ti89_ok ?_
  refine .cons ti90_ok ?_
  refine .cons ti91_ok ?_
  refine .cons ti92_ok ?_
  refine .cons ti93_ok ?_
  refine .cons ti94_ok ?_
  refine .cons ti96_ok ?_
  refine .cons ti97_ok ?_
  refine .cons ti98_ok ?_
  refine .cons ti99_ok ?_
  refine .cons ti100_ok ?_
  refine .cons ti101_ok ?_
  refine .cons ti102_ok ?_
  refine .cons ti103_ok ?_
  refine .cons ti105_ok ?_
  refine .cons ti106_ok ?_
  refine .cons ti108_ok ?_
  refine .cons ti109_ok ?_
  refine .cons ti110_ok ?_
  refine .cons ti111_ok ?_
  refine .cons ti112_ok ?_
  refine .cons ti113_ok ?_
  refine .cons ti114_ok ?_
  refine .cons ti115_ok ?_
  refine .cons ti116_ok ?_
  refine .cons ti117_ok ?_
  refine .cons ti118_ok ?_
  refine .cons ti119_ok ?_
  refine .cons ti120_ok ?_
  refine .cons ti121_ok ?_
  refine .cons ti122_ok ?_
  refine .cons ti124_ok ?_
  refine .cons ti125_ok ?_
  refine .cons ti126_ok ?_
  refine .cons ti127_ok ?_
  refine .cons ti129_ok ?_
  refine .cons ti130_ok ?_
  refine .cons ti131_ok ?_
  refine .cons ti132_ok ?_
  refine .cons ti133_ok ?_
  refine .cons ti134_ok ?_
  refine .cons ti135_ok ?_
  refine .cons ti136_ok ?_
  refine .cons ti137_ok ?_
  refine .cons ti138_ok ?_
  refine .cons ti139_ok ?_
  refine .cons ti140_ok ?_
  refine .cons ti141_ok ?_
  refine .cons ti142_ok ?_
  refine .cons ti143_ok ?_
  refine .cons ti144_ok ?_
  refine .cons ti147_ok ?_
  refine .cons ti148_ok ?_
  refine .cons ti149_ok ?_
  refine .cons ti150_ok ?_
  refine .cons ti151_ok ?_
  refine .cons ti152_ok ?_
  refine .cons ti154_ok ?_
  refine .cons ti157_ok ?_
  refine .cons ti159_ok ?_
  refine .cons ti160_ok ?_
  refine .cons ti163_ok ?_
  refine .cons ti164_ok ?_
  refine .cons ti165_ok ?_
  refine .cons ti166_ok ?_
  refine .cons ti167_ok ?_
  refine .cons ti168_ok ?_
  refine .cons ti170_ok ?_
  refine .cons ti171_ok ?_
  refine .cons ti172_ok ?_
  refine .cons ti174_ok ?_
  refine .cons ti175_ok ?_
  refine .cons ti176_ok ?_
  refine .cons ti177_ok ?_
  refine .cons ti178_ok ?_
  refine .cons ti179_ok ?_
  refine .cons ti181_ok ?_
  refine .cons ti182_ok ?_
  refine .cons ti183_ok ?_
  refine .cons ti184_ok ?_
  refine .cons ti185_ok ?_
  refine .cons ti186_ok ?_
  refine .cons ti188_ok ?_
  refine .cons ti189_ok ?_
  refine .cons ti190_ok ?_
  refine .cons ti191_ok ?_
  refine .cons ti192_ok ?_
  refine .cons ti194_ok ?_
  refine .cons ti200_ok ?_
  refine .cons ti203_ok ?_
  refine .cons ti204_ok ?_
  refine .cons ti209_ok ?_
  refine .cons ti212_ok ?_
  refine .cons ti213_ok ?_
  refine .cons ti217_ok ?_
  refine .cons ti224_ok ?_
  refine .cons ti225_ok ?_
  exact .nil
end Go.Proofs.YtacmmedhjebfjaaDoor
set_option linter.unusedVariables false
set_option linter.unusedSimpArgs false
namespace Go.Proofs.YtacmmedhjebfjaaDoor
open Go.RowKit Go.Sy
def G7 : List (Nat × SVal) := [(3, .rop [.err (.bare 102)]), (7, .rop [.err (.bare 103)]), (1, .rop [.err (.bare 104)]), (6, .rop [.err (.bare 105)]), (2, .rop [.err (.bare 106)]), (0, .rop [.err (.bare 107)]), (4, .rop [.err (.bare 109)])]
abbrev tAtN : Nat := 112
abbrev ctx (ea : Ear) (has : Int → Prop) : Ctx := ⟨ea.f, 193, tAtN, has, ea.fix⟩
def cmpT : List Nat := [69, 67]
theorem cmp_ok : ∀ t, cmpT.contains t = true → CmpOk Tryd.prog t := by
  intro t ht
  have nm : ∀ t, ((Tryd.prog.fieldsOf t).toList.all fun f => f.name != "_") = true → ∀ f ∈ (Tryd.prog.fieldsOf t).toList, f.name ≠ "_" := fun t h f hf => by
    have := List.all_eq_true.1 h f hf
    simpa using this
  simp [cmpT] at ht
  rcases ht with rfl | rfl
  · exact ⟨by kernel_rfl, by kernel_rfl, nm _ (by kernel_rfl)⟩
  · exact ⟨by kernel_rfl, by kernel_rfl, nm _ (by kernel_rfl)⟩
abbrev env (gl : List (Nat × SVal)) (con : List (Nat × (List SVal → Nat → Acc ORes))) : Env := { tab := tab, con := con, glob := gl, tAt := tAtN, cmp := cmpT }
theorem err_ok (ea : Ear) (has : Int → Prop) : ErrOk Tryd.prog (ctx ea has) where
  tE := ⟨_, Tryd.t193, Tryd.t214, Tryd.underlying193, by kernel_rfl, by kernel_rfl, by kernel_rfl, Nat.ne_of_beq_eq_false (by kernel_rfl)⟩
  tAt := ⟨_, Tryd.underlying112⟩
section
variable {ea : Ear} {has : Int → Prop} {gl : List (Nat × SVal)}
def Cons (P : Program) (C : Ctx) (gl : List (Nat × SVal)) : List (Nat × (List SVal → Nat → Acc ORes)) → Prop
  | [] => True
  | (f, k) :: l => ConOk P C gl f k ∧ Cons P C gl l
theorem cons_find {P : Program} {C : Ctx} {l : List (Nat × (List SVal → Nat → Acc ORes))} (h : Cons P C gl l) : ∀ f k, find f l = some k → ConOk P C gl f k := by
  induction l with
  | nil => intro f k hf; cases hf
  | cons p l ih =>
    obtain ⟨g, k'⟩ := p
    intro f k hf
    simp only [find] at hf
    split at hf
    · rename_i hb; have := Nat.eq_of_beq_eq_true hb; subst this; cases hf; exact h.1
    · exact ih h.2 f k hf
theorem env_ok {con : List (Nat × (List SVal → Nat → Acc ORes))} (h : Cons Tryd.prog (ctx ea has) gl con) : EnvOk Tryd.prog (ctx ea has) gl (env gl con) where
  tab := tab_ok
  err := err_ok ea has
  glob := rfl
  tAt := rfl
  mixed := by kernel_rfl
  con := cons_find h
  cmp := cmp_ok
abbrev Con (ea : Ear) (has : Int → Prop) (gl : List (Nat × SVal)) (f : Nat) (k : List SVal → Nat → Acc ORes) : Prop := ConOk Tryd.prog (ctx ea has) gl f k
end
end Go.Proofs.YtacmmedhjebfjaaDoor
