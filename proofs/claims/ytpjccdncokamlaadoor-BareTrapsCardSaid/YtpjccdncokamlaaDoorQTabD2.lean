/- Contracts that the proofs use. -/
import Derived.Test.YtpjccdncokamlaaDoorQSyTi
import Derived.Test.YtpjccdncokamlaaDoorRows
set_option linter.unusedVariables false
set_option linter.unusedSimpArgs false
namespace Go.Proofs.YtpjccdncokamlaaDoor
open Go.RowKit Go.Sy
def ti1 : TI := ⟨.func, 1, 8, .nilFunc, none⟩
theorem ti1_ok : TiOk Tryd.prog 1 ti1 := ti_mk (i := Tryd.t1) (z := .nilFunc) Tryd.underlying1 ⟨_, _, _, rfl⟩ (by kernel_rfl) (by kernel_rfl) (by kernel_rfl) (by kernel_rfl)
def ti2 : TI := ⟨.int .i64, 1, 8, .int .i64 (.lit 0), none⟩
theorem ti2_ok : TiOk Tryd.prog 2 ti2 := ti_mk (i := Tryd.t2) (z := .int .i64 0) Tryd.underlying2 rfl (by kernel_rfl) (by kernel_rfl) (by kernel_rfl) (by kernel_rfl)
def ti3 : TI := ⟨.int .i64, 1, 8, .int .i64 (.lit 0), some (.i64)⟩
theorem ti3_ok : TiOk Tryd.prog 3 ti3 := ti_mk (i := Tryd.t3) (z := .int .i64 0) Tryd.underlying3 rfl (by kernel_rfl) (by kernel_rfl) (by kernel_rfl) (by kernel_rfl)
def ti4 : TI := ⟨.bool, 1, 1, .bool (.lit false), some (.bool)⟩
theorem ti4_ok : TiOk Tryd.prog 4 ti4 := ti_mk (i := Tryd.t4) (z := .bool false) Tryd.underlying4 rfl (by kernel_rfl) (by kernel_rfl) (by kernel_rfl) (by kernel_rfl)
def ti5 : TI := ⟨.int .u8, 1, 1, .int .u8 (.lit 0), some (.u8)⟩
theorem ti5_ok : TiOk Tryd.prog 5 ti5 := ti_mk (i := Tryd.t5) (z := .int .u8 0) Tryd.underlying5 rfl (by kernel_rfl) (by kernel_rfl) (by kernel_rfl) (by kernel_rfl)
def ti9 : TI := ⟨.str, 1, 16, .str ByteArray.empty, some (.str)⟩
theorem ti9_ok : TiOk Tryd.prog 9 ti9 := ti_mk (i := Tryd.t9) (z := .string ByteArray.empty) Tryd.underlying9 rfl (by kernel_rfl) (by kernel_rfl) (by kernel_rfl) (by kernel_rfl)
def ti12 : TI := ⟨.int .u64, 1, 8, .int .u64 (.lit 0), none⟩
theorem ti12_ok : TiOk Tryd.prog 12 ti12 := ti_mk (i := Tryd.t12) (z := .int .u64 0) Tryd.underlying12 rfl (by kernel_rfl) (by kernel_rfl) (by kernel_rfl) (by kernel_rfl)
def ti13 : TI := ⟨.struct [(0, 9, 1), (1, 12, 1)], 2, 24, .agg [.str ByteArray.empty, .int .u64 (.lit 0)], some (.flat (.str) [.int .u64])⟩
theorem ti13_ok : TiOk Tryd.prog 13 ti13 := ti_mk (i := Tryd.t13) (z := .agg #[.string ByteArray.empty, .int .u64 0]) Tryd.underlying13 ⟨_, rfl, (by kernel_rfl), fun f hf => by
    simp only [List.mem_cons, List.not_mem_nil, or_false] at hf
    rcases hf with rfl | rfl
    · exact ⟨Tryd.t9, by kernel_rfl, by kernel_rfl, Nat.le_of_ble_eq_true (by kernel_rfl)⟩
    · exact ⟨Tryd.t12, by kernel_rfl, by kernel_rfl, Nat.le_of_ble_eq_true (by kernel_rfl)⟩⟩ (by kernel_rfl) (by kernel_rfl) (by kernel_rfl) (by kernel_rfl)
def ti19 : TI := ⟨.struct [(0, 17, 1)], 1, 8, .agg [.nilptr], none⟩
theorem ti19_ok : TiOk Tryd.prog 19 ti19 := ti_mk (i := Tryd.t19) (z := .agg #[.pointer none]) Tryd.underlying19 ⟨_, rfl, (by kernel_rfl), fun f hf => by
    simp only [List.mem_cons, List.not_mem_nil, or_false] at hf
    subst hf
    · exact ⟨Tryd.t17, by kernel_rfl, by kernel_rfl, Nat.le_of_ble_eq_true (by kernel_rfl)⟩⟩ (by kernel_rfl) (by kernel_rfl) (by kernel_rfl) (by kernel_rfl)
def ti20 : TI := ⟨.iface, 1, 16, .nilIface, none⟩
theorem ti20_ok : TiOk Tryd.prog 20 ti20 := ti_mk (i := Tryd.t20) (z := .nilIface) Tryd.underlying20 ⟨_, rfl⟩ (by kernel_rfl) (by kernel_rfl) (by kernel_rfl) (by kernel_rfl)
def ti21 : TI := ⟨.int .i32, 1, 4, .int .i32 (.lit 0), none⟩
theorem ti21_ok : TiOk Tryd.prog 21 ti21 := ti_mk (i := Tryd.t21) (z := .int .i32 0) Tryd.underlying21 rfl (by kernel_rfl) (by kernel_rfl) (by kernel_rfl) (by kernel_rfl)
def ti22 : TI := ⟨.slice 3, 1, 24, .nilslice, none⟩
theorem ti22_ok : TiOk Tryd.prog 22 ti22 := ti_mk (i := Tryd.t22) (z := .slice none 0 0) Tryd.underlying22 rfl (by kernel_rfl) (by kernel_rfl) (by kernel_rfl) (by kernel_rfl)
def ti23 : TI := ⟨.func, 1, 8, .nilFunc, none⟩
theorem ti23_ok : TiOk Tryd.prog 23 ti23 := ti_mk (i := Tryd.t23) (z := .nilFunc) Tryd.underlying23 ⟨_, _, _, rfl⟩ (by kernel_rfl) (by kernel_rfl) (by kernel_rfl) (by kernel_rfl)
def ti24 : TI := ⟨.slice 25, 1, 24, .nilslice, none⟩
theorem ti24_ok : TiOk Tryd.prog 24 ti24 := ti_mk (i := Tryd.t24) (z := .slice none 0 0) Tryd.underlying24 rfl (by kernel_rfl) (by kernel_rfl) (by kernel_rfl) (by kernel_rfl)
def ti25 : TI := ⟨.int .u32, 1, 4, .int .u32 (.lit 0), some (.u32)⟩
theorem ti25_ok : TiOk Tryd.prog 25 ti25 := ti_mk (i := Tryd.t25) (z := .int .u32 0) Tryd.underlying25 rfl (by kernel_rfl) (by kernel_rfl) (by kernel_rfl) (by kernel_rfl)
def ti26 : TI := ⟨.func, 1, 8, .nilFunc, none⟩
theorem ti26_ok : TiOk Tryd.prog 26 ti26 := ti_mk (i := Tryd.t26) (z := .nilFunc) Tryd.underlying26 ⟨_, _, _, rfl⟩ (by kernel_rfl) (by kernel_rfl) (by kernel_rfl) (by kernel_rfl)
def ti27 : TI := ⟨.ptr 87, 1, 8, .nilptr, none⟩
theorem ti27_ok : TiOk Tryd.prog 27 ti27 := ti_mk (i := Tryd.t27) (z := .pointer none) Tryd.underlying27 rfl (by kernel_rfl) (by kernel_rfl) (by kernel_rfl) (by kernel_rfl)
def ti28 : TI := ⟨.ptr 92, 1, 8, .nilptr, none⟩
theorem ti28_ok : TiOk Tryd.prog 28 ti28 := ti_mk (i := Tryd.t28) (z := .pointer none) Tryd.underlying28 rfl (by kernel_rfl) (by kernel_rfl) (by kernel_rfl) (by kernel_rfl)
def ti30 : TI := ⟨.func, 1, 8, .nilFunc, none⟩
theorem ti30_ok : TiOk Tryd.prog 30 ti30 := ti_mk (i := Tryd.t30) (z := .nilFunc) Tryd.underlying30 ⟨_, _, _, rfl⟩ (by kernel_rfl) (by kernel_rfl) (by kernel_rfl) (by kernel_rfl)
def ti31 : TI := ⟨.ptr 77, 1, 8, .nilptr, none⟩
theorem ti31_ok : TiOk Tryd.prog 31 ti31 := ti_mk (i := Tryd.t31) (z := .pointer none) Tryd.underlying31 rfl (by kernel_rfl) (by kernel_rfl) (by kernel_rfl) (by kernel_rfl)
def ti32 : TI := ⟨.iface, 1, 16, .nilIface, none⟩
theorem ti32_ok : TiOk Tryd.prog 32 ti32 := ti_mk (i := Tryd.t32) (z := .nilIface) Tryd.underlying32 ⟨_, rfl⟩ (by kernel_rfl) (by kernel_rfl) (by kernel_rfl) (by kernel_rfl)
def ti33 : TI := ⟨.iface, 1, 16, .nilIface, some (.err)⟩
theorem ti33_ok : TiOk Tryd.prog 33 ti33 := ti_mk (i := Tryd.t33) (z := .nilIface) Tryd.underlying33 ⟨_, rfl⟩ (by kernel_rfl) (by kernel_rfl) (by kernel_rfl) (by kernel_rfl)
def ti35 : TI := ⟨.func, 1, 8, .nilFunc, none⟩
theorem ti35_ok : TiOk Tryd.prog 35 ti35 := ti_mk (i := Tryd.t35) (z := .nilFunc) Tryd.underlying35 ⟨_, _, _, rfl⟩ (by kernel_rfl) (by kernel_rfl) (by kernel_rfl) (by kernel_rfl)
def ti36 : TI := ⟨.arr 16 25, 16, 64, .arr .u32 16 (List.replicate 16 0), none⟩
theorem ti36_ok : TiOk Tryd.prog 36 ti36 := ti_mk (i := Tryd.t36) (z := .agg #[.int .u32 0, .int .u32 0, .int .u32 0, .int .u32 0, .int .u32 0, .int .u32 0, .int .u32 0, .int .u32 0, .int .u32 0, .int .u32 0, .int .u32 0, .int .u32 0, .int .u32 0, .int .u32 0, .int .u32 0, .int .u32 0]) Tryd.underlying36 rfl (by kernel_rfl) (by kernel_rfl) (by kernel_rfl) (by kernel_rfl)
def ti37 : TI := ⟨.arr 16 25, 16, 64, .arr .u32 16 (List.replicate 16 0), none⟩
theorem ti37_ok : TiOk Tryd.prog 37 ti37 := ti_mk (i := Tryd.t37) (z := .agg #[.int .u32 0, .int .u32 0, .int .u32 0, .int .u32 0, .int .u32 0, .int .u32 0, .int .u32 0, .int .u32 0, .int .u32 0, .int .u32 0, .int .u32 0, .int .u32 0, .int .u32 0, .int .u32 0, .int .u32 0, .int .u32 0]) Tryd.underlying37 rfl (by kernel_rfl) (by kernel_rfl) (by kernel_rfl) (by kernel_rfl)
def ti38 : TI := ⟨.struct [(0, 37, 16), (16, 25, 1), (17, 4, 1), (18, 4, 1), (19, 25, 1), (20, 25, 1), (21, 25, 1), (22, 25, 1)], 23, 88, .agg [.arr .u32 16 (List.replicate 16 0), .int .u32 (.lit 0), .bool (.lit false), .bool (.lit false), .int .u32 (.lit 0), .int .u32 (.lit 0), .int .u32 (.lit 0), .int .u32 (.lit 0)], none⟩
theorem ti38_ok : TiOk Tryd.prog 38 ti38 := ti_mk (i := Tryd.t38) (z := .agg #[.int .u32 0, .int .u32 0, .int .u32 0, .int .u32 0, .int .u32 0, .int .u32 0, .int .u32 0, .int .u32 0, .int .u32 0, .int .u32 0, .int .u32 0, .int .u32 0, .int .u32 0, .int .u32 0, .int .u32 0, .int .u32 0, .int .u32 0, .bool false, .bool false, .int .u32 0, .int .u32 0, .int .u32 0, .int .u32 0]) Tryd.underlying38 ⟨_, rfl, (by kernel_rfl), fun f hf => by
    simp only [List.mem_cons, List.not_mem_nil, or_false] at hf
    rcases hf with rfl | rfl | rfl | rfl | rfl | rfl | rfl | rfl
    · exact ⟨Tryd.t37, by kernel_rfl, by kernel_rfl, Nat.le_of_ble_eq_true (by kernel_rfl)⟩
    · exact ⟨Tryd.t25, by kernel_rfl, by kernel_rfl, Nat.le_of_ble_eq_true (by kernel_rfl)⟩
    · exact ⟨Tryd.t4, by kernel_rfl, by kernel_rfl, Nat.le_of_ble_eq_true (by kernel_rfl)⟩
    · exact ⟨Tryd.t4, by kernel_rfl, by kernel_rfl, Nat.le_of_ble_eq_true (by kernel_rfl)⟩
    · exact ⟨Tryd.t25, by kernel_rfl, by kernel_rfl, Nat.le_of_ble_eq_true (by kernel_rfl)⟩
    · exact ⟨Tryd.t25, by kernel_rfl, by kernel_rfl, Nat.le_of_ble_eq_true (by kernel_rfl)⟩
    · exact ⟨Tryd.t25, by kernel_rfl, by kernel_rfl, Nat.le_of_ble_eq_true (by kernel_rfl)⟩
    · exact ⟨Tryd.t25, by kernel_rfl, by kernel_rfl, Nat.le_of_ble_eq_true (by kernel_rfl)⟩⟩ (by kernel_rfl) (by kernel_rfl) (by kernel_rfl) (by kernel_rfl)
def ti39 : TI := ⟨.struct [(0, 37, 16), (16, 25, 1), (17, 4, 1), (18, 4, 1), (19, 25, 1), (20, 25, 1), (21, 25, 1), (22, 25, 1)], 23, 88, .agg [.arr .u32 16 (List.replicate 16 0), .int .u32 (.lit 0), .bool (.lit false), .bool (.lit false), .int .u32 (.lit 0), .int .u32 (.lit 0), .int .u32 (.lit 0), .int .u32 (.lit 0)], none⟩
theorem ti39_ok : TiOk Tryd.prog 39 ti39 := ti_mk (i := Tryd.t39) (z := .agg #[.int .u32 0, .int .u32 0, .int .u32 0, .int .u32 0, .int .u32 0, .int .u32 0, .int .u32 0, .int .u32 0, .int .u32 0, .int .u32 0, .int .u32 0, .int .u32 0, .int .u32 0, .int .u32 0, .int .u32 0, .int .u32 0, .int .u32 0, .bool false, .bool false, .int .u32 0, .int .u32 0, .int .u32 0, .int .u32 0]) Tryd.underlying39 ⟨_, rfl, (by kernel_rfl), fun f hf => by
    simp only [List.mem_cons, List.not_mem_nil, or_false] at hf
    rcases hf with rfl | rfl | rfl | rfl | rfl | rfl | rfl | rfl
    · exact ⟨Tryd.t37, by kernel_rfl, by kernel_rfl, Nat.le_of_ble_eq_true (by kernel_rfl)⟩
    · exact ⟨Tryd.t25, by kernel_rfl, by kernel_rfl, Nat.le_of_ble_eq_true (by kernel_rfl)⟩
    · exact ⟨Tryd.t4, by kernel_rfl, by kernel_rfl, Nat.le_of_ble_eq_true (by kernel_rfl)⟩
    · exact ⟨Tryd.t4, by kernel_rfl, by kernel_rfl, Nat.le_of_ble_eq_true (by kernel_rfl)⟩
    · exact ⟨Tryd.t25, by kernel_rfl, by kernel_rfl, Nat.le_of_ble_eq_true (by kernel_rfl)⟩
    · exact ⟨Tryd.t25, by kernel_rfl, by kernel_rfl, Nat.le_of_ble_eq_true (by kernel_rfl)⟩
    · exact ⟨Tryd.t25, by kernel_rfl, by kernel_rfl, Nat.le_of_ble_eq_true (by kernel_rfl)⟩
    · exact ⟨Tryd.t25, by kernel_rfl, by kernel_rfl, Nat.le_of_ble_eq_true (by kernel_rfl)⟩⟩ (by kernel_rfl) (by kernel_rfl) (by kernel_rfl) (by kernel_rfl)
def ti40 : TI := ⟨.slice 43, 1, 24, .nilslice, none⟩
theorem ti40_ok : TiOk Tryd.prog 40 ti40 := ti_mk (i := Tryd.t40) (z := .slice none 0 0) Tryd.underlying40 rfl (by kernel_rfl) (by kernel_rfl) (by kernel_rfl) (by kernel_rfl)
def ti41 : TI := ⟨.func, 1, 8, .nilFunc, none⟩
theorem ti41_ok : TiOk Tryd.prog 41 ti41 := ti_mk (i := Tryd.t41) (z := .nilFunc) Tryd.underlying41 ⟨_, _, _, rfl⟩ (by kernel_rfl) (by kernel_rfl) (by kernel_rfl) (by kernel_rfl)
def ti42 : TI := ⟨.struct [(0, 3, 1), (1, 25, 1), (2, 25, 1)], 3, 16, .agg [.int .i64 (.lit 0), .int .u32 (.lit 0), .int .u32 (.lit 0)], some (.flat (.int .i64) [.int .u32, .int .u32])⟩
theorem ti42_ok : TiOk Tryd.prog 42 ti42 := ti_mk (i := Tryd.t42) (z := .agg #[.int .i64 0, .int .u32 0, .int .u32 0]) Tryd.underlying42 ⟨_, rfl, (by kernel_rfl), fun f hf => by
    simp only [List.mem_cons, List.not_mem_nil, or_false] at hf
    rcases hf with rfl | rfl | rfl
    · exact ⟨Tryd.t3, by kernel_rfl, by kernel_rfl, Nat.le_of_ble_eq_true (by kernel_rfl)⟩
    · exact ⟨Tryd.t25, by kernel_rfl, by kernel_rfl, Nat.le_of_ble_eq_true (by kernel_rfl)⟩
    · exact ⟨Tryd.t25, by kernel_rfl, by kernel_rfl, Nat.le_of_ble_eq_true (by kernel_rfl)⟩⟩ (by kernel_rfl) (by kernel_rfl) (by kernel_rfl) (by kernel_rfl)
def ti43 : TI := ⟨.struct [(0, 3, 1), (1, 25, 1), (2, 25, 1)], 3, 16, .agg [.int .i64 (.lit 0), .int .u32 (.lit 0), .int .u32 (.lit 0)], some (.flat (.int .i64) [.int .u32, .int .u32])⟩
theorem ti43_ok : TiOk Tryd.prog 43 ti43 := ti_mk (i := Tryd.t43) (z := .agg #[.int .i64 0, .int .u32 0, .int .u32 0]) Tryd.underlying43 ⟨_, rfl, (by kernel_rfl), fun f hf => by
    simp only [List.mem_cons, List.not_mem_nil, or_false] at hf
    rcases hf with rfl | rfl | rfl
    · exact ⟨Tryd.t3, by kernel_rfl, by kernel_rfl, Nat.le_of_ble_eq_true (by kernel_rfl)⟩
    · exact ⟨Tryd.t25, by kernel_rfl, by kernel_rfl, Nat.le_of_ble_eq_true (by kernel_rfl)⟩
    · exact ⟨Tryd.t25, by kernel_rfl, by kernel_rfl, Nat.le_of_ble_eq_true (by kernel_rfl)⟩⟩ (by kernel_rfl) (by kernel_rfl) (by kernel_rfl) (by kernel_rfl)
def ti44 : TI := ⟨.func, 1, 8, .nilFunc, none⟩
theorem ti44_ok : TiOk Tryd.prog 44 ti44 := ti_mk (i := Tryd.t44) (z := .nilFunc) Tryd.underlying44 ⟨_, _, _, rfl⟩ (by kernel_rfl) (by kernel_rfl) (by kernel_rfl) (by kernel_rfl)
def ti45 : TI := ⟨.int .u64, 1, 8, .int .u64 (.lit 0), none⟩
theorem ti45_ok : TiOk Tryd.prog 45 ti45 := ti_mk (i := Tryd.t45) (z := .int .u64 0) Tryd.underlying45 rfl (by kernel_rfl) (by kernel_rfl) (by kernel_rfl) (by kernel_rfl)
def ti46 : TI := ⟨.func, 1, 8, .nilFunc, none⟩
theorem ti46_ok : TiOk Tryd.prog 46 ti46 := ti_mk (i := Tryd.t46) (z := .nilFunc) Tryd.underlying46 ⟨_, _, _, rfl⟩ (by kernel_rfl) (by kernel_rfl) (by kernel_rfl) (by kernel_rfl)
def ti48 : TI := ⟨.func, 1, 8, .nilFunc, none⟩
theorem ti48_ok : TiOk Tryd.prog 48 ti48 := ti_mk (i := Tryd.t48) (z := .nilFunc) Tryd.underlying48 ⟨_, _, _, rfl⟩ (by kernel_rfl) (by kernel_rfl) (by kernel_rfl) (by kernel_rfl)
def ti49 : TI := ⟨.func, 1, 8, .nilFunc, none⟩
theorem ti49_ok : TiOk Tryd.prog 49 ti49 := ti_mk (i := Tryd.t49) (z := .nilFunc) Tryd.underlying49 ⟨_, _, _, rfl⟩ (by kernel_rfl) (by kernel_rfl) (by kernel_rfl) (by kernel_rfl)
def ti50 : TI := ⟨.func, 1, 8, .nilFunc, none⟩
theorem ti50_ok : TiOk Tryd.prog 50 ti50 := ti_mk (i := Tryd.t50) (z := .nilFunc) Tryd.underlying50 ⟨_, _, _, rfl⟩ (by kernel_rfl) (by kernel_rfl) (by kernel_rfl) (by kernel_rfl)
def ti51 : TI := ⟨.func, 1, 8, .nilFunc, none⟩
theorem ti51_ok : TiOk Tryd.prog 51 ti51 := ti_mk (i := Tryd.t51) (z := .nilFunc) Tryd.underlying51 ⟨_, _, _, rfl⟩ (by kernel_rfl) (by kernel_rfl) (by kernel_rfl) (by kernel_rfl)
def ti52 : TI := ⟨.func, 1, 8, .nilFunc, none⟩
theorem ti52_ok : TiOk Tryd.prog 52 ti52 := ti_mk (i := Tryd.t52) (z := .nilFunc) Tryd.underlying52 ⟨_, _, _, rfl⟩ (by kernel_rfl) (by kernel_rfl) (by kernel_rfl) (by kernel_rfl)
def ti53 : TI := ⟨.func, 1, 8, .nilFunc, none⟩
theorem ti53_ok : TiOk Tryd.prog 53 ti53 := ti_mk (i := Tryd.t53) (z := .nilFunc) Tryd.underlying53 ⟨_, _, _, rfl⟩ (by kernel_rfl) (by kernel_rfl) (by kernel_rfl) (by kernel_rfl)
def ti54 : TI := ⟨.slice 24, 1, 24, .nilslice, none⟩
theorem ti54_ok : TiOk Tryd.prog 54 ti54 := ti_mk (i := Tryd.t54) (z := .slice none 0 0) Tryd.underlying54 rfl (by kernel_rfl) (by kernel_rfl) (by kernel_rfl) (by kernel_rfl)
def ti55 : TI := ⟨.func, 1, 8, .nilFunc, none⟩
theorem ti55_ok : TiOk Tryd.prog 55 ti55 := ti_mk (i := Tryd.t55) (z := .nilFunc) Tryd.underlying55 ⟨_, _, _, rfl⟩ (by kernel_rfl) (by kernel_rfl) (by kernel_rfl) (by kernel_rfl)
def ti56 : TI := ⟨.func, 1, 8, .nilFunc, none⟩
theorem ti56_ok : TiOk Tryd.prog 56 ti56 := ti_mk (i := Tryd.t56) (z := .nilFunc) Tryd.underlying56 ⟨_, _, _, rfl⟩ (by kernel_rfl) (by kernel_rfl) (by kernel_rfl) (by kernel_rfl)
def ti57 : TI := ⟨.func, 1, 8, .nilFunc, none⟩
theorem ti57_ok : TiOk Tryd.prog 57 ti57 := ti_mk (i := Tryd.t57) (z := .nilFunc) Tryd.underlying57 ⟨_, _, _, rfl⟩ (by kernel_rfl) (by kernel_rfl) (by kernel_rfl) (by kernel_rfl)
def ti58 : TI := ⟨.func, 1, 8, .nilFunc, none⟩
theorem ti58_ok : TiOk Tryd.prog 58 ti58 := ti_mk (i := Tryd.t58) (z := .nilFunc) Tryd.underlying58 ⟨_, _, _, rfl⟩ (by kernel_rfl) (by kernel_rfl) (by kernel_rfl) (by kernel_rfl)
def ti59 : TI := ⟨.func, 1, 8, .nilFunc, none⟩
theorem ti59_ok : TiOk Tryd.prog 59 ti59 := ti_mk (i := Tryd.t59) (z := .nilFunc) Tryd.underlying59 ⟨_, _, _, rfl⟩ (by kernel_rfl) (by kernel_rfl) (by kernel_rfl) (by kernel_rfl)
def ti60 : TI := ⟨.func, 1, 8, .nilFunc, none⟩
theorem ti60_ok : TiOk Tryd.prog 60 ti60 := ti_mk (i := Tryd.t60) (z := .nilFunc) Tryd.underlying60 ⟨_, _, _, rfl⟩ (by kernel_rfl) (by kernel_rfl) (by kernel_rfl) (by kernel_rfl)
def ti61 : TI := ⟨.func, 1, 8, .nilFunc, none⟩
theorem ti61_ok : TiOk Tryd.prog 61 ti61 := ti_mk (i := Tryd.t61) (z := .nilFunc) Tryd.underlying61 ⟨_, _, _, rfl⟩ (by kernel_rfl) (by kernel_rfl) (by kernel_rfl) (by kernel_rfl)
def ti62 : TI := ⟨.func, 1, 8, .nilFunc, none⟩
theorem ti62_ok : TiOk Tryd.prog 62 ti62 := ti_mk (i := Tryd.t62) (z := .nilFunc) Tryd.underlying62 ⟨_, _, _, rfl⟩ (by kernel_rfl) (by kernel_rfl) (by kernel_rfl) (by kernel_rfl)
def ti63 : TI := ⟨.func, 1, 8, .nilFunc, none⟩
theorem ti63_ok : TiOk Tryd.prog 63 ti63 := ti_mk (i := Tryd.t63) (z := .nilFunc) Tryd.underlying63 ⟨_, _, _, rfl⟩ (by kernel_rfl) (by kernel_rfl) (by kernel_rfl) (by kernel_rfl)
def ti64 : TI := ⟨.func, 1, 8, .nilFunc, none⟩
theorem ti64_ok : TiOk Tryd.prog 64 ti64 := ti_mk (i := Tryd.t64) (z := .nilFunc) Tryd.underlying64 ⟨_, _, _, rfl⟩ (by kernel_rfl) (by kernel_rfl) (by kernel_rfl) (by kernel_rfl)
def ti66 : TI := ⟨.func, 1, 8, .nilFunc, none⟩
theorem ti66_ok : TiOk Tryd.prog 66 ti66 := ti_mk (i := Tryd.t66) (z := .nilFunc) Tryd.underlying66 ⟨_, _, _, rfl⟩ (by kernel_rfl) (by kernel_rfl) (by kernel_rfl) (by kernel_rfl)
def ti67 : TI := ⟨.func, 1, 8, .nilFunc, none⟩
theorem ti67_ok : TiOk Tryd.prog 67 ti67 := ti_mk (i := Tryd.t67) (z := .nilFunc) Tryd.underlying67 ⟨_, _, _, rfl⟩ (by kernel_rfl) (by kernel_rfl) (by kernel_rfl) (by kernel_rfl)
def ti68 : TI := ⟨.func, 1, 8, .nilFunc, none⟩
theorem ti68_ok : TiOk Tryd.prog 68 ti68 := ti_mk (i := Tryd.t68) (z := .nilFunc) Tryd.underlying68 ⟨_, _, _, rfl⟩ (by kernel_rfl) (by kernel_rfl) (by kernel_rfl) (by kernel_rfl)
def ti69 : TI := ⟨.func, 1, 8, .nilFunc, none⟩
theorem ti69_ok : TiOk Tryd.prog 69 ti69 := ti_mk (i := Tryd.t69) (z := .nilFunc) Tryd.underlying69 ⟨_, _, _, rfl⟩ (by kernel_rfl) (by kernel_rfl) (by kernel_rfl) (by kernel_rfl)
def ti70 : TI := ⟨.struct [(0, 3, 1), (1, 4, 1), (2, 4, 1), (3, 4, 1)], 4, 16, .agg [.int .i64 (.lit 0), .bool (.lit false), .bool (.lit false), .bool (.lit false)], some (.flat (.int .i64) [.bool, .bool, .bool])⟩
theorem ti70_ok : TiOk Tryd.prog 70 ti70 := ti_mk (i := Tryd.t70) (z := .agg #[.int .i64 0, .bool false, .bool false, .bool false]) Tryd.underlying70 ⟨_, rfl, (by kernel_rfl), fun f hf => by
    simp only [List.mem_cons, List.not_mem_nil, or_false] at hf
    rcases hf with rfl | rfl | rfl | rfl
    · exact ⟨Tryd.t3, by kernel_rfl, by kernel_rfl, Nat.le_of_ble_eq_true (by kernel_rfl)⟩
    · exact ⟨Tryd.t4, by kernel_rfl, by kernel_rfl, Nat.le_of_ble_eq_true (by kernel_rfl)⟩
    · exact ⟨Tryd.t4, by kernel_rfl, by kernel_rfl, Nat.le_of_ble_eq_true (by kernel_rfl)⟩
    · exact ⟨Tryd.t4, by kernel_rfl, by kernel_rfl, Nat.le_of_ble_eq_true (by kernel_rfl)⟩⟩ (by kernel_rfl) (by kernel_rfl) (by kernel_rfl) (by kernel_rfl)
def ti71 : TI := ⟨.struct [(0, 3, 1), (1, 4, 1), (2, 4, 1), (3, 4, 1)], 4, 16, .agg [.int .i64 (.lit 0), .bool (.lit false), .bool (.lit false), .bool (.lit false)], some (.flat (.int .i64) [.bool, .bool, .bool])⟩
theorem ti71_ok : TiOk Tryd.prog 71 ti71 := ti_mk (i := Tryd.t71) (z := .agg #[.int .i64 0, .bool false, .bool false, .bool false]) Tryd.underlying71 ⟨_, rfl, (by kernel_rfl), fun f hf => by
    simp only [List.mem_cons, List.not_mem_nil, or_false] at hf
    rcases hf with rfl | rfl | rfl | rfl
    · exact ⟨Tryd.t3, by kernel_rfl, by kernel_rfl, Nat.le_of_ble_eq_true (by kernel_rfl)⟩
    · exact ⟨Tryd.t4, by kernel_rfl, by kernel_rfl, Nat.le_of_ble_eq_true (by kernel_rfl)⟩
    · exact ⟨Tryd.t4, by kernel_rfl, by kernel_rfl, Nat.le_of_ble_eq_true (by kernel_rfl)⟩
    · exact ⟨Tryd.t4, by kernel_rfl, by kernel_rfl, Nat.le_of_ble_eq_true (by kernel_rfl)⟩⟩ (by kernel_rfl) (by kernel_rfl) (by kernel_rfl) (by kernel_rfl)
def ti72 : TI := ⟨.ptr 74, 1, 8, .nilptr, none⟩
theorem ti72_ok : TiOk Tryd.prog 72 ti72 := ti_mk (i := Tryd.t72) (z := .pointer none) Tryd.underlying72 rfl (by kernel_rfl) (by kernel_rfl) (by kernel_rfl) (by kernel_rfl)
def ti73 : TI := ⟨.struct [(0, 24, 1), (1, 36, 16), (17, 4, 1), (18, 2, 1), (19, 40, 1)], 20, 128, .agg [.nilslice, .arr .u32 16 (List.replicate 16 0), .bool (.lit false), .int .i64 (.lit 0), .nilslice], none⟩
theorem ti73_ok : TiOk Tryd.prog 73 ti73 := ti_mk (i := Tryd.t73) (z := .agg #[.slice none 0 0, .int .u32 0, .int .u32 0, .int .u32 0, .int .u32 0, .int .u32 0, .int .u32 0, .int .u32 0, .int .u32 0, .int .u32 0, .int .u32 0, .int .u32 0, .int .u32 0, .int .u32 0, .int .u32 0, .int .u32 0, .int .u32 0, .bool false, .int .i64 0, .slice none 0 0]) Tryd.underlying73 ⟨_, rfl, (by kernel_rfl), fun f hf => by
    simp only [List.mem_cons, List.not_mem_nil, or_false] at hf
    rcases hf with rfl | rfl | rfl | rfl | rfl
    · exact ⟨Tryd.t24, by kernel_rfl, by kernel_rfl, Nat.le_of_ble_eq_true (by kernel_rfl)⟩
    · exact ⟨Tryd.t36, by kernel_rfl, by kernel_rfl, Nat.le_of_ble_eq_true (by kernel_rfl)⟩
    · exact ⟨Tryd.t4, by kernel_rfl, by kernel_rfl, Nat.le_of_ble_eq_true (by kernel_rfl)⟩
    · exact ⟨Tryd.t2, by kernel_rfl, by kernel_rfl, Nat.le_of_ble_eq_true (by kernel_rfl)⟩
    · exact ⟨Tryd.t40, by kernel_rfl, by kernel_rfl, Nat.le_of_ble_eq_true (by kernel_rfl)⟩⟩ (by kernel_rfl) (by kernel_rfl) (by kernel_rfl) (by kernel_rfl)
def ti74 : TI := ⟨.struct [(0, 24, 1), (1, 36, 16), (17, 4, 1), (18, 2, 1), (19, 40, 1)], 20, 128, .agg [.nilslice, .arr .u32 16 (List.replicate 16 0), .bool (.lit false), .int .i64 (.lit 0), .nilslice], none⟩
theorem ti74_ok : TiOk Tryd.prog 74 ti74 := ti_mk (i := Tryd.t74) (z := .agg #[.slice none 0 0, .int .u32 0, .int .u32 0, .int .u32 0, .int .u32 0, .int .u32 0, .int .u32 0, .int .u32 0, .int .u32 0, .int .u32 0, .int .u32 0, .int .u32 0, .int .u32 0, .int .u32 0, .int .u32 0, .int .u32 0, .int .u32 0, .bool false, .int .i64 0, .slice none 0 0]) Tryd.underlying74 ⟨_, rfl, (by kernel_rfl), fun f hf => by
    simp only [List.mem_cons, List.not_mem_nil, or_false] at hf
    rcases hf with rfl | rfl | rfl | rfl | rfl
    · exact ⟨Tryd.t24, by kernel_rfl, by kernel_rfl, Nat.le_of_ble_eq_true (by kernel_rfl)⟩
    · exact ⟨Tryd.t36, by kernel_rfl, by kernel_rfl, Nat.le_of_ble_eq_true (by kernel_rfl)⟩
    · exact ⟨Tryd.t4, by kernel_rfl, by kernel_rfl, Nat.le_of_ble_eq_true (by kernel_rfl)⟩
    · exact ⟨Tryd.t2, by kernel_rfl, by kernel_rfl, Nat.le_of_ble_eq_true (by kernel_rfl)⟩
    · exact ⟨Tryd.t40, by kernel_rfl, by kernel_rfl, Nat.le_of_ble_eq_true (by kernel_rfl)⟩⟩ (by kernel_rfl) (by kernel_rfl) (by kernel_rfl) (by kernel_rfl)
def ti75 : TI := ⟨.slice 120, 1, 24, .nilslice, none⟩
theorem ti75_ok : TiOk Tryd.prog 75 ti75 := ti_mk (i := Tryd.t75) (z := .slice none 0 0) Tryd.underlying75 rfl (by kernel_rfl) (by kernel_rfl) (by kernel_rfl) (by kernel_rfl)
def ti76 : TI := ⟨.struct [(0, 27, 1), (1, 39, 23), (24, 72, 1), (25, 3, 1), (26, 2, 1), (27, 4, 1), (28, 75, 1)], 29, 152, .agg [.nilptr, .arr .u32 16 (List.replicate 16 0), .int .u32 (.lit 0), .bool (.lit false), .bool (.lit false), .int .u32 (.lit 0), .int .u32 (.lit 0), .int .u32 (.lit 0), .int .u32 (.lit 0), .nilptr, .int .i64 (.lit 0), .int .i64 (.lit 0), .bool (.lit false), .nilslice], none⟩
theorem ti76_ok : TiOk Tryd.prog 76 ti76 := ti_mk (i := Tryd.t76) (z := .agg #[.pointer none, .int .u32 0, .int .u32 0, .int .u32 0, .int .u32 0, .int .u32 0, .int .u32 0, .int .u32 0, .int .u32 0, .int .u32 0, .int .u32 0, .int .u32 0, .int .u32 0, .int .u32 0, .int .u32 0, .int .u32 0, .int .u32 0, .int .u32 0, .bool false, .bool false, .int .u32 0, .int .u32 0, .int .u32 0, .int .u32 0, .pointer none, .int .i64 0, .int .i64 0, .bool false, .slice none 0 0]) Tryd.underlying76 ⟨_, rfl, (by kernel_rfl), fun f hf => by
    simp only [List.mem_cons, List.not_mem_nil, or_false] at hf
    rcases hf with rfl | rfl | rfl | rfl | rfl | rfl | rfl
    · exact ⟨Tryd.t27, by kernel_rfl, by kernel_rfl, Nat.le_of_ble_eq_true (by kernel_rfl)⟩
    · exact ⟨Tryd.t39, by kernel_rfl, by kernel_rfl, Nat.le_of_ble_eq_true (by kernel_rfl)⟩
    · exact ⟨Tryd.t72, by kernel_rfl, by kernel_rfl, Nat.le_of_ble_eq_true (by kernel_rfl)⟩
    · exact ⟨Tryd.t3, by kernel_rfl, by kernel_rfl, Nat.le_of_ble_eq_true (by kernel_rfl)⟩
    · exact ⟨Tryd.t2, by kernel_rfl, by kernel_rfl, Nat.le_of_ble_eq_true (by kernel_rfl)⟩
    · exact ⟨Tryd.t4, by kernel_rfl, by kernel_rfl, Nat.le_of_ble_eq_true (by kernel_rfl)⟩
    · exact ⟨Tryd.t75, by kernel_rfl, by kernel_rfl, Nat.le_of_ble_eq_true (by kernel_rfl)⟩⟩ (by kernel_rfl) (by kernel_rfl) (by kernel_rfl) (by kernel_rfl)
def ti77 : TI := ⟨.struct [(0, 27, 1), (1, 39, 23), (24, 72, 1), (25, 3, 1), (26, 2, 1), (27, 4, 1), (28, 75, 1)], 29, 152, .agg [.nilptr, .arr .u32 16 (List.replicate 16 0), .int .u32 (.lit 0), .bool (.lit false), .bool (.lit false), .int .u32 (.lit 0), .int .u32 (.lit 0), .int .u32 (.lit 0), .int .u32 (.lit 0), .nilptr, .int .i64 (.lit 0), .int .i64 (.lit 0), .bool (.lit false), .nilslice], none⟩
theorem ti77_ok : TiOk Tryd.prog 77 ti77 := ti_mk (i := Tryd.t77) (z := .agg #[.pointer none, .int .u32 0, .int .u32 0, .int .u32 0, .int .u32 0, .int .u32 0, .int .u32 0, .int .u32 0, .int .u32 0, .int .u32 0, .int .u32 0, .int .u32 0, .int .u32 0, .int .u32 0, .int .u32 0, .int .u32 0, .int .u32 0, .int .u32 0, .bool false, .bool false, .int .u32 0, .int .u32 0, .int .u32 0, .int .u32 0, .pointer none, .int .i64 0, .int .i64 0, .bool false, .slice none 0 0]) Tryd.underlying77 ⟨_, rfl, (by kernel_rfl), fun f hf => by
    simp only [List.mem_cons, List.not_mem_nil, or_false] at hf
    rcases hf with rfl | rfl | rfl | rfl | rfl | rfl | rfl
    · exact ⟨Tryd.t27, by kernel_rfl, by kernel_rfl, Nat.le_of_ble_eq_true (by kernel_rfl)⟩
    · exact ⟨Tryd.t39, by kernel_rfl, by kernel_rfl, Nat.le_of_ble_eq_true (by kernel_rfl)⟩
    · exact ⟨Tryd.t72, by kernel_rfl, by kernel_rfl, Nat.le_of_ble_eq_true (by kernel_rfl)⟩
    · exact ⟨Tryd.t3, by kernel_rfl, by kernel_rfl, Nat.le_of_ble_eq_true (by kernel_rfl)⟩
    · exact ⟨Tryd.t2, by kernel_rfl, by kernel_rfl, Nat.le_of_ble_eq_true (by kernel_rfl)⟩
    · exact ⟨Tryd.t4, by kernel_rfl, by kernel_rfl, Nat.le_of_ble_eq_true (by kernel_rfl)⟩
    · exact ⟨Tryd.t75, by kernel_rfl, by kernel_rfl, Nat.le_of_ble_eq_true (by kernel_rfl)⟩⟩ (by kernel_rfl) (by kernel_rfl) (by kernel_rfl) (by kernel_rfl)
def ti78 : TI := ⟨.func, 1, 8, .nilFunc, none⟩
theorem ti78_ok : TiOk Tryd.prog 78 ti78 := ti_mk (i := Tryd.t78) (z := .nilFunc) Tryd.underlying78 ⟨_, _, _, rfl⟩ (by kernel_rfl) (by kernel_rfl) (by kernel_rfl) (by kernel_rfl)
def ti79 : TI := ⟨.struct [(0, 3, 1), (1, 3, 1), (2, 3, 1), (3, 3, 1), (4, 25, 1)], 5, 40, .agg [.int .i64 (.lit 0), .int .i64 (.lit 0), .int .i64 (.lit 0), .int .i64 (.lit 0), .int .u32 (.lit 0)], some (.flat (.int .i64) [.int .i64, .int .i64, .int .i64, .int .u32])⟩
theorem ti79_ok : TiOk Tryd.prog 79 ti79 := ti_mk (i := Tryd.t79) (z := .agg #[.int .i64 0, .int .i64 0, .int .i64 0, .int .i64 0, .int .u32 0]) Tryd.underlying79 ⟨_, rfl, (by kernel_rfl), fun f hf => by
    simp only [List.mem_cons, List.not_mem_nil, or_false] at hf
    rcases hf with rfl | rfl | rfl | rfl | rfl
    · exact ⟨Tryd.t3, by kernel_rfl, by kernel_rfl, Nat.le_of_ble_eq_true (by kernel_rfl)⟩
    · exact ⟨Tryd.t3, by kernel_rfl, by kernel_rfl, Nat.le_of_ble_eq_true (by kernel_rfl)⟩
    · exact ⟨Tryd.t3, by kernel_rfl, by kernel_rfl, Nat.le_of_ble_eq_true (by kernel_rfl)⟩
    · exact ⟨Tryd.t3, by kernel_rfl, by kernel_rfl, Nat.le_of_ble_eq_true (by kernel_rfl)⟩
    · exact ⟨Tryd.t25, by kernel_rfl, by kernel_rfl, Nat.le_of_ble_eq_true (by kernel_rfl)⟩⟩ (by kernel_rfl) (by kernel_rfl) (by kernel_rfl) (by kernel_rfl)
def ti80 : TI := ⟨.struct [(0, 3, 1), (1, 3, 1), (2, 3, 1), (3, 3, 1), (4, 25, 1)], 5, 40, .agg [.int .i64 (.lit 0), .int .i64 (.lit 0), .int .i64 (.lit 0), .int .i64 (.lit 0), .int .u32 (.lit 0)], some (.instr)⟩
theorem ti80_ok : TiOk Tryd.prog 80 ti80 := ti_mk (i := Tryd.t80) (z := .agg #[.int .i64 0, .int .i64 0, .int .i64 0, .int .i64 0, .int .u32 0]) Tryd.underlying80 ⟨_, rfl, (by kernel_rfl), fun f hf => by
    simp only [List.mem_cons, List.not_mem_nil, or_false] at hf
    rcases hf with rfl | rfl | rfl | rfl | rfl
    · exact ⟨Tryd.t3, by kernel_rfl, by kernel_rfl, Nat.le_of_ble_eq_true (by kernel_rfl)⟩
    · exact ⟨Tryd.t3, by kernel_rfl, by kernel_rfl, Nat.le_of_ble_eq_true (by kernel_rfl)⟩
    · exact ⟨Tryd.t3, by kernel_rfl, by kernel_rfl, Nat.le_of_ble_eq_true (by kernel_rfl)⟩
    · exact ⟨Tryd.t3, by kernel_rfl, by kernel_rfl, Nat.le_of_ble_eq_true (by kernel_rfl)⟩
    · exact ⟨Tryd.t25, by kernel_rfl, by kernel_rfl, Nat.le_of_ble_eq_true (by kernel_rfl)⟩⟩ (by kernel_rfl) (by kernel_rfl) (by kernel_rfl) (by kernel_rfl)
def ti81 : TI := ⟨.struct [(0, 3, 1), (1, 25, 1), (2, 80, 5), (7, 25, 1)], 8, 64, .agg [.int .i64 (.lit 0), .int .u32 (.lit 0), .int .i64 (.lit 0), .int .i64 (.lit 0), .int .i64 (.lit 0), .int .i64 (.lit 0), .int .u32 (.lit 0), .int .u32 (.lit 0)], none⟩
theorem ti81_ok : TiOk Tryd.prog 81 ti81 := ti_mk (i := Tryd.t81) (z := .agg #[.int .i64 0, .int .u32 0, .int .i64 0, .int .i64 0, .int .i64 0, .int .i64 0, .int .u32 0, .int .u32 0]) Tryd.underlying81 ⟨_, rfl, (by kernel_rfl), fun f hf => by
    simp only [List.mem_cons, List.not_mem_nil, or_false] at hf
    rcases hf with rfl | rfl | rfl | rfl
    · exact ⟨Tryd.t3, by kernel_rfl, by kernel_rfl, Nat.le_of_ble_eq_true (by kernel_rfl)⟩
    · exact ⟨Tryd.t25, by kernel_rfl, by kernel_rfl, Nat.le_of_ble_eq_true (by kernel_rfl)⟩
    · exact ⟨Tryd.t80, by kernel_rfl, by kernel_rfl, Nat.le_of_ble_eq_true (by kernel_rfl)⟩
    · exact ⟨Tryd.t25, by kernel_rfl, by kernel_rfl, Nat.le_of_ble_eq_true (by kernel_rfl)⟩⟩ (by kernel_rfl) (by kernel_rfl) (by kernel_rfl) (by kernel_rfl)
def ti82 : TI := ⟨.struct [(0, 3, 1), (1, 25, 1), (2, 80, 5), (7, 25, 1)], 8, 64, .agg [.int .i64 (.lit 0), .int .u32 (.lit 0), .int .i64 (.lit 0), .int .i64 (.lit 0), .int .i64 (.lit 0), .int .i64 (.lit 0), .int .u32 (.lit 0), .int .u32 (.lit 0)], none⟩
theorem ti82_ok : TiOk Tryd.prog 82 ti82 := ti_mk (i := Tryd.t82) (z := .agg #[.int .i64 0, .int .u32 0, .int .i64 0, .int .i64 0, .int .i64 0, .int .i64 0, .int .u32 0, .int .u32 0]) Tryd.underlying82 ⟨_, rfl, (by kernel_rfl), fun f hf => by
    simp only [List.mem_cons, List.not_mem_nil, or_false] at hf
    rcases hf with rfl | rfl | rfl | rfl
    · exact ⟨Tryd.t3, by kernel_rfl, by kernel_rfl, Nat.le_of_ble_eq_true (by kernel_rfl)⟩
    · exact ⟨Tryd.t25, by kernel_rfl, by kernel_rfl, Nat.le_of_ble_eq_true (by kernel_rfl)⟩
    · exact ⟨Tryd.t80, by kernel_rfl, by kernel_rfl, Nat.le_of_ble_eq_true (by kernel_rfl)⟩
    · exact ⟨Tryd.t25, by kernel_rfl, by kernel_rfl, Nat.le_of_ble_eq_true (by kernel_rfl)⟩⟩ (by kernel_rfl) (by kernel_rfl) (by kernel_rfl) (by kernel_rfl)
def ti84 : TI := ⟨.func, 1, 8, .nilFunc, none⟩
theorem ti84_ok : TiOk Tryd.prog 84 ti84 := ti_mk (i := Tryd.t84) (z := .nilFunc) Tryd.underlying84 ⟨_, _, _, rfl⟩ (by kernel_rfl) (by kernel_rfl) (by kernel_rfl) (by kernel_rfl)
def ti85 : TI := ⟨.func, 1, 8, .nilFunc, none⟩
theorem ti85_ok : TiOk Tryd.prog 85 ti85 := ti_mk (i := Tryd.t85) (z := .nilFunc) Tryd.underlying85 ⟨_, _, _, rfl⟩ (by kernel_rfl) (by kernel_rfl) (by kernel_rfl) (by kernel_rfl)
def ti86 : TI := ⟨.struct [(0, 24, 1)], 1, 24, .agg [.nilslice], none⟩
theorem ti86_ok : TiOk Tryd.prog 86 ti86 := ti_mk (i := Tryd.t86) (z := .agg #[.slice none 0 0]) Tryd.underlying86 ⟨_, rfl, (by kernel_rfl), fun f hf => by
    simp only [List.mem_cons, List.not_mem_nil, or_false] at hf
    subst hf
    · exact ⟨Tryd.t24, by kernel_rfl, by kernel_rfl, Nat.le_of_ble_eq_true (by kernel_rfl)⟩⟩ (by kernel_rfl) (by kernel_rfl) (by kernel_rfl) (by kernel_rfl)
def ti87 : TI := ⟨.struct [(0, 24, 1)], 1, 24, .agg [.nilslice], none⟩
theorem ti87_ok : TiOk Tryd.prog 87 ti87 := ti_mk (i := Tryd.t87) (z := .agg #[.slice none 0 0]) Tryd.underlying87 ⟨_, rfl, (by kernel_rfl), fun f hf => by
    simp only [List.mem_cons, List.not_mem_nil, or_false] at hf
    subst hf
    · exact ⟨Tryd.t24, by kernel_rfl, by kernel_rfl, Nat.le_of_ble_eq_true (by kernel_rfl)⟩⟩ (by kernel_rfl) (by kernel_rfl) (by kernel_rfl) (by kernel_rfl)
def ti88 : TI := ⟨.func, 1, 8, .nilFunc, none⟩
theorem ti88_ok : TiOk Tryd.prog 88 ti88 := ti_mk (i := Tryd.t88) (z := .nilFunc) Tryd.underlying88 ⟨_, _, _, rfl⟩ (by kernel_rfl) (by kernel_rfl) (by kernel_rfl) (by kernel_rfl)
def ti89 : TI := ⟨.func, 1, 8, .nilFunc, none⟩
theorem ti89_ok : TiOk Tryd.prog 89 ti89 := ti_mk (i := Tryd.t89) (z := .nilFunc) Tryd.underlying89 ⟨_, _, _, rfl⟩ (by kernel_rfl) (by kernel_rfl) (by kernel_rfl) (by kernel_rfl)
def ti90 : TI := ⟨.func, 1, 8, .nilFunc, none⟩
theorem ti90_ok : TiOk Tryd.prog 90 ti90 := ti_mk (i := Tryd.t90) (z := .nilFunc) Tryd.underlying90 ⟨_, _, _, rfl⟩ (by kernel_rfl) (by kernel_rfl) (by kernel_rfl) (by kernel_rfl)
def ti91 : TI := ⟨.struct [(0, 24, 1)], 1, 24, .agg [.nilslice], none⟩
theorem ti91_ok : TiOk Tryd.prog 91 ti91 := ti_mk (i := Tryd.t91) (z := .agg #[.slice none 0 0]) Tryd.underlying91 ⟨_, rfl, (by kernel_rfl), fun f hf => by
    simp only [List.mem_cons, List.not_mem_nil, or_false] at hf
    subst hf
    · exact ⟨Tryd.t24, by kernel_rfl, by kernel_rfl, Nat.le_of_ble_eq_true (by kernel_rfl)⟩⟩ (by kernel_rfl) (by kernel_rfl) (by kernel_rfl) (by kernel_rfl)
def ti92 : TI := ⟨.struct [(0, 24, 1)], 1, 24, .agg [.nilslice], none⟩
theorem ti92_ok : TiOk Tryd.prog 92 ti92 := ti_mk (i := Tryd.t92) (z := .agg #[.slice none 0 0]) Tryd.underlying92 ⟨_, rfl, (by kernel_rfl), fun f hf => by
    simp only [List.mem_cons, List.not_mem_nil, or_false] at hf
    subst hf
    · exact ⟨Tryd.t24, by kernel_rfl, by kernel_rfl, Nat.le_of_ble_eq_true (by kernel_rfl)⟩⟩ (by kernel_rfl) (by kernel_rfl) (by kernel_rfl) (by kernel_rfl)
def ti93 : TI := ⟨.func, 1, 8, .nilFunc, none⟩
theorem ti93_ok : TiOk Tryd.prog 93 ti93 := ti_mk (i := Tryd.t93) (z := .nilFunc) Tryd.underlying93 ⟨_, _, _, rfl⟩ (by kernel_rfl) (by kernel_rfl) (by kernel_rfl) (by kernel_rfl)
def ti94 : TI := ⟨.func, 1, 8, .nilFunc, none⟩
theorem ti94_ok : TiOk Tryd.prog 94 ti94 := ti_mk (i := Tryd.t94) (z := .nilFunc) Tryd.underlying94 ⟨_, _, _, rfl⟩ (by kernel_rfl) (by kernel_rfl) (by kernel_rfl) (by kernel_rfl)
def ti96 : TI := ⟨.func, 1, 8, .nilFunc, none⟩
theorem ti96_ok : TiOk Tryd.prog 96 ti96 := ti_mk (i := Tryd.t96) (z := .nilFunc) Tryd.underlying96 ⟨_, _, _, rfl⟩ (by kernel_rfl) (by kernel_rfl) (by kernel_rfl) (by kernel_rfl)
def ti98 : TI := ⟨.func, 1, 8, .nilFunc, none⟩
theorem ti98_ok : TiOk Tryd.prog 98 ti98 := ti_mk (i := Tryd.t98) (z := .nilFunc) Tryd.underlying98 ⟨_, _, _, rfl⟩ (by kernel_rfl) (by kernel_rfl) (by kernel_rfl) (by kernel_rfl)
def ti99 : TI := ⟨.func, 1, 8, .nilFunc, none⟩
theorem ti99_ok : TiOk Tryd.prog 99 ti99 := ti_mk (i := Tryd.t99) (z := .nilFunc) Tryd.underlying99 ⟨_, _, _, rfl⟩ (by kernel_rfl) (by kernel_rfl) (by kernel_rfl) (by kernel_rfl)
def ti100 : TI := ⟨.struct [], 0, 0, .agg [], none⟩
theorem ti100_ok : TiOk Tryd.prog 100 ti100 := ti_mk (i := Tryd.t100) (z := .agg #[]) Tryd.underlying100 ⟨_, rfl, (by kernel_rfl), fun f hf => by
    simp at hf⟩ (by kernel_rfl) (by kernel_rfl) (by kernel_rfl) (by kernel_rfl)
def ti101 : TI := ⟨.struct [], 0, 0, .agg [], none⟩
theorem ti101_ok : TiOk Tryd.prog 101 ti101 := ti_mk (i := Tryd.t101) (z := .agg #[]) Tryd.underlying101 ⟨_, rfl, (by kernel_rfl), fun f hf => by
    simp at hf⟩ (by kernel_rfl) (by kernel_rfl) (by kernel_rfl) (by kernel_rfl)
def ti102 : TI := ⟨.func, 1, 8, .nilFunc, none⟩
theorem ti102_ok : TiOk Tryd.prog 102 ti102 := ti_mk (i := Tryd.t102) (z := .nilFunc) Tryd.underlying102 ⟨_, _, _, rfl⟩ (by kernel_rfl) (by kernel_rfl) (by kernel_rfl) (by kernel_rfl)
def ti103 : TI := ⟨.func, 1, 8, .nilFunc, none⟩
theorem ti103_ok : TiOk Tryd.prog 103 ti103 := ti_mk (i := Tryd.t103) (z := .nilFunc) Tryd.underlying103 ⟨_, _, _, rfl⟩ (by kernel_rfl) (by kernel_rfl) (by kernel_rfl) (by kernel_rfl)
def ti104 : TI := ⟨.func, 1, 8, .nilFunc, none⟩
theorem ti104_ok : TiOk Tryd.prog 104 ti104 := ti_mk (i := Tryd.t104) (z := .nilFunc) Tryd.underlying104 ⟨_, _, _, rfl⟩ (by kernel_rfl) (by kernel_rfl) (by kernel_rfl) (by kernel_rfl)
def ti105 : TI := ⟨.func, 1, 8, .nilFunc, none⟩
theorem ti105_ok : TiOk Tryd.prog 105 ti105 := ti_mk (i := Tryd.t105) (z := .nilFunc) Tryd.underlying105 ⟨_, _, _, rfl⟩ (by kernel_rfl) (by kernel_rfl) (by kernel_rfl) (by kernel_rfl)
def ti106 : TI := ⟨.func, 1, 8, .nilFunc, none⟩
theorem ti106_ok : TiOk Tryd.prog 106 ti106 := ti_mk (i := Tryd.t106) (z := .nilFunc) Tryd.underlying106 ⟨_, _, _, rfl⟩ (by kernel_rfl) (by kernel_rfl) (by kernel_rfl) (by kernel_rfl)
def ti107 : TI := ⟨.func, 1, 8, .nilFunc, none⟩
theorem ti107_ok : TiOk Tryd.prog 107 ti107 := ti_mk (i := Tryd.t107) (z := .nilFunc) Tryd.underlying107 ⟨_, _, _, rfl⟩ (by kernel_rfl) (by kernel_rfl) (by kernel_rfl) (by kernel_rfl)
def ti109 : TI := ⟨.func, 1, 8, .nilFunc, none⟩
theorem ti109_ok : TiOk Tryd.prog 109 ti109 := ti_mk (i := Tryd.t109) (z := .nilFunc) Tryd.underlying109 ⟨_, _, _, rfl⟩ (by kernel_rfl) (by kernel_rfl) (by kernel_rfl) (by kernel_rfl)
def ti110 : TI := ⟨.func, 1, 8, .nilFunc, none⟩
theorem ti110_ok : TiOk Tryd.prog 110 ti110 := ti_mk (i := Tryd.t110) (z := .nilFunc) Tryd.underlying110 ⟨_, _, _, rfl⟩ (by kernel_rfl) (by kernel_rfl) (by kernel_rfl) (by kernel_rfl)
def ti112 : TI := ⟨.func, 1, 8, .nilFunc, none⟩
theorem ti112_ok : TiOk Tryd.prog 112 ti112 := ti_mk (i := Tryd.t112) (z := .nilFunc) Tryd.underlying112 ⟨_, _, _, rfl⟩ (by kernel_rfl) (by kernel_rfl) (by kernel_rfl) (by kernel_rfl)
def ti114 : TI := ⟨.func, 1, 8, .nilFunc, none⟩
theorem ti114_ok : TiOk Tryd.prog 114 ti114 := ti_mk (i := Tryd.t114) (z := .nilFunc) Tryd.underlying114 ⟨_, _, _, rfl⟩ (by kernel_rfl) (by kernel_rfl) (by kernel_rfl) (by kernel_rfl)
def ti115 : TI := ⟨.func, 1, 8, .nilFunc, none⟩
theorem ti115_ok : TiOk Tryd.prog 115 ti115 := ti_mk (i := Tryd.t115) (z := .nilFunc) Tryd.underlying115 ⟨_, _, _, rfl⟩ (by kernel_rfl) (by kernel_rfl) (by kernel_rfl) (by kernel_rfl)
def ti117 : TI := ⟨.func, 1, 8, .nilFunc, none⟩
theorem ti117_ok : TiOk Tryd.prog 117 ti117 := ti_mk (i := Tryd.t117) (z := .nilFunc) Tryd.underlying117 ⟨_, _, _, rfl⟩ (by kernel_rfl) (by kernel_rfl) (by kernel_rfl) (by kernel_rfl)
def ti118 : TI := ⟨.func, 1, 8, .nilFunc, none⟩
theorem ti118_ok : TiOk Tryd.prog 118 ti118 := ti_mk (i := Tryd.t118) (z := .nilFunc) Tryd.underlying118 ⟨_, _, _, rfl⟩ (by kernel_rfl) (by kernel_rfl) (by kernel_rfl) (by kernel_rfl)
def ti119 : TI := ⟨.struct [(0, 3, 1), (1, 25, 1)], 2, 16, .agg [.int .i64 (.lit 0), .int .u32 (.lit 0)], some (.flat (.int .i64) [.int .u32])⟩
theorem ti119_ok : TiOk Tryd.prog 119 ti119 := ti_mk (i := Tryd.t119) (z := .agg #[.int .i64 0, .int .u32 0]) Tryd.underlying119 ⟨_, rfl, (by kernel_rfl), fun f hf => by
    simp only [List.mem_cons, List.not_mem_nil, or_false] at hf
    rcases hf with rfl | rfl
    · exact ⟨Tryd.t3, by kernel_rfl, by kernel_rfl, Nat.le_of_ble_eq_true (by kernel_rfl)⟩
    · exact ⟨Tryd.t25, by kernel_rfl, by kernel_rfl, Nat.le_of_ble_eq_true (by kernel_rfl)⟩⟩ (by kernel_rfl) (by kernel_rfl) (by kernel_rfl) (by kernel_rfl)
def ti120 : TI := ⟨.struct [(0, 3, 1), (1, 25, 1)], 2, 16, .agg [.int .i64 (.lit 0), .int .u32 (.lit 0)], some (.flat (.int .i64) [.int .u32])⟩
theorem ti120_ok : TiOk Tryd.prog 120 ti120 := ti_mk (i := Tryd.t120) (z := .agg #[.int .i64 0, .int .u32 0]) Tryd.underlying120 ⟨_, rfl, (by kernel_rfl), fun f hf => by
    simp only [List.mem_cons, List.not_mem_nil, or_false] at hf
    rcases hf with rfl | rfl
    · exact ⟨Tryd.t3, by kernel_rfl, by kernel_rfl, Nat.le_of_ble_eq_true (by kernel_rfl)⟩
    · exact ⟨Tryd.t25, by kernel_rfl, by kernel_rfl, Nat.le_of_ble_eq_true (by kernel_rfl)⟩⟩ (by kernel_rfl) (by kernel_rfl) (by kernel_rfl) (by kernel_rfl)
def ti122 : TI := ⟨.func, 1, 8, .nilFunc, none⟩
theorem ti122_ok : TiOk Tryd.prog 122 ti122 := ti_mk (i := Tryd.t122) (z := .nilFunc) Tryd.underlying122 ⟨_, _, _, rfl⟩ (by kernel_rfl) (by kernel_rfl) (by kernel_rfl) (by kernel_rfl)
def ti123 : TI := ⟨.func, 1, 8, .nilFunc, none⟩
theorem ti123_ok : TiOk Tryd.prog 123 ti123 := ti_mk (i := Tryd.t123) (z := .nilFunc) Tryd.underlying123 ⟨_, _, _, rfl⟩ (by kernel_rfl) (by kernel_rfl) (by kernel_rfl) (by kernel_rfl)
def ti124 : TI := ⟨.func, 1, 8, .nilFunc, none⟩
theorem ti124_ok : TiOk Tryd.prog 124 ti124 := ti_mk (i := Tryd.t124) (z := .nilFunc) Tryd.underlying124 ⟨_, _, _, rfl⟩ (by kernel_rfl) (by kernel_rfl) (by kernel_rfl) (by kernel_rfl)
def ti125 : TI := ⟨.func, 1, 8, .nilFunc, none⟩
theorem ti125_ok : TiOk Tryd.prog 125 ti125 := ti_mk (i := Tryd.t125) (z := .nilFunc) Tryd.underlying125 ⟨_, _, _, rfl⟩ (by kernel_rfl) (by kernel_rfl) (by kernel_rfl) (by kernel_rfl)
def ti126 : TI := ⟨.func, 1, 8, .nilFunc, none⟩
theorem ti126_ok : TiOk Tryd.prog 126 ti126 := ti_mk (i := Tryd.t126) (z := .nilFunc) Tryd.underlying126 ⟨_, _, _, rfl⟩ (by kernel_rfl) (by kernel_rfl) (by kernel_rfl) (by kernel_rfl)
def ti127 : TI := ⟨.func, 1, 8, .nilFunc, none⟩
theorem ti127_ok : TiOk Tryd.prog 127 ti127 := ti_mk (i := Tryd.t127) (z := .nilFunc) Tryd.underlying127 ⟨_, _, _, rfl⟩ (by kernel_rfl) (by kernel_rfl) (by kernel_rfl) (by kernel_rfl)
def ti128 : TI := ⟨.func, 1, 8, .nilFunc, none⟩
theorem ti128_ok : TiOk Tryd.prog 128 ti128 := ti_mk (i := Tryd.t128) (z := .nilFunc) Tryd.underlying128 ⟨_, _, _, rfl⟩ (by kernel_rfl) (by kernel_rfl) (by kernel_rfl) (by kernel_rfl)
def ti129 : TI := ⟨.struct [(0, 25, 1), (1, 25, 1)], 2, 8, .agg [.int .u32 (.lit 0), .int .u32 (.lit 0)], some (.flat (.int .u32) [.int .u32])⟩
theorem ti129_ok : TiOk Tryd.prog 129 ti129 := ti_mk (i := Tryd.t129) (z := .agg #[.int .u32 0, .int .u32 0]) Tryd.underlying129 ⟨_, rfl, (by kernel_rfl), fun f hf => by
    simp only [List.mem_cons, List.not_mem_nil, or_false] at hf
    rcases hf with rfl | rfl
    · exact ⟨Tryd.t25, by kernel_rfl, by kernel_rfl, Nat.le_of_ble_eq_true (by kernel_rfl)⟩
    · exact ⟨Tryd.t25, by kernel_rfl, by kernel_rfl, Nat.le_of_ble_eq_true (by kernel_rfl)⟩⟩ (by kernel_rfl) (by kernel_rfl) (by kernel_rfl) (by kernel_rfl)
def ti130 : TI := ⟨.struct [(0, 25, 1), (1, 25, 1)], 2, 8, .agg [.int .u32 (.lit 0), .int .u32 (.lit 0)], some (.flat (.int .u32) [.int .u32])⟩
theorem ti130_ok : TiOk Tryd.prog 130 ti130 := ti_mk (i := Tryd.t130) (z := .agg #[.int .u32 0, .int .u32 0]) Tryd.underlying130 ⟨_, rfl, (by kernel_rfl), fun f hf => by
    simp only [List.mem_cons, List.not_mem_nil, or_false] at hf
    rcases hf with rfl | rfl
    · exact ⟨Tryd.t25, by kernel_rfl, by kernel_rfl, Nat.le_of_ble_eq_true (by kernel_rfl)⟩
    · exact ⟨Tryd.t25, by kernel_rfl, by kernel_rfl, Nat.le_of_ble_eq_true (by kernel_rfl)⟩⟩ (by kernel_rfl) (by kernel_rfl) (by kernel_rfl) (by kernel_rfl)
def ti131 : TI := ⟨.func, 1, 8, .nilFunc, none⟩
theorem ti131_ok : TiOk Tryd.prog 131 ti131 := ti_mk (i := Tryd.t131) (z := .nilFunc) Tryd.underlying131 ⟨_, _, _, rfl⟩ (by kernel_rfl) (by kernel_rfl) (by kernel_rfl) (by kernel_rfl)
def ti132 : TI := ⟨.func, 1, 8, .nilFunc, none⟩
theorem ti132_ok : TiOk Tryd.prog 132 ti132 := ti_mk (i := Tryd.t132) (z := .nilFunc) Tryd.underlying132 ⟨_, _, _, rfl⟩ (by kernel_rfl) (by kernel_rfl) (by kernel_rfl) (by kernel_rfl)
def ti133 : TI := ⟨.func, 1, 8, .nilFunc, none⟩
theorem ti133_ok : TiOk Tryd.prog 133 ti133 := ti_mk (i := Tryd.t133) (z := .nilFunc) Tryd.underlying133 ⟨_, _, _, rfl⟩ (by kernel_rfl) (by kernel_rfl) (by kernel_rfl) (by kernel_rfl)
def ti134 : TI := ⟨.func, 1, 8, .nilFunc, none⟩
theorem ti134_ok : TiOk Tryd.prog 134 ti134 := ti_mk (i := Tryd.t134) (z := .nilFunc) Tryd.underlying134 ⟨_, _, _, rfl⟩ (by kernel_rfl) (by kernel_rfl) (by kernel_rfl) (by kernel_rfl)
def ti136 : TI := ⟨.func, 1, 8, .nilFunc, none⟩
theorem ti136_ok : TiOk Tryd.prog 136 ti136 := ti_mk (i := Tryd.t136) (z := .nilFunc) Tryd.underlying136 ⟨_, _, _, rfl⟩ (by kernel_rfl) (by kernel_rfl) (by kernel_rfl) (by kernel_rfl)
def ti137 : TI := ⟨.func, 1, 8, .nilFunc, none⟩
theorem ti137_ok : TiOk Tryd.prog 137 ti137 := ti_mk (i := Tryd.t137) (z := .nilFunc) Tryd.underlying137 ⟨_, _, _, rfl⟩ (by kernel_rfl) (by kernel_rfl) (by kernel_rfl) (by kernel_rfl)
def ti138 : TI := ⟨.func, 1, 8, .nilFunc, none⟩
theorem ti138_ok : TiOk Tryd.prog 138 ti138 := ti_mk (i := Tryd.t138) (z := .nilFunc) Tryd.underlying138 ⟨_, _, _, rfl⟩ (by kernel_rfl) (by kernel_rfl) (by kernel_rfl) (by kernel_rfl)
def ti139 : TI := ⟨.int .i8, 1, 1, .int .i8 (.lit 0), none⟩
theorem ti139_ok : TiOk Tryd.prog 139 ti139 := ti_mk (i := Tryd.t139) (z := .int .i8 0) Tryd.underlying139 rfl (by kernel_rfl) (by kernel_rfl) (by kernel_rfl) (by kernel_rfl)
def ti140 : TI := ⟨.slice 128, 1, 24, .nilslice, none⟩
theorem ti140_ok : TiOk Tryd.prog 140 ti140 := ti_mk (i := Tryd.t140) (z := .slice none 0 0) Tryd.underlying140 rfl (by kernel_rfl) (by kernel_rfl) (by kernel_rfl) (by kernel_rfl)
def ti141 : TI := ⟨.slice 4, 1, 24, .nilslice, none⟩
theorem ti141_ok : TiOk Tryd.prog 141 ti141 := ti_mk (i := Tryd.t141) (z := .slice none 0 0) Tryd.underlying141 rfl (by kernel_rfl) (by kernel_rfl) (by kernel_rfl) (by kernel_rfl)
def ti143 : TI := ⟨.func, 1, 8, .nilFunc, none⟩
theorem ti143_ok : TiOk Tryd.prog 143 ti143 := ti_mk (i := Tryd.t143) (z := .nilFunc) Tryd.underlying143 ⟨_, _, _, rfl⟩ (by kernel_rfl) (by kernel_rfl) (by kernel_rfl) (by kernel_rfl)
def ti151 : TI := ⟨.func, 1, 8, .nilFunc, none⟩
theorem ti151_ok : TiOk Tryd.prog 151 ti151 := ti_mk (i := Tryd.t151) (z := .nilFunc) Tryd.underlying151 ⟨_, _, _, rfl⟩ (by kernel_rfl) (by kernel_rfl) (by kernel_rfl) (by kernel_rfl)
def ti152 : TI := ⟨.ptr 5, 1, 8, .nilptr, none⟩
theorem ti152_ok : TiOk Tryd.prog 152 ti152 := ti_mk (i := Tryd.t152) (z := .pointer none) Tryd.underlying152 rfl (by kernel_rfl) (by kernel_rfl) (by kernel_rfl) (by kernel_rfl)
def ti157 : TI := ⟨.struct [(0, 9, 1)], 1, 16, .agg [.str ByteArray.empty], some (.flat (.str) [])⟩
theorem ti157_ok : TiOk Tryd.prog 157 ti157 := ti_mk (i := Tryd.t157) (z := .agg #[.string ByteArray.empty]) Tryd.underlying157 ⟨_, rfl, (by kernel_rfl), fun f hf => by
    simp only [List.mem_cons, List.not_mem_nil, or_false] at hf
    subst hf
    · exact ⟨Tryd.t9, by kernel_rfl, by kernel_rfl, Nat.le_of_ble_eq_true (by kernel_rfl)⟩⟩ (by kernel_rfl) (by kernel_rfl) (by kernel_rfl) (by kernel_rfl)
def ti160 : TI := ⟨.func, 1, 8, .nilFunc, none⟩
theorem ti160_ok : TiOk Tryd.prog 160 ti160 := ti_mk (i := Tryd.t160) (z := .nilFunc) Tryd.underlying160 ⟨_, _, _, rfl⟩ (by kernel_rfl) (by kernel_rfl) (by kernel_rfl) (by kernel_rfl)
def tab : List (Nat × TI) := [(1, ti1), (2, ti2), (3, ti3), (4, ti4), (5, ti5), (9, ti9), (12, ti12), (13, ti13), (19, ti19), (20, ti20), (21, ti21), (22, ti22), (23, ti23), (24, ti24), (25, ti25), (26, ti26), (27, ti27), (28, ti28), (30, ti30), (31, ti31), (32, ti32), (33, ti33), (35, ti35), (36, ti36), (37, ti37), (38, ti38), (39, ti39), (40, ti40), (41, ti41), (42, ti42), (43, ti43), (44, ti44), (45, ti45), (46, ti46), (48, ti48), (49, ti49), (50, ti50), (51, ti51), (52, ti52), (53, ti53), (54, ti54), (55, ti55), (56, ti56), (57, ti57), (58, ti58), (59, ti59), (60, ti60), (61, ti61), (62, ti62), (63, ti63), (64, ti64), (66, ti66), (67, ti67), (68, ti68), (69, ti69), (70, ti70), (71, ti71), (72, ti72), (73, ti73), (74, ti74), (75, ti75), (76, ti76), (77, ti77), (78, ti78), (79, ti79), (80, ti80), (81, ti81), (82, ti82), (84, ti84), (85, ti85), (86, ti86), (87, ti87), (88, ti88), (89, ti89), (90, ti90), (91, ti91), (92, ti92), (93, ti93), (94, ti94), (96, ti96), (98, ti98), (99, ti99), (100, ti100), (101, ti101), (102, ti102), (103, ti103), (104, ti104), (105, ti105), (106, ti106), (107, ti107), (109, ti109), (110, ti110), (112, ti112), (114, ti114), (115, ti115), (117, ti117), (118, ti118), (119, ti119), (120, ti120), (122, ti122), (123, ti123), (124, ti124), (125, ti125), (126, ti126), (127, ti127), (128, ti128), (129, ti129), (130, ti130), (131, ti131), (132, ti132), (133, ti133), (134, ti134), (136, ti136), (137, ti137), (138, ti138), (139, ti139), (140, ti140), (141, ti141), (143, ti143), (151, ti151), (152, ti152), (157, ti157), (160, ti160)]
theorem tab_ok : ∀ t ti, find t tab = some ti → TiOk Tryd.prog t ti := by
  intro t ti h
  have h := find_mem h
  simp only [tab, List.mem_cons, Prod.mk.injEq, List.not_mem_nil, or_false] at h
  rcases h with ⟨rfl, rfl⟩ | ⟨rfl, rfl⟩ | ⟨rfl, rfl⟩ | ⟨rfl, rfl⟩ | ⟨rfl, rfl⟩ | ⟨rfl, rfl⟩ | ⟨rfl, rfl⟩ | ⟨rfl, rfl⟩ | ⟨rfl, rfl⟩ | ⟨rfl, rfl⟩ | ⟨rfl, rfl⟩ | ⟨rfl, rfl⟩ | ⟨rfl, rfl⟩ | ⟨rfl, rfl⟩ | ⟨rfl, rfl⟩ | ⟨rfl, rfl⟩ | ⟨rfl, rfl⟩ | ⟨rfl, rfl⟩ | ⟨rfl, rfl⟩ | ⟨rfl, rfl⟩ | ⟨rfl, rfl⟩ | ⟨rfl, rfl⟩ | ⟨rfl, rfl⟩ | ⟨rfl, rfl⟩ | ⟨rfl, rfl⟩ | ⟨rfl, rfl⟩ | ⟨rfl, rfl⟩ | ⟨rfl, rfl⟩ | ⟨rfl, rfl⟩ | ⟨rfl, rfl⟩ | ⟨rfl, rfl⟩ | ⟨rfl, rfl⟩ | ⟨rfl, rfl⟩ | ⟨rfl, rfl⟩ | ⟨rfl, rfl⟩ | ⟨rfl, rfl⟩ | ⟨rfl, rfl⟩ | ⟨rfl, rfl⟩ | ⟨rfl, rfl⟩ | ⟨rfl, rfl⟩ | ⟨rfl, rfl⟩ | ⟨rfl, rfl⟩ | ⟨rfl, rfl⟩ | ⟨rfl, rfl⟩ | ⟨rfl, rfl⟩ | ⟨rfl, rfl⟩ | ⟨rfl, rfl⟩ | ⟨rfl, rfl⟩ | ⟨rfl, rfl⟩ | ⟨rfl, rfl⟩ | ⟨rfl, rfl⟩ | ⟨rfl, rfl⟩ | ⟨rfl, rfl⟩ | ⟨rfl, rfl⟩ | ⟨rfl, rfl⟩ | ⟨rfl, rfl⟩ | ⟨rfl, rfl⟩ | ⟨rfl, rfl⟩ | ⟨rfl, rfl⟩ | ⟨rfl, rfl⟩ | ⟨rfl, rfl⟩ | ⟨rfl, rfl⟩ | ⟨rfl, rfl⟩ | ⟨rfl, rfl⟩ | ⟨rfl, rfl⟩ | ⟨rfl, rfl⟩ | ⟨rfl, rfl⟩ | ⟨rfl, rfl⟩ | ⟨rfl, rfl⟩ | ⟨rfl, rfl⟩ | ⟨rfl, rfl⟩ | ⟨rfl, rfl⟩ | ⟨rfl, rfl⟩ | ⟨rfl, rfl⟩ | ⟨rfl, rfl⟩ | ⟨rfl, rfl⟩ | ⟨rfl, rfl⟩ | ⟨rfl, rfl⟩ | ⟨rfl, rfl⟩ | ⟨rfl, rfl⟩ | ⟨rfl, rfl⟩ | ⟨rfl, rfl⟩ | ⟨rfl, rfl⟩ | ⟨rfl, rfl⟩ | ⟨rfl, rfl⟩ | ⟨rfl, rfl⟩ | ⟨rfl, rfl⟩ | ⟨rfl, rfl⟩ | ⟨rfl, rfl⟩ | ⟨rfl, rfl⟩ | ⟨rfl, rfl⟩ | ⟨rfl, rfl⟩ | ⟨rfl, rfl⟩ | ⟨rfl, rfl⟩ | ⟨rfl, rfl⟩ | ⟨rfl, rfl⟩ | ⟨rfl, rfl⟩ | ⟨rfl, rfl⟩ | ⟨rfl, rfl⟩ | ⟨rfl, rfl⟩ | ⟨rfl, rfl⟩ | ⟨rfl, rfl⟩ | ⟨rfl, rfl⟩ | ⟨rfl, rfl⟩ | ⟨rfl, rfl⟩ | ⟨rfl, rfl⟩ | ⟨rfl, rfl⟩ | ⟨rfl, rfl⟩ | ⟨rfl, rfl⟩ | ⟨rfl, rfl⟩ | ⟨rfl, rfl⟩ | ⟨rfl, rfl⟩ | ⟨rfl, rfl⟩ | ⟨rfl, rfl⟩ | ⟨rfl, rfl⟩ | ⟨rfl, rfl⟩ | ⟨rfl, rfl⟩ | ⟨rfl, rfl⟩ | ⟨rfl, rfl⟩ | ⟨rfl, rfl⟩ | ⟨rfl, rfl⟩ | ⟨rfl, rfl⟩ | ⟨rfl, rfl⟩
  · exact ti1_ok
  · exact ti2_ok
  · exact ti3_ok
  · exact ti4_ok
  · exact ti5_ok
  · exact ti9_ok
  · exact ti12_ok
  · exact ti13_ok
  · exact ti19_ok
  · exact ti20_ok
  · exact ti21_ok
  · exact ti22_ok
  · exact ti23_ok
  · exact ti24_ok
  · exact ti25_ok
  · exact ti26_ok
  · exact ti27_ok
  · exact ti28_ok
  · exact ti30_ok
  · exact ti31_ok
  · exact ti32_ok
  · exact ti33_ok
  · exact ti35_ok
  · exact ti36_ok
  · exact ti37_ok
  · exact ti38_ok
  · exact ti39_ok
  · exact ti40_ok
  · exact ti41_ok
  · exact ti42_ok
  · exact ti43_ok
  · exact ti44_ok
  · exact ti45_ok
  · exact ti46_ok
  · exact ti48_ok
  · exact ti49_ok
  · exact ti50_ok
  · exact ti51_ok
  · exact ti52_ok
  · exact ti53_ok
  · exact ti54_ok
  · exact ti55_ok
  · exact ti56_ok
  · exact ti57_ok
  · exact ti58_ok
  · exact ti59_ok
  · exact ti60_ok
  · exact ti61_ok
  · exact ti62_ok
  · exact ti63_ok
  · exact ti64_ok
  · exact ti66_ok
  · exact ti67_ok
  · exact ti68_ok
  · exact ti69_ok
  · exact ti70_ok
  · exact ti71_ok
  · exact ti72_ok
  · exact ti73_ok
  · exact ti74_ok
  · exact ti75_ok
  · exact ti76_ok
  · exact ti77_ok
  · exact ti78_ok
  · exact ti79_ok
  · exact ti80_ok
  · exact ti81_ok
  · exact ti82_ok
  · exact ti84_ok
  · exact ti85_ok
  · exact ti86_ok
  · exact ti87_ok
  · exact ti88_ok
  · exact ti89_ok
  · exact ti90_ok
  · exact ti91_ok
  · exact ti92_ok
  · exact ti93_ok
  · exact ti94_ok
  · exact ti96_ok
  · exact ti98_ok
  · exact ti99_ok
  · exact ti100_ok
  · exact ti101_ok
  · exact ti102_ok
  · exact ti103_ok
  · exact ti104_ok
  · exact ti105_ok
  · exact ti106_ok
  · exact ti107_ok
  · exact ti109_ok
  · exact ti110_ok
  · exact ti112_ok
  · exact ti114_ok
  · exact ti115_ok
  · exact ti117_ok
  · exact ti118_ok
  · exact ti119_ok
  · exact ti120_ok
  · exact ti122_ok
  · exact ti123_ok
  · exact ti124_ok
  · exact ti125_ok
  · exact ti126_ok
  · exact ti127_ok
  · exact ti128_ok
  · exact ti129_ok
  · exact ti130_ok
  · exact ti131_ok
  · exact ti132_ok
  · exact ti133_ok
  · exact ti134_ok
  · exact ti136_ok
  · exact ti137_ok
  · exact ti138_ok
  · exact ti139_ok
  · exact ti140_ok
  · exact ti141_ok
  · exact ti143_ok
  · exact ti151_ok
  · exact ti152_ok
  · exact ti157_ok
  · exact ti160_ok
end Go.Proofs.YtpjccdncokamlaaDoor

