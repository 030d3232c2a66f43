/- Contracts that the proofs use. -/
import Derived.Test.YtceebkojjmmjmaaDoorQSyTi
import Derived.Test.YtceebkojjmmjmaaDoorRows
set_option linter.unusedVariables false
set_option linter.unusedSimpArgs false
namespace Go.Proofs.YtceebkojjmmjmaaDoor
open Go.RowKit Go.Sy
def ti1 : TI := ⟨.func, 1, 8, .nilFunc, none⟩
theorem ti1_ok : TiOk Tryd.prog 1 ti1 := ti_mk (i := Tryd.t1) (z := .nilFunc) Tryd.underlying1 ⟨_, _, _, rfl⟩ (by kernel_rfl) (by kernel_rfl) (by kernel_rfl) (by kernel_rfl)
def ti2 : TI := ⟨.int .i64, 1, 8, .int .i64 (.lit 0), none⟩
theorem ti2_ok : TiOk Tryd.prog 2 ti2 := ti_mk (i := Tryd.t2) (z := .int .i64 0) Tryd.underlying2 rfl (by kernel_rfl) (by kernel_rfl) (by kernel_rfl) (by kernel_rfl)
def ti3 : TI := ⟨.int .i64, 1, 8, .int .i64 (.lit 0), some .i64⟩
theorem ti3_ok : TiOk Tryd.prog 3 ti3 := ti_mk (i := Tryd.t3) (z := .int .i64 0) Tryd.underlying3 rfl (by kernel_rfl) (by kernel_rfl) (by kernel_rfl) (by kernel_rfl)
def ti4 : TI := ⟨.bool, 1, 1, .bool (.lit false), some .bool⟩
theorem ti4_ok : TiOk Tryd.prog 4 ti4 := ti_mk (i := Tryd.t4) (z := .bool false) Tryd.underlying4 rfl (by kernel_rfl) (by kernel_rfl) (by kernel_rfl) (by kernel_rfl)
def ti5 : TI := ⟨.int .u8, 1, 1, .int .u8 (.lit 0), some .u8⟩
theorem ti5_ok : TiOk Tryd.prog 5 ti5 := ti_mk (i := Tryd.t5) (z := .int .u8 0) Tryd.underlying5 rfl (by kernel_rfl) (by kernel_rfl) (by kernel_rfl) (by kernel_rfl)
def ti9 : TI := ⟨.str, 1, 16, .str ByteArray.empty, some .str⟩
theorem ti9_ok : TiOk Tryd.prog 9 ti9 := ti_mk (i := Tryd.t9) (z := .string ByteArray.empty) Tryd.underlying9 rfl (by kernel_rfl) (by kernel_rfl) (by kernel_rfl) (by kernel_rfl)
def ti12 : TI := ⟨.int .u64, 1, 8, .int .u64 (.lit 0), none⟩
theorem ti12_ok : TiOk Tryd.prog 12 ti12 := ti_mk (i := Tryd.t12) (z := .int .u64 0) Tryd.underlying12 rfl (by kernel_rfl) (by kernel_rfl) (by kernel_rfl) (by kernel_rfl)
def ti13 : TI := ⟨.struct [(0, 9, 1), (1, 12, 1)], 2, 24, .agg [.str ByteArray.empty, .int .u64 (.lit 0)], none⟩
theorem ti13_ok : TiOk Tryd.prog 13 ti13 := ti_mk (i := Tryd.t13) (z := .agg #[.string ByteArray.empty, .int .u64 0]) Tryd.underlying13 ⟨_, rfl, (by kernel_rfl), fun f hf => by
    simp only [List.mem_cons, List.not_mem_nil, or_false] at hf
    rcases hf with rfl | rfl
    · exact ⟨Tryd.t9, by kernel_rfl, by kernel_rfl, Nat.le_of_ble_eq_true (by kernel_rfl)⟩
    · exact ⟨Tryd.t12, by kernel_rfl, by kernel_rfl, Nat.le_of_ble_eq_true (by kernel_rfl)⟩⟩ (by kernel_rfl) (by kernel_rfl) (by kernel_rfl) (by kernel_rfl)
def ti19 : TI := ⟨.struct [(0, 17, 1)], 1, 8, .agg [.nilptr], none⟩
theorem ti19_ok : TiOk Tryd.prog 19 ti19 := ti_mk (i := Tryd.t19) (z := .agg #[.pointer none]) Tryd.underlying19 ⟨_, rfl, (by kernel_rfl), fun f hf => by
    simp only [List.mem_cons, List.not_mem_nil, or_false] at hf
    subst hf
    · exact ⟨Tryd.t17, by kernel_rfl, by kernel_rfl, Nat.le_of_ble_eq_true (by kernel_rfl)⟩⟩ (by kernel_rfl) (by kernel_rfl) (by kernel_rfl) (by kernel_rfl)
def ti20 : TI := ⟨.iface, 1, 16, .nilIface, none⟩
theorem ti20_ok : TiOk Tryd.prog 20 ti20 := ti_mk (i := Tryd.t20) (z := .nilIface) Tryd.underlying20 ⟨_, rfl⟩ (by kernel_rfl) (by kernel_rfl) (by kernel_rfl) (by kernel_rfl)
def ti21 : TI := ⟨.int .i32, 1, 4, .int .i32 (.lit 0), none⟩
theorem ti21_ok : TiOk Tryd.prog 21 ti21 := ti_mk (i := Tryd.t21) (z := .int .i32 0) Tryd.underlying21 rfl (by kernel_rfl) (by kernel_rfl) (by kernel_rfl) (by kernel_rfl)
def ti22 : TI := ⟨.int .u32, 1, 4, .int .u32 (.lit 0), some .u32⟩
theorem ti22_ok : TiOk Tryd.prog 22 ti22 := ti_mk (i := Tryd.t22) (z := .int .u32 0) Tryd.underlying22 rfl (by kernel_rfl) (by kernel_rfl) (by kernel_rfl) (by kernel_rfl)
def ti23 : TI := ⟨.struct [(0, 3, 1), (1, 3, 1), (2, 3, 1), (3, 3, 1), (4, 22, 1)], 5, 40, .agg [.int .i64 (.lit 0), .int .i64 (.lit 0), .int .i64 (.lit 0), .int .i64 (.lit 0), .int .u32 (.lit 0)], none⟩
theorem ti23_ok : TiOk Tryd.prog 23 ti23 := ti_mk (i := Tryd.t23) (z := .agg #[.int .i64 0, .int .i64 0, .int .i64 0, .int .i64 0, .int .u32 0]) Tryd.underlying23 ⟨_, rfl, (by kernel_rfl), fun f hf => by
    simp only [List.mem_cons, List.not_mem_nil, or_false] at hf
    rcases hf with rfl | rfl | rfl | rfl | rfl
    · exact ⟨Tryd.t3, by kernel_rfl, by kernel_rfl, Nat.le_of_ble_eq_true (by kernel_rfl)⟩
    · exact ⟨Tryd.t3, by kernel_rfl, by kernel_rfl, Nat.le_of_ble_eq_true (by kernel_rfl)⟩
    · exact ⟨Tryd.t3, by kernel_rfl, by kernel_rfl, Nat.le_of_ble_eq_true (by kernel_rfl)⟩
    · exact ⟨Tryd.t3, by kernel_rfl, by kernel_rfl, Nat.le_of_ble_eq_true (by kernel_rfl)⟩
    · exact ⟨Tryd.t22, by kernel_rfl, by kernel_rfl, Nat.le_of_ble_eq_true (by kernel_rfl)⟩⟩ (by kernel_rfl) (by kernel_rfl) (by kernel_rfl) (by kernel_rfl)
def ti24 : TI := ⟨.struct [(0, 3, 1), (1, 3, 1), (2, 3, 1), (3, 3, 1), (4, 22, 1)], 5, 40, .agg [.int .i64 (.lit 0), .int .i64 (.lit 0), .int .i64 (.lit 0), .int .i64 (.lit 0), .int .u32 (.lit 0)], some .instr⟩
theorem ti24_ok : TiOk Tryd.prog 24 ti24 := ti_mk (i := Tryd.t24) (z := .agg #[.int .i64 0, .int .i64 0, .int .i64 0, .int .i64 0, .int .u32 0]) Tryd.underlying24 ⟨_, rfl, (by kernel_rfl), fun f hf => by
    simp only [List.mem_cons, List.not_mem_nil, or_false] at hf
    rcases hf with rfl | rfl | rfl | rfl | rfl
    · exact ⟨Tryd.t3, by kernel_rfl, by kernel_rfl, Nat.le_of_ble_eq_true (by kernel_rfl)⟩
    · exact ⟨Tryd.t3, by kernel_rfl, by kernel_rfl, Nat.le_of_ble_eq_true (by kernel_rfl)⟩
    · exact ⟨Tryd.t3, by kernel_rfl, by kernel_rfl, Nat.le_of_ble_eq_true (by kernel_rfl)⟩
    · exact ⟨Tryd.t3, by kernel_rfl, by kernel_rfl, Nat.le_of_ble_eq_true (by kernel_rfl)⟩
    · exact ⟨Tryd.t22, by kernel_rfl, by kernel_rfl, Nat.le_of_ble_eq_true (by kernel_rfl)⟩⟩ (by kernel_rfl) (by kernel_rfl) (by kernel_rfl) (by kernel_rfl)
def ti25 : TI := ⟨.func, 1, 8, .nilFunc, none⟩
theorem ti25_ok : TiOk Tryd.prog 25 ti25 := ti_mk (i := Tryd.t25) (z := .nilFunc) Tryd.underlying25 ⟨_, _, _, rfl⟩ (by kernel_rfl) (by kernel_rfl) (by kernel_rfl) (by kernel_rfl)
def ti27 : TI := ⟨.func, 1, 8, .nilFunc, none⟩
theorem ti27_ok : TiOk Tryd.prog 27 ti27 := ti_mk (i := Tryd.t27) (z := .nilFunc) Tryd.underlying27 ⟨_, _, _, rfl⟩ (by kernel_rfl) (by kernel_rfl) (by kernel_rfl) (by kernel_rfl)
def ti29 : TI := ⟨.func, 1, 8, .nilFunc, none⟩
theorem ti29_ok : TiOk Tryd.prog 29 ti29 := ti_mk (i := Tryd.t29) (z := .nilFunc) Tryd.underlying29 ⟨_, _, _, rfl⟩ (by kernel_rfl) (by kernel_rfl) (by kernel_rfl) (by kernel_rfl)
def ti30 : TI := ⟨.func, 1, 8, .nilFunc, none⟩
theorem ti30_ok : TiOk Tryd.prog 30 ti30 := ti_mk (i := Tryd.t30) (z := .nilFunc) Tryd.underlying30 ⟨_, _, _, rfl⟩ (by kernel_rfl) (by kernel_rfl) (by kernel_rfl) (by kernel_rfl)
def ti31 : TI := ⟨.func, 1, 8, .nilFunc, none⟩
theorem ti31_ok : TiOk Tryd.prog 31 ti31 := ti_mk (i := Tryd.t31) (z := .nilFunc) Tryd.underlying31 ⟨_, _, _, rfl⟩ (by kernel_rfl) (by kernel_rfl) (by kernel_rfl) (by kernel_rfl)
def ti32 : TI := ⟨.struct [], 0, 0, .agg [], none⟩
theorem ti32_ok : TiOk Tryd.prog 32 ti32 := ti_mk (i := Tryd.t32) (z := .agg #[]) Tryd.underlying32 ⟨_, rfl, (by kernel_rfl), fun f hf => by
    simp at hf⟩ (by kernel_rfl) (by kernel_rfl) (by kernel_rfl) (by kernel_rfl)
def ti33 : TI := ⟨.struct [], 0, 0, .agg [], none⟩
theorem ti33_ok : TiOk Tryd.prog 33 ti33 := ti_mk (i := Tryd.t33) (z := .agg #[]) Tryd.underlying33 ⟨_, rfl, (by kernel_rfl), fun f hf => by
    simp at hf⟩ (by kernel_rfl) (by kernel_rfl) (by kernel_rfl) (by kernel_rfl)
def ti34 : TI := ⟨.func, 1, 8, .nilFunc, none⟩
theorem ti34_ok : TiOk Tryd.prog 34 ti34 := ti_mk (i := Tryd.t34) (z := .nilFunc) Tryd.underlying34 ⟨_, _, _, rfl⟩ (by kernel_rfl) (by kernel_rfl) (by kernel_rfl) (by kernel_rfl)
def ti35 : TI := ⟨.func, 1, 8, .nilFunc, none⟩
theorem ti35_ok : TiOk Tryd.prog 35 ti35 := ti_mk (i := Tryd.t35) (z := .nilFunc) Tryd.underlying35 ⟨_, _, _, rfl⟩ (by kernel_rfl) (by kernel_rfl) (by kernel_rfl) (by kernel_rfl)
def ti36 : TI := ⟨.func, 1, 8, .nilFunc, none⟩
theorem ti36_ok : TiOk Tryd.prog 36 ti36 := ti_mk (i := Tryd.t36) (z := .nilFunc) Tryd.underlying36 ⟨_, _, _, rfl⟩ (by kernel_rfl) (by kernel_rfl) (by kernel_rfl) (by kernel_rfl)
def ti37 : TI := ⟨.func, 1, 8, .nilFunc, none⟩
theorem ti37_ok : TiOk Tryd.prog 37 ti37 := ti_mk (i := Tryd.t37) (z := .nilFunc) Tryd.underlying37 ⟨_, _, _, rfl⟩ (by kernel_rfl) (by kernel_rfl) (by kernel_rfl) (by kernel_rfl)
def ti38 : TI := ⟨.slice 22, 1, 24, .nilslice, none⟩
theorem ti38_ok : TiOk Tryd.prog 38 ti38 := ti_mk (i := Tryd.t38) (z := .slice none 0 0) Tryd.underlying38 rfl (by kernel_rfl) (by kernel_rfl) (by kernel_rfl) (by kernel_rfl)
def ti39 : TI := ⟨.slice 5, 1, 24, .nilslice, none⟩
theorem ti39_ok : TiOk Tryd.prog 39 ti39 := ti_mk (i := Tryd.t39) (z := .slice none 0 0) Tryd.underlying39 rfl (by kernel_rfl) (by kernel_rfl) (by kernel_rfl) (by kernel_rfl)
def ti40 : TI := ⟨.slice 118, 1, 24, .nilslice, none⟩
theorem ti40_ok : TiOk Tryd.prog 40 ti40 := ti_mk (i := Tryd.t40) (z := .slice none 0 0) Tryd.underlying40 rfl (by kernel_rfl) (by kernel_rfl) (by kernel_rfl) (by kernel_rfl)
def ti41 : TI := ⟨.slice 65, 1, 24, .nilslice, none⟩
theorem ti41_ok : TiOk Tryd.prog 41 ti41 := ti_mk (i := Tryd.t41) (z := .slice none 0 0) Tryd.underlying41 rfl (by kernel_rfl) (by kernel_rfl) (by kernel_rfl) (by kernel_rfl)
def ti42 : TI := ⟨.struct [(0, 38, 1), (1, 38, 1), (2, 39, 1), (3, 40, 1), (4, 40, 1), (5, 41, 1)], 6, 144, .agg [.nilslice, .nilslice, .nilslice, .nilslice, .nilslice, .nilslice], none⟩
theorem ti42_ok : TiOk Tryd.prog 42 ti42 := ti_mk (i := Tryd.t42) (z := .agg #[.slice none 0 0, .slice none 0 0, .slice none 0 0, .slice none 0 0, .slice none 0 0, .slice none 0 0]) Tryd.underlying42 ⟨_, rfl, (by kernel_rfl), fun f hf => by
    simp only [List.mem_cons, List.not_mem_nil, or_false] at hf
    rcases hf with rfl | rfl | rfl | rfl | rfl | rfl
    · exact ⟨Tryd.t38, by kernel_rfl, by kernel_rfl, Nat.le_of_ble_eq_true (by kernel_rfl)⟩
    · exact ⟨Tryd.t38, by kernel_rfl, by kernel_rfl, Nat.le_of_ble_eq_true (by kernel_rfl)⟩
    · exact ⟨Tryd.t39, by kernel_rfl, by kernel_rfl, Nat.le_of_ble_eq_true (by kernel_rfl)⟩
    · exact ⟨Tryd.t40, by kernel_rfl, by kernel_rfl, Nat.le_of_ble_eq_true (by kernel_rfl)⟩
    · exact ⟨Tryd.t40, by kernel_rfl, by kernel_rfl, Nat.le_of_ble_eq_true (by kernel_rfl)⟩
    · exact ⟨Tryd.t41, by kernel_rfl, by kernel_rfl, Nat.le_of_ble_eq_true (by kernel_rfl)⟩⟩ (by kernel_rfl) (by kernel_rfl) (by kernel_rfl) (by kernel_rfl)
def ti43 : TI := ⟨.struct [(0, 38, 1), (1, 38, 1), (2, 39, 1), (3, 40, 1), (4, 40, 1), (5, 41, 1)], 6, 144, .agg [.nilslice, .nilslice, .nilslice, .nilslice, .nilslice, .nilslice], none⟩
theorem ti43_ok : TiOk Tryd.prog 43 ti43 := ti_mk (i := Tryd.t43) (z := .agg #[.slice none 0 0, .slice none 0 0, .slice none 0 0, .slice none 0 0, .slice none 0 0, .slice none 0 0]) Tryd.underlying43 ⟨_, rfl, (by kernel_rfl), fun f hf => by
    simp only [List.mem_cons, List.not_mem_nil, or_false] at hf
    rcases hf with rfl | rfl | rfl | rfl | rfl | rfl
    · exact ⟨Tryd.t38, by kernel_rfl, by kernel_rfl, Nat.le_of_ble_eq_true (by kernel_rfl)⟩
    · exact ⟨Tryd.t38, by kernel_rfl, by kernel_rfl, Nat.le_of_ble_eq_true (by kernel_rfl)⟩
    · exact ⟨Tryd.t39, by kernel_rfl, by kernel_rfl, Nat.le_of_ble_eq_true (by kernel_rfl)⟩
    · exact ⟨Tryd.t40, by kernel_rfl, by kernel_rfl, Nat.le_of_ble_eq_true (by kernel_rfl)⟩
    · exact ⟨Tryd.t40, by kernel_rfl, by kernel_rfl, Nat.le_of_ble_eq_true (by kernel_rfl)⟩
    · exact ⟨Tryd.t41, by kernel_rfl, by kernel_rfl, Nat.le_of_ble_eq_true (by kernel_rfl)⟩⟩ (by kernel_rfl) (by kernel_rfl) (by kernel_rfl) (by kernel_rfl)
def ti44 : TI := ⟨.func, 1, 8, .nilFunc, none⟩
theorem ti44_ok : TiOk Tryd.prog 44 ti44 := ti_mk (i := Tryd.t44) (z := .nilFunc) Tryd.underlying44 ⟨_, _, _, rfl⟩ (by kernel_rfl) (by kernel_rfl) (by kernel_rfl) (by kernel_rfl)
def ti45 : TI := ⟨.iface, 1, 16, .nilIface, none⟩
theorem ti45_ok : TiOk Tryd.prog 45 ti45 := ti_mk (i := Tryd.t45) (z := .nilIface) Tryd.underlying45 ⟨_, rfl⟩ (by kernel_rfl) (by kernel_rfl) (by kernel_rfl) (by kernel_rfl)
def ti46 : TI := ⟨.iface, 1, 16, .nilIface, some .err⟩
theorem ti46_ok : TiOk Tryd.prog 46 ti46 := ti_mk (i := Tryd.t46) (z := .nilIface) Tryd.underlying46 ⟨_, rfl⟩ (by kernel_rfl) (by kernel_rfl) (by kernel_rfl) (by kernel_rfl)
def ti48 : TI := ⟨.func, 1, 8, .nilFunc, none⟩
theorem ti48_ok : TiOk Tryd.prog 48 ti48 := ti_mk (i := Tryd.t48) (z := .nilFunc) Tryd.underlying48 ⟨_, _, _, rfl⟩ (by kernel_rfl) (by kernel_rfl) (by kernel_rfl) (by kernel_rfl)
def ti50 : TI := ⟨.func, 1, 8, .nilFunc, none⟩
theorem ti50_ok : TiOk Tryd.prog 50 ti50 := ti_mk (i := Tryd.t50) (z := .nilFunc) Tryd.underlying50 ⟨_, _, _, rfl⟩ (by kernel_rfl) (by kernel_rfl) (by kernel_rfl) (by kernel_rfl)
def ti51 : TI := ⟨.func, 1, 8, .nilFunc, none⟩
theorem ti51_ok : TiOk Tryd.prog 51 ti51 := ti_mk (i := Tryd.t51) (z := .nilFunc) Tryd.underlying51 ⟨_, _, _, rfl⟩ (by kernel_rfl) (by kernel_rfl) (by kernel_rfl) (by kernel_rfl)
def ti52 : TI := ⟨.func, 1, 8, .nilFunc, none⟩
theorem ti52_ok : TiOk Tryd.prog 52 ti52 := ti_mk (i := Tryd.t52) (z := .nilFunc) Tryd.underlying52 ⟨_, _, _, rfl⟩ (by kernel_rfl) (by kernel_rfl) (by kernel_rfl) (by kernel_rfl)
def ti53 : TI := ⟨.func, 1, 8, .nilFunc, none⟩
theorem ti53_ok : TiOk Tryd.prog 53 ti53 := ti_mk (i := Tryd.t53) (z := .nilFunc) Tryd.underlying53 ⟨_, _, _, rfl⟩ (by kernel_rfl) (by kernel_rfl) (by kernel_rfl) (by kernel_rfl)
def ti54 : TI := ⟨.func, 1, 8, .nilFunc, none⟩
theorem ti54_ok : TiOk Tryd.prog 54 ti54 := ti_mk (i := Tryd.t54) (z := .nilFunc) Tryd.underlying54 ⟨_, _, _, rfl⟩ (by kernel_rfl) (by kernel_rfl) (by kernel_rfl) (by kernel_rfl)
def ti55 : TI := ⟨.func, 1, 8, .nilFunc, none⟩
theorem ti55_ok : TiOk Tryd.prog 55 ti55 := ti_mk (i := Tryd.t55) (z := .nilFunc) Tryd.underlying55 ⟨_, _, _, rfl⟩ (by kernel_rfl) (by kernel_rfl) (by kernel_rfl) (by kernel_rfl)
def ti56 : TI := ⟨.func, 1, 8, .nilFunc, none⟩
theorem ti56_ok : TiOk Tryd.prog 56 ti56 := ti_mk (i := Tryd.t56) (z := .nilFunc) Tryd.underlying56 ⟨_, _, _, rfl⟩ (by kernel_rfl) (by kernel_rfl) (by kernel_rfl) (by kernel_rfl)
def ti57 : TI := ⟨.func, 1, 8, .nilFunc, none⟩
theorem ti57_ok : TiOk Tryd.prog 57 ti57 := ti_mk (i := Tryd.t57) (z := .nilFunc) Tryd.underlying57 ⟨_, _, _, rfl⟩ (by kernel_rfl) (by kernel_rfl) (by kernel_rfl) (by kernel_rfl)
def ti58 : TI := ⟨.int .u64, 1, 8, .int .u64 (.lit 0), none⟩
theorem ti58_ok : TiOk Tryd.prog 58 ti58 := ti_mk (i := Tryd.t58) (z := .int .u64 0) Tryd.underlying58 rfl (by kernel_rfl) (by kernel_rfl) (by kernel_rfl) (by kernel_rfl)
def ti59 : TI := ⟨.struct [(0, 3, 1), (1, 4, 1), (2, 3, 1)], 3, 24, .agg [.int .i64 (.lit 0), .bool (.lit false), .int .i64 (.lit 0)], none⟩
theorem ti59_ok : TiOk Tryd.prog 59 ti59 := ti_mk (i := Tryd.t59) (z := .agg #[.int .i64 0, .bool false, .int .i64 0]) Tryd.underlying59 ⟨_, rfl, (by kernel_rfl), fun f hf => by
    simp only [List.mem_cons, List.not_mem_nil, or_false] at hf
    rcases hf with rfl | rfl | rfl
    · exact ⟨Tryd.t3, by kernel_rfl, by kernel_rfl, Nat.le_of_ble_eq_true (by kernel_rfl)⟩
    · exact ⟨Tryd.t4, by kernel_rfl, by kernel_rfl, Nat.le_of_ble_eq_true (by kernel_rfl)⟩
    · exact ⟨Tryd.t3, by kernel_rfl, by kernel_rfl, Nat.le_of_ble_eq_true (by kernel_rfl)⟩⟩ (by kernel_rfl) (by kernel_rfl) (by kernel_rfl) (by kernel_rfl)
def ti60 : TI := ⟨.struct [(0, 3, 1), (1, 4, 1), (2, 3, 1)], 3, 24, .agg [.int .i64 (.lit 0), .bool (.lit false), .int .i64 (.lit 0)], none⟩
theorem ti60_ok : TiOk Tryd.prog 60 ti60 := ti_mk (i := Tryd.t60) (z := .agg #[.int .i64 0, .bool false, .int .i64 0]) Tryd.underlying60 ⟨_, rfl, (by kernel_rfl), fun f hf => by
    simp only [List.mem_cons, List.not_mem_nil, or_false] at hf
    rcases hf with rfl | rfl | rfl
    · exact ⟨Tryd.t3, by kernel_rfl, by kernel_rfl, Nat.le_of_ble_eq_true (by kernel_rfl)⟩
    · exact ⟨Tryd.t4, by kernel_rfl, by kernel_rfl, Nat.le_of_ble_eq_true (by kernel_rfl)⟩
    · exact ⟨Tryd.t3, by kernel_rfl, by kernel_rfl, Nat.le_of_ble_eq_true (by kernel_rfl)⟩⟩ (by kernel_rfl) (by kernel_rfl) (by kernel_rfl) (by kernel_rfl)
def ti61 : TI := ⟨.func, 1, 8, .nilFunc, none⟩
theorem ti61_ok : TiOk Tryd.prog 61 ti61 := ti_mk (i := Tryd.t61) (z := .nilFunc) Tryd.underlying61 ⟨_, _, _, rfl⟩ (by kernel_rfl) (by kernel_rfl) (by kernel_rfl) (by kernel_rfl)
def ti62 : TI := ⟨.func, 1, 8, .nilFunc, none⟩
theorem ti62_ok : TiOk Tryd.prog 62 ti62 := ti_mk (i := Tryd.t62) (z := .nilFunc) Tryd.underlying62 ⟨_, _, _, rfl⟩ (by kernel_rfl) (by kernel_rfl) (by kernel_rfl) (by kernel_rfl)
def ti63 : TI := ⟨.func, 1, 8, .nilFunc, none⟩
theorem ti63_ok : TiOk Tryd.prog 63 ti63 := ti_mk (i := Tryd.t63) (z := .nilFunc) Tryd.underlying63 ⟨_, _, _, rfl⟩ (by kernel_rfl) (by kernel_rfl) (by kernel_rfl) (by kernel_rfl)
def ti64 : TI := ⟨.struct [(0, 9, 1), (1, 3, 1), (2, 3, 1), (3, 4, 1)], 4, 40, .agg [.str ByteArray.empty, .int .i64 (.lit 0), .int .i64 (.lit 0), .bool (.lit false)], none⟩
theorem ti64_ok : TiOk Tryd.prog 64 ti64 := ti_mk (i := Tryd.t64) (z := .agg #[.string ByteArray.empty, .int .i64 0, .int .i64 0, .bool false]) Tryd.underlying64 ⟨_, rfl, (by kernel_rfl), fun f hf => by
    simp only [List.mem_cons, List.not_mem_nil, or_false] at hf
    rcases hf with rfl | rfl | rfl | rfl
    · exact ⟨Tryd.t9, by kernel_rfl, by kernel_rfl, Nat.le_of_ble_eq_true (by kernel_rfl)⟩
    · exact ⟨Tryd.t3, by kernel_rfl, by kernel_rfl, Nat.le_of_ble_eq_true (by kernel_rfl)⟩
    · exact ⟨Tryd.t3, by kernel_rfl, by kernel_rfl, Nat.le_of_ble_eq_true (by kernel_rfl)⟩
    · exact ⟨Tryd.t4, by kernel_rfl, by kernel_rfl, Nat.le_of_ble_eq_true (by kernel_rfl)⟩⟩ (by kernel_rfl) (by kernel_rfl) (by kernel_rfl) (by kernel_rfl)
def ti65 : TI := ⟨.struct [(0, 9, 1), (1, 3, 1), (2, 3, 1), (3, 4, 1)], 4, 40, .agg [.str ByteArray.empty, .int .i64 (.lit 0), .int .i64 (.lit 0), .bool (.lit false)], some .sym⟩
theorem ti65_ok : TiOk Tryd.prog 65 ti65 := ti_mk (i := Tryd.t65) (z := .agg #[.string ByteArray.empty, .int .i64 0, .int .i64 0, .bool false]) Tryd.underlying65 ⟨_, rfl, (by kernel_rfl), fun f hf => by
    simp only [List.mem_cons, List.not_mem_nil, or_false] at hf
    rcases hf with rfl | rfl | rfl | rfl
    · exact ⟨Tryd.t9, by kernel_rfl, by kernel_rfl, Nat.le_of_ble_eq_true (by kernel_rfl)⟩
    · exact ⟨Tryd.t3, by kernel_rfl, by kernel_rfl, Nat.le_of_ble_eq_true (by kernel_rfl)⟩
    · exact ⟨Tryd.t3, by kernel_rfl, by kernel_rfl, Nat.le_of_ble_eq_true (by kernel_rfl)⟩
    · exact ⟨Tryd.t4, by kernel_rfl, by kernel_rfl, Nat.le_of_ble_eq_true (by kernel_rfl)⟩⟩ (by kernel_rfl) (by kernel_rfl) (by kernel_rfl) (by kernel_rfl)
def ti66 : TI := ⟨.func, 1, 8, .nilFunc, none⟩
theorem ti66_ok : TiOk Tryd.prog 66 ti66 := ti_mk (i := Tryd.t66) (z := .nilFunc) Tryd.underlying66 ⟨_, _, _, rfl⟩ (by kernel_rfl) (by kernel_rfl) (by kernel_rfl) (by kernel_rfl)
def ti67 : TI := ⟨.func, 1, 8, .nilFunc, none⟩
theorem ti67_ok : TiOk Tryd.prog 67 ti67 := ti_mk (i := Tryd.t67) (z := .nilFunc) Tryd.underlying67 ⟨_, _, _, rfl⟩ (by kernel_rfl) (by kernel_rfl) (by kernel_rfl) (by kernel_rfl)
def ti68 : TI := ⟨.func, 1, 8, .nilFunc, none⟩
theorem ti68_ok : TiOk Tryd.prog 68 ti68 := ti_mk (i := Tryd.t68) (z := .nilFunc) Tryd.underlying68 ⟨_, _, _, rfl⟩ (by kernel_rfl) (by kernel_rfl) (by kernel_rfl) (by kernel_rfl)
def ti69 : TI := ⟨.func, 1, 8, .nilFunc, none⟩
theorem ti69_ok : TiOk Tryd.prog 69 ti69 := ti_mk (i := Tryd.t69) (z := .nilFunc) Tryd.underlying69 ⟨_, _, _, rfl⟩ (by kernel_rfl) (by kernel_rfl) (by kernel_rfl) (by kernel_rfl)
def ti70 : TI := ⟨.slice 81, 1, 24, .nilslice, none⟩
theorem ti70_ok : TiOk Tryd.prog 70 ti70 := ti_mk (i := Tryd.t70) (z := .slice none 0 0) Tryd.underlying70 rfl (by kernel_rfl) (by kernel_rfl) (by kernel_rfl) (by kernel_rfl)
def ti72 : TI := ⟨.func, 1, 8, .nilFunc, none⟩
theorem ti72_ok : TiOk Tryd.prog 72 ti72 := ti_mk (i := Tryd.t72) (z := .nilFunc) Tryd.underlying72 ⟨_, _, _, rfl⟩ (by kernel_rfl) (by kernel_rfl) (by kernel_rfl) (by kernel_rfl)
def ti73 : TI := ⟨.slice 9, 1, 24, .nilslice, none⟩
theorem ti73_ok : TiOk Tryd.prog 73 ti73 := ti_mk (i := Tryd.t73) (z := .slice none 0 0) Tryd.underlying73 rfl (by kernel_rfl) (by kernel_rfl) (by kernel_rfl) (by kernel_rfl)
def ti75 : TI := ⟨.func, 1, 8, .nilFunc, none⟩
theorem ti75_ok : TiOk Tryd.prog 75 ti75 := ti_mk (i := Tryd.t75) (z := .nilFunc) Tryd.underlying75 ⟨_, _, _, rfl⟩ (by kernel_rfl) (by kernel_rfl) (by kernel_rfl) (by kernel_rfl)
def ti76 : TI := ⟨.slice 82, 1, 24, .nilslice, none⟩
theorem ti76_ok : TiOk Tryd.prog 76 ti76 := ti_mk (i := Tryd.t76) (z := .slice none 0 0) Tryd.underlying76 rfl (by kernel_rfl) (by kernel_rfl) (by kernel_rfl) (by kernel_rfl)
def ti77 : TI := ⟨.func, 1, 8, .nilFunc, none⟩
theorem ti77_ok : TiOk Tryd.prog 77 ti77 := ti_mk (i := Tryd.t77) (z := .nilFunc) Tryd.underlying77 ⟨_, _, _, rfl⟩ (by kernel_rfl) (by kernel_rfl) (by kernel_rfl) (by kernel_rfl)
def ti78 : TI := ⟨.func, 1, 8, .nilFunc, none⟩
theorem ti78_ok : TiOk Tryd.prog 78 ti78 := ti_mk (i := Tryd.t78) (z := .nilFunc) Tryd.underlying78 ⟨_, _, _, rfl⟩ (by kernel_rfl) (by kernel_rfl) (by kernel_rfl) (by kernel_rfl)
def ti79 : TI := ⟨.func, 1, 8, .nilFunc, none⟩
theorem ti79_ok : TiOk Tryd.prog 79 ti79 := ti_mk (i := Tryd.t79) (z := .nilFunc) Tryd.underlying79 ⟨_, _, _, rfl⟩ (by kernel_rfl) (by kernel_rfl) (by kernel_rfl) (by kernel_rfl)
def ti80 : TI := ⟨.struct [(0, 3, 1), (1, 3, 1), (2, 24, 5)], 7, 56, .agg [.int .i64 (.lit 0), .int .i64 (.lit 0), .int .i64 (.lit 0), .int .i64 (.lit 0), .int .i64 (.lit 0), .int .i64 (.lit 0), .int .u32 (.lit 0)], none⟩
theorem ti80_ok : TiOk Tryd.prog 80 ti80 := ti_mk (i := Tryd.t80) (z := .agg #[.int .i64 0, .int .i64 0, .int .i64 0, .int .i64 0, .int .i64 0, .int .i64 0, .int .u32 0]) Tryd.underlying80 ⟨_, rfl, (by kernel_rfl), fun f hf => by
    simp only [List.mem_cons, List.not_mem_nil, or_false] at hf
    rcases hf with rfl | rfl | rfl
    · exact ⟨Tryd.t3, by kernel_rfl, by kernel_rfl, Nat.le_of_ble_eq_true (by kernel_rfl)⟩
    · exact ⟨Tryd.t3, by kernel_rfl, by kernel_rfl, Nat.le_of_ble_eq_true (by kernel_rfl)⟩
    · exact ⟨Tryd.t24, by kernel_rfl, by kernel_rfl, Nat.le_of_ble_eq_true (by kernel_rfl)⟩⟩ (by kernel_rfl) (by kernel_rfl) (by kernel_rfl) (by kernel_rfl)
def ti81 : TI := ⟨.struct [(0, 3, 1), (1, 3, 1), (2, 24, 5)], 7, 56, .agg [.int .i64 (.lit 0), .int .i64 (.lit 0), .int .i64 (.lit 0), .int .i64 (.lit 0), .int .i64 (.lit 0), .int .i64 (.lit 0), .int .u32 (.lit 0)], some .site⟩
theorem ti81_ok : TiOk Tryd.prog 81 ti81 := ti_mk (i := Tryd.t81) (z := .agg #[.int .i64 0, .int .i64 0, .int .i64 0, .int .i64 0, .int .i64 0, .int .i64 0, .int .u32 0]) Tryd.underlying81 ⟨_, rfl, (by kernel_rfl), fun f hf => by
    simp only [List.mem_cons, List.not_mem_nil, or_false] at hf
    rcases hf with rfl | rfl | rfl
    · exact ⟨Tryd.t3, by kernel_rfl, by kernel_rfl, Nat.le_of_ble_eq_true (by kernel_rfl)⟩
    · exact ⟨Tryd.t3, by kernel_rfl, by kernel_rfl, Nat.le_of_ble_eq_true (by kernel_rfl)⟩
    · exact ⟨Tryd.t24, by kernel_rfl, by kernel_rfl, Nat.le_of_ble_eq_true (by kernel_rfl)⟩⟩ (by kernel_rfl) (by kernel_rfl) (by kernel_rfl) (by kernel_rfl)
def ti82 : TI := ⟨.struct [(0, 3, 1), (1, 3, 1), (2, 24, 5)], 7, 56, .agg [.int .i64 (.lit 0), .int .i64 (.lit 0), .int .i64 (.lit 0), .int .i64 (.lit 0), .int .i64 (.lit 0), .int .i64 (.lit 0), .int .u32 (.lit 0)], some .site⟩
theorem ti82_ok : TiOk Tryd.prog 82 ti82 := ti_mk (i := Tryd.t82) (z := .agg #[.int .i64 0, .int .i64 0, .int .i64 0, .int .i64 0, .int .i64 0, .int .i64 0, .int .u32 0]) Tryd.underlying82 ⟨_, rfl, (by kernel_rfl), fun f hf => by
    simp only [List.mem_cons, List.not_mem_nil, or_false] at hf
    rcases hf with rfl | rfl | rfl
    · exact ⟨Tryd.t3, by kernel_rfl, by kernel_rfl, Nat.le_of_ble_eq_true (by kernel_rfl)⟩
    · exact ⟨Tryd.t3, by kernel_rfl, by kernel_rfl, Nat.le_of_ble_eq_true (by kernel_rfl)⟩
    · exact ⟨Tryd.t24, by kernel_rfl, by kernel_rfl, Nat.le_of_ble_eq_true (by kernel_rfl)⟩⟩ (by kernel_rfl) (by kernel_rfl) (by kernel_rfl) (by kernel_rfl)
def ti83 : TI := ⟨.slice 3, 1, 24, .nilslice, none⟩
theorem ti83_ok : TiOk Tryd.prog 83 ti83 := ti_mk (i := Tryd.t83) (z := .slice none 0 0) Tryd.underlying83 rfl (by kernel_rfl) (by kernel_rfl) (by kernel_rfl) (by kernel_rfl)
def ti84 : TI := ⟨.func, 1, 8, .nilFunc, none⟩
theorem ti84_ok : TiOk Tryd.prog 84 ti84 := ti_mk (i := Tryd.t84) (z := .nilFunc) Tryd.underlying84 ⟨_, _, _, rfl⟩ (by kernel_rfl) (by kernel_rfl) (by kernel_rfl) (by kernel_rfl)
def ti85 : TI := ⟨.func, 1, 8, .nilFunc, none⟩
theorem ti85_ok : TiOk Tryd.prog 85 ti85 := ti_mk (i := Tryd.t85) (z := .nilFunc) Tryd.underlying85 ⟨_, _, _, rfl⟩ (by kernel_rfl) (by kernel_rfl) (by kernel_rfl) (by kernel_rfl)
def ti86 : TI := ⟨.func, 1, 8, .nilFunc, none⟩
theorem ti86_ok : TiOk Tryd.prog 86 ti86 := ti_mk (i := Tryd.t86) (z := .nilFunc) Tryd.underlying86 ⟨_, _, _, rfl⟩ (by kernel_rfl) (by kernel_rfl) (by kernel_rfl) (by kernel_rfl)
def ti87 : TI := ⟨.struct [(0, 24, 5), (5, 9, 1), (6, 9, 1), (7, 4, 1)], 8, 80, .agg [.int .i64 (.lit 0), .int .i64 (.lit 0), .int .i64 (.lit 0), .int .i64 (.lit 0), .int .u32 (.lit 0), .str ByteArray.empty, .str ByteArray.empty, .bool (.lit false)], none⟩
theorem ti87_ok : TiOk Tryd.prog 87 ti87 := ti_mk (i := Tryd.t87) (z := .agg #[.int .i64 0, .int .i64 0, .int .i64 0, .int .i64 0, .int .u32 0, .string ByteArray.empty, .string ByteArray.empty, .bool false]) Tryd.underlying87 ⟨_, rfl, (by kernel_rfl), fun f hf => by
    simp only [List.mem_cons, List.not_mem_nil, or_false] at hf
    rcases hf with rfl | rfl | rfl | rfl
    · exact ⟨Tryd.t24, by kernel_rfl, by kernel_rfl, Nat.le_of_ble_eq_true (by kernel_rfl)⟩
    · exact ⟨Tryd.t9, by kernel_rfl, by kernel_rfl, Nat.le_of_ble_eq_true (by kernel_rfl)⟩
    · exact ⟨Tryd.t9, by kernel_rfl, by kernel_rfl, Nat.le_of_ble_eq_true (by kernel_rfl)⟩
    · exact ⟨Tryd.t4, by kernel_rfl, by kernel_rfl, Nat.le_of_ble_eq_true (by kernel_rfl)⟩⟩ (by kernel_rfl) (by kernel_rfl) (by kernel_rfl) (by kernel_rfl)
def ti88 : TI := ⟨.struct [(0, 24, 5), (5, 9, 1), (6, 9, 1), (7, 4, 1)], 8, 80, .agg [.int .i64 (.lit 0), .int .i64 (.lit 0), .int .i64 (.lit 0), .int .i64 (.lit 0), .int .u32 (.lit 0), .str ByteArray.empty, .str ByteArray.empty, .bool (.lit false)], some .line⟩
theorem ti88_ok : TiOk Tryd.prog 88 ti88 := ti_mk (i := Tryd.t88) (z := .agg #[.int .i64 0, .int .i64 0, .int .i64 0, .int .i64 0, .int .u32 0, .string ByteArray.empty, .string ByteArray.empty, .bool false]) Tryd.underlying88 ⟨_, rfl, (by kernel_rfl), fun f hf => by
    simp only [List.mem_cons, List.not_mem_nil, or_false] at hf
    rcases hf with rfl | rfl | rfl | rfl
    · exact ⟨Tryd.t24, by kernel_rfl, by kernel_rfl, Nat.le_of_ble_eq_true (by kernel_rfl)⟩
    · exact ⟨Tryd.t9, by kernel_rfl, by kernel_rfl, Nat.le_of_ble_eq_true (by kernel_rfl)⟩
    · exact ⟨Tryd.t9, by kernel_rfl, by kernel_rfl, Nat.le_of_ble_eq_true (by kernel_rfl)⟩
    · exact ⟨Tryd.t4, by kernel_rfl, by kernel_rfl, Nat.le_of_ble_eq_true (by kernel_rfl)⟩⟩ (by kernel_rfl) (by kernel_rfl) (by kernel_rfl) (by kernel_rfl)
def ti89 : TI := ⟨.func, 1, 8, .nilFunc, none⟩
theorem ti89_ok : TiOk Tryd.prog 89 ti89 := ti_mk (i := Tryd.t89) (z := .nilFunc) Tryd.underlying89 ⟨_, _, _, rfl⟩ (by kernel_rfl) (by kernel_rfl) (by kernel_rfl) (by kernel_rfl)
def ti90 : TI := ⟨.slice 88, 1, 24, .nilslice, none⟩
theorem ti90_ok : TiOk Tryd.prog 90 ti90 := ti_mk (i := Tryd.t90) (z := .slice none 0 0) Tryd.underlying90 rfl (by kernel_rfl) (by kernel_rfl) (by kernel_rfl) (by kernel_rfl)
def ti91 : TI := ⟨.func, 1, 8, .nilFunc, none⟩
theorem ti91_ok : TiOk Tryd.prog 91 ti91 := ti_mk (i := Tryd.t91) (z := .nilFunc) Tryd.underlying91 ⟨_, _, _, rfl⟩ (by kernel_rfl) (by kernel_rfl) (by kernel_rfl) (by kernel_rfl)
def ti92 : TI := ⟨.func, 1, 8, .nilFunc, none⟩
theorem ti92_ok : TiOk Tryd.prog 92 ti92 := ti_mk (i := Tryd.t92) (z := .nilFunc) Tryd.underlying92 ⟨_, _, _, rfl⟩ (by kernel_rfl) (by kernel_rfl) (by kernel_rfl) (by kernel_rfl)
def ti93 : TI := ⟨.func, 1, 8, .nilFunc, none⟩
theorem ti93_ok : TiOk Tryd.prog 93 ti93 := ti_mk (i := Tryd.t93) (z := .nilFunc) Tryd.underlying93 ⟨_, _, _, rfl⟩ (by kernel_rfl) (by kernel_rfl) (by kernel_rfl) (by kernel_rfl)
def ti95 : TI := ⟨.func, 1, 8, .nilFunc, none⟩
theorem ti95_ok : TiOk Tryd.prog 95 ti95 := ti_mk (i := Tryd.t95) (z := .nilFunc) Tryd.underlying95 ⟨_, _, _, rfl⟩ (by kernel_rfl) (by kernel_rfl) (by kernel_rfl) (by kernel_rfl)
def ti96 : TI := ⟨.func, 1, 8, .nilFunc, none⟩
theorem ti96_ok : TiOk Tryd.prog 96 ti96 := ti_mk (i := Tryd.t96) (z := .nilFunc) Tryd.underlying96 ⟨_, _, _, rfl⟩ (by kernel_rfl) (by kernel_rfl) (by kernel_rfl) (by kernel_rfl)
def ti97 : TI := ⟨.func, 1, 8, .nilFunc, none⟩
theorem ti97_ok : TiOk Tryd.prog 97 ti97 := ti_mk (i := Tryd.t97) (z := .nilFunc) Tryd.underlying97 ⟨_, _, _, rfl⟩ (by kernel_rfl) (by kernel_rfl) (by kernel_rfl) (by kernel_rfl)
def ti98 : TI := ⟨.func, 1, 8, .nilFunc, none⟩
theorem ti98_ok : TiOk Tryd.prog 98 ti98 := ti_mk (i := Tryd.t98) (z := .nilFunc) Tryd.underlying98 ⟨_, _, _, rfl⟩ (by kernel_rfl) (by kernel_rfl) (by kernel_rfl) (by kernel_rfl)
def ti100 : TI := ⟨.func, 1, 8, .nilFunc, none⟩
theorem ti100_ok : TiOk Tryd.prog 100 ti100 := ti_mk (i := Tryd.t100) (z := .nilFunc) Tryd.underlying100 ⟨_, _, _, rfl⟩ (by kernel_rfl) (by kernel_rfl) (by kernel_rfl) (by kernel_rfl)
def ti101 : TI := ⟨.func, 1, 8, .nilFunc, none⟩
theorem ti101_ok : TiOk Tryd.prog 101 ti101 := ti_mk (i := Tryd.t101) (z := .nilFunc) Tryd.underlying101 ⟨_, _, _, rfl⟩ (by kernel_rfl) (by kernel_rfl) (by kernel_rfl) (by kernel_rfl)
def ti102 : TI := ⟨.int .i8, 1, 1, .int .i8 (.lit 0), none⟩
theorem ti102_ok : TiOk Tryd.prog 102 ti102 := ti_mk (i := Tryd.t102) (z := .int .i8 0) Tryd.underlying102 rfl (by kernel_rfl) (by kernel_rfl) (by kernel_rfl) (by kernel_rfl)
def ti103 : TI := ⟨.func, 1, 8, .nilFunc, none⟩
theorem ti103_ok : TiOk Tryd.prog 103 ti103 := ti_mk (i := Tryd.t103) (z := .nilFunc) Tryd.underlying103 ⟨_, _, _, rfl⟩ (by kernel_rfl) (by kernel_rfl) (by kernel_rfl) (by kernel_rfl)
def ti104 : TI := ⟨.int .u64, 1, 8, .int .u64 (.lit 0), none⟩
theorem ti104_ok : TiOk Tryd.prog 104 ti104 := ti_mk (i := Tryd.t104) (z := .int .u64 0) Tryd.underlying104 rfl (by kernel_rfl) (by kernel_rfl) (by kernel_rfl) (by kernel_rfl)
def ti105 : TI := ⟨.ptr 107, 1, 8, .nilptr, none⟩
theorem ti105_ok : TiOk Tryd.prog 105 ti105 := ti_mk (i := Tryd.t105) (z := .pointer none) Tryd.underlying105 rfl (by kernel_rfl) (by kernel_rfl) (by kernel_rfl) (by kernel_rfl)
def ti106 : TI := ⟨.struct [(0, 39, 1), (1, 46, 1)], 2, 40, .agg [.nilslice, .nilIface], none⟩
theorem ti106_ok : TiOk Tryd.prog 106 ti106 := ti_mk (i := Tryd.t106) (z := .agg #[.slice none 0 0, .nilIface]) Tryd.underlying106 ⟨_, rfl, (by kernel_rfl), fun f hf => by
    simp only [List.mem_cons, List.not_mem_nil, or_false] at hf
    rcases hf with rfl | rfl
    · exact ⟨Tryd.t39, by kernel_rfl, by kernel_rfl, Nat.le_of_ble_eq_true (by kernel_rfl)⟩
    · exact ⟨Tryd.t46, by kernel_rfl, by kernel_rfl, Nat.le_of_ble_eq_true (by kernel_rfl)⟩⟩ (by kernel_rfl) (by kernel_rfl) (by kernel_rfl) (by kernel_rfl)
def ti107 : TI := ⟨.struct [(0, 39, 1), (1, 46, 1)], 2, 40, .agg [.nilslice, .nilIface], none⟩
theorem ti107_ok : TiOk Tryd.prog 107 ti107 := ti_mk (i := Tryd.t107) (z := .agg #[.slice none 0 0, .nilIface]) Tryd.underlying107 ⟨_, rfl, (by kernel_rfl), fun f hf => by
    simp only [List.mem_cons, List.not_mem_nil, or_false] at hf
    rcases hf with rfl | rfl
    · exact ⟨Tryd.t39, by kernel_rfl, by kernel_rfl, Nat.le_of_ble_eq_true (by kernel_rfl)⟩
    · exact ⟨Tryd.t46, by kernel_rfl, by kernel_rfl, Nat.le_of_ble_eq_true (by kernel_rfl)⟩⟩ (by kernel_rfl) (by kernel_rfl) (by kernel_rfl) (by kernel_rfl)
def ti108 : TI := ⟨.func, 1, 8, .nilFunc, none⟩
theorem ti108_ok : TiOk Tryd.prog 108 ti108 := ti_mk (i := Tryd.t108) (z := .nilFunc) Tryd.underlying108 ⟨_, _, _, rfl⟩ (by kernel_rfl) (by kernel_rfl) (by kernel_rfl) (by kernel_rfl)
def ti109 : TI := ⟨.func, 1, 8, .nilFunc, none⟩
theorem ti109_ok : TiOk Tryd.prog 109 ti109 := ti_mk (i := Tryd.t109) (z := .nilFunc) Tryd.underlying109 ⟨_, _, _, rfl⟩ (by kernel_rfl) (by kernel_rfl) (by kernel_rfl) (by kernel_rfl)
def ti110 : TI := ⟨.func, 1, 8, .nilFunc, none⟩
theorem ti110_ok : TiOk Tryd.prog 110 ti110 := ti_mk (i := Tryd.t110) (z := .nilFunc) Tryd.underlying110 ⟨_, _, _, rfl⟩ (by kernel_rfl) (by kernel_rfl) (by kernel_rfl) (by kernel_rfl)
def ti111 : TI := ⟨.func, 1, 8, .nilFunc, none⟩
theorem ti111_ok : TiOk Tryd.prog 111 ti111 := ti_mk (i := Tryd.t111) (z := .nilFunc) Tryd.underlying111 ⟨_, _, _, rfl⟩ (by kernel_rfl) (by kernel_rfl) (by kernel_rfl) (by kernel_rfl)
def ti112 : TI := ⟨.func, 1, 8, .nilFunc, none⟩
theorem ti112_ok : TiOk Tryd.prog 112 ti112 := ti_mk (i := Tryd.t112) (z := .nilFunc) Tryd.underlying112 ⟨_, _, _, rfl⟩ (by kernel_rfl) (by kernel_rfl) (by kernel_rfl) (by kernel_rfl)
def ti113 : TI := ⟨.func, 1, 8, .nilFunc, none⟩
theorem ti113_ok : TiOk Tryd.prog 113 ti113 := ti_mk (i := Tryd.t113) (z := .nilFunc) Tryd.underlying113 ⟨_, _, _, rfl⟩ (by kernel_rfl) (by kernel_rfl) (by kernel_rfl) (by kernel_rfl)
def ti114 : TI := ⟨.func, 1, 8, .nilFunc, none⟩
theorem ti114_ok : TiOk Tryd.prog 114 ti114 := ti_mk (i := Tryd.t114) (z := .nilFunc) Tryd.underlying114 ⟨_, _, _, rfl⟩ (by kernel_rfl) (by kernel_rfl) (by kernel_rfl) (by kernel_rfl)
def ti115 : TI := ⟨.func, 1, 8, .nilFunc, none⟩
theorem ti115_ok : TiOk Tryd.prog 115 ti115 := ti_mk (i := Tryd.t115) (z := .nilFunc) Tryd.underlying115 ⟨_, _, _, rfl⟩ (by kernel_rfl) (by kernel_rfl) (by kernel_rfl) (by kernel_rfl)
def ti116 : TI := ⟨.slice 40, 1, 24, .nilslice, none⟩
theorem ti116_ok : TiOk Tryd.prog 116 ti116 := ti_mk (i := Tryd.t116) (z := .slice none 0 0) Tryd.underlying116 rfl (by kernel_rfl) (by kernel_rfl) (by kernel_rfl) (by kernel_rfl)
def ti117 : TI := ⟨.struct [(0, 3, 1), (1, 3, 1), (2, 3, 1), (3, 3, 1)], 4, 32, .agg [.int .i64 (.lit 0), .int .i64 (.lit 0), .int .i64 (.lit 0), .int .i64 (.lit 0)], none⟩
theorem ti117_ok : TiOk Tryd.prog 117 ti117 := ti_mk (i := Tryd.t117) (z := .agg #[.int .i64 0, .int .i64 0, .int .i64 0, .int .i64 0]) Tryd.underlying117 ⟨_, rfl, (by kernel_rfl), fun f hf => by
    simp only [List.mem_cons, List.not_mem_nil, or_false] at hf
    rcases hf with rfl | rfl | rfl | rfl
    · exact ⟨Tryd.t3, by kernel_rfl, by kernel_rfl, Nat.le_of_ble_eq_true (by kernel_rfl)⟩
    · exact ⟨Tryd.t3, by kernel_rfl, by kernel_rfl, Nat.le_of_ble_eq_true (by kernel_rfl)⟩
    · exact ⟨Tryd.t3, by kernel_rfl, by kernel_rfl, Nat.le_of_ble_eq_true (by kernel_rfl)⟩
    · exact ⟨Tryd.t3, by kernel_rfl, by kernel_rfl, Nat.le_of_ble_eq_true (by kernel_rfl)⟩⟩ (by kernel_rfl) (by kernel_rfl) (by kernel_rfl) (by kernel_rfl)
def ti118 : TI := ⟨.struct [(0, 3, 1), (1, 3, 1), (2, 3, 1), (3, 3, 1)], 4, 32, .agg [.int .i64 (.lit 0), .int .i64 (.lit 0), .int .i64 (.lit 0), .int .i64 (.lit 0)], some .rel⟩
theorem ti118_ok : TiOk Tryd.prog 118 ti118 := ti_mk (i := Tryd.t118) (z := .agg #[.int .i64 0, .int .i64 0, .int .i64 0, .int .i64 0]) Tryd.underlying118 ⟨_, rfl, (by kernel_rfl), fun f hf => by
    simp only [List.mem_cons, List.not_mem_nil, or_false] at hf
    rcases hf with rfl | rfl | rfl | rfl
    · exact ⟨Tryd.t3, by kernel_rfl, by kernel_rfl, Nat.le_of_ble_eq_true (by kernel_rfl)⟩
    · exact ⟨Tryd.t3, by kernel_rfl, by kernel_rfl, Nat.le_of_ble_eq_true (by kernel_rfl)⟩
    · exact ⟨Tryd.t3, by kernel_rfl, by kernel_rfl, Nat.le_of_ble_eq_true (by kernel_rfl)⟩
    · exact ⟨Tryd.t3, by kernel_rfl, by kernel_rfl, Nat.le_of_ble_eq_true (by kernel_rfl)⟩⟩ (by kernel_rfl) (by kernel_rfl) (by kernel_rfl) (by kernel_rfl)
def ti119 : TI := ⟨.func, 1, 8, .nilFunc, none⟩
theorem ti119_ok : TiOk Tryd.prog 119 ti119 := ti_mk (i := Tryd.t119) (z := .nilFunc) Tryd.underlying119 ⟨_, _, _, rfl⟩ (by kernel_rfl) (by kernel_rfl) (by kernel_rfl) (by kernel_rfl)
def ti120 : TI := ⟨.func, 1, 8, .nilFunc, none⟩
theorem ti120_ok : TiOk Tryd.prog 120 ti120 := ti_mk (i := Tryd.t120) (z := .nilFunc) Tryd.underlying120 ⟨_, _, _, rfl⟩ (by kernel_rfl) (by kernel_rfl) (by kernel_rfl) (by kernel_rfl)
def ti121 : TI := ⟨.func, 1, 8, .nilFunc, none⟩
theorem ti121_ok : TiOk Tryd.prog 121 ti121 := ti_mk (i := Tryd.t121) (z := .nilFunc) Tryd.underlying121 ⟨_, _, _, rfl⟩ (by kernel_rfl) (by kernel_rfl) (by kernel_rfl) (by kernel_rfl)
def ti122 : TI := ⟨.func, 1, 8, .nilFunc, none⟩
theorem ti122_ok : TiOk Tryd.prog 122 ti122 := ti_mk (i := Tryd.t122) (z := .nilFunc) Tryd.underlying122 ⟨_, _, _, rfl⟩ (by kernel_rfl) (by kernel_rfl) (by kernel_rfl) (by kernel_rfl)
def ti123 : TI := ⟨.func, 1, 8, .nilFunc, none⟩
theorem ti123_ok : TiOk Tryd.prog 123 ti123 := ti_mk (i := Tryd.t123) (z := .nilFunc) Tryd.underlying123 ⟨_, _, _, rfl⟩ (by kernel_rfl) (by kernel_rfl) (by kernel_rfl) (by kernel_rfl)
def ti124 : TI := ⟨.func, 1, 8, .nilFunc, none⟩
theorem ti124_ok : TiOk Tryd.prog 124 ti124 := ti_mk (i := Tryd.t124) (z := .nilFunc) Tryd.underlying124 ⟨_, _, _, rfl⟩ (by kernel_rfl) (by kernel_rfl) (by kernel_rfl) (by kernel_rfl)
def ti125 : TI := ⟨.ptr 129, 1, 8, .nilptr, none⟩
theorem ti125_ok : TiOk Tryd.prog 125 ti125 := ti_mk (i := Tryd.t125) (z := .pointer none) Tryd.underlying125 rfl (by kernel_rfl) (by kernel_rfl) (by kernel_rfl) (by kernel_rfl)
def ti127 : TI := ⟨.func, 1, 8, .nilFunc, none⟩
theorem ti127_ok : TiOk Tryd.prog 127 ti127 := ti_mk (i := Tryd.t127) (z := .nilFunc) Tryd.underlying127 ⟨_, _, _, rfl⟩ (by kernel_rfl) (by kernel_rfl) (by kernel_rfl) (by kernel_rfl)
def ti128 : TI := ⟨.struct [(0, 3, 1), (1, 46, 1)], 2, 24, .agg [.int .i64 (.lit 0), .nilIface], none⟩
theorem ti128_ok : TiOk Tryd.prog 128 ti128 := ti_mk (i := Tryd.t128) (z := .agg #[.int .i64 0, .nilIface]) Tryd.underlying128 ⟨_, rfl, (by kernel_rfl), fun f hf => by
    simp only [List.mem_cons, List.not_mem_nil, or_false] at hf
    rcases hf with rfl | rfl
    · exact ⟨Tryd.t3, by kernel_rfl, by kernel_rfl, Nat.le_of_ble_eq_true (by kernel_rfl)⟩
    · exact ⟨Tryd.t46, by kernel_rfl, by kernel_rfl, Nat.le_of_ble_eq_true (by kernel_rfl)⟩⟩ (by kernel_rfl) (by kernel_rfl) (by kernel_rfl) (by kernel_rfl)
def ti129 : TI := ⟨.struct [(0, 3, 1), (1, 46, 1)], 2, 24, .agg [.int .i64 (.lit 0), .nilIface], none⟩
theorem ti129_ok : TiOk Tryd.prog 129 ti129 := ti_mk (i := Tryd.t129) (z := .agg #[.int .i64 0, .nilIface]) Tryd.underlying129 ⟨_, rfl, (by kernel_rfl), fun f hf => by
    simp only [List.mem_cons, List.not_mem_nil, or_false] at hf
    rcases hf with rfl | rfl
    · exact ⟨Tryd.t3, by kernel_rfl, by kernel_rfl, Nat.le_of_ble_eq_true (by kernel_rfl)⟩
    · exact ⟨Tryd.t46, by kernel_rfl, by kernel_rfl, Nat.le_of_ble_eq_true (by kernel_rfl)⟩⟩ (by kernel_rfl) (by kernel_rfl) (by kernel_rfl) (by kernel_rfl)
def ti130 : TI := ⟨.func, 1, 8, .nilFunc, none⟩
theorem ti130_ok : TiOk Tryd.prog 130 ti130 := ti_mk (i := Tryd.t130) (z := .nilFunc) Tryd.underlying130 ⟨_, _, _, rfl⟩ (by kernel_rfl) (by kernel_rfl) (by kernel_rfl) (by kernel_rfl)
def ti131 : TI := ⟨.func, 1, 8, .nilFunc, none⟩
theorem ti131_ok : TiOk Tryd.prog 131 ti131 := ti_mk (i := Tryd.t131) (z := .nilFunc) Tryd.underlying131 ⟨_, _, _, rfl⟩ (by kernel_rfl) (by kernel_rfl) (by kernel_rfl) (by kernel_rfl)
def ti132 : TI := ⟨.func, 1, 8, .nilFunc, none⟩
theorem ti132_ok : TiOk Tryd.prog 132 ti132 := ti_mk (i := Tryd.t132) (z := .nilFunc) Tryd.underlying132 ⟨_, _, _, rfl⟩ (by kernel_rfl) (by kernel_rfl) (by kernel_rfl) (by kernel_rfl)
def ti133 : TI := ⟨.func, 1, 8, .nilFunc, none⟩
theorem ti133_ok : TiOk Tryd.prog 133 ti133 := ti_mk (i := Tryd.t133) (z := .nilFunc) Tryd.underlying133 ⟨_, _, _, rfl⟩ (by kernel_rfl) (by kernel_rfl) (by kernel_rfl) (by kernel_rfl)
def ti134 : TI := ⟨.func, 1, 8, .nilFunc, none⟩
theorem ti134_ok : TiOk Tryd.prog 134 ti134 := ti_mk (i := Tryd.t134) (z := .nilFunc) Tryd.underlying134 ⟨_, _, _, rfl⟩ (by kernel_rfl) (by kernel_rfl) (by kernel_rfl) (by kernel_rfl)
def ti135 : TI := ⟨.func, 1, 8, .nilFunc, none⟩
theorem ti135_ok : TiOk Tryd.prog 135 ti135 := ti_mk (i := Tryd.t135) (z := .nilFunc) Tryd.underlying135 ⟨_, _, _, rfl⟩ (by kernel_rfl) (by kernel_rfl) (by kernel_rfl) (by kernel_rfl)
def ti136 : TI := ⟨.func, 1, 8, .nilFunc, none⟩
theorem ti136_ok : TiOk Tryd.prog 136 ti136 := ti_mk (i := Tryd.t136) (z := .nilFunc) Tryd.underlying136 ⟨_, _, _, rfl⟩ (by kernel_rfl) (by kernel_rfl) (by kernel_rfl) (by kernel_rfl)
def ti137 : TI := ⟨.ptr 43, 1, 8, .nilptr, none⟩
theorem ti137_ok : TiOk Tryd.prog 137 ti137 := ti_mk (i := Tryd.t137) (z := .pointer none) Tryd.underlying137 rfl (by kernel_rfl) (by kernel_rfl) (by kernel_rfl) (by kernel_rfl)
def ti138 : TI := ⟨.func, 1, 8, .nilFunc, none⟩
theorem ti138_ok : TiOk Tryd.prog 138 ti138 := ti_mk (i := Tryd.t138) (z := .nilFunc) Tryd.underlying138 ⟨_, _, _, rfl⟩ (by kernel_rfl) (by kernel_rfl) (by kernel_rfl) (by kernel_rfl)
def ti139 : TI := ⟨.func, 1, 8, .nilFunc, none⟩
theorem ti139_ok : TiOk Tryd.prog 139 ti139 := ti_mk (i := Tryd.t139) (z := .nilFunc) Tryd.underlying139 ⟨_, _, _, rfl⟩ (by kernel_rfl) (by kernel_rfl) (by kernel_rfl) (by kernel_rfl)
def ti140 : TI := ⟨.map 9 3, 1, 8, .nilmap, none⟩
theorem ti140_ok : TiOk Tryd.prog 140 ti140 := ti_mk (i := Tryd.t140) (z := .map none) Tryd.underlying140 rfl (by kernel_rfl) (by kernel_rfl) (by kernel_rfl) (by kernel_rfl)
def ti141 : TI := ⟨.func, 1, 8, .nilFunc, none⟩
theorem ti141_ok : TiOk Tryd.prog 141 ti141 := ti_mk (i := Tryd.t141) (z := .nilFunc) Tryd.underlying141 ⟨_, _, _, rfl⟩ (by kernel_rfl) (by kernel_rfl) (by kernel_rfl) (by kernel_rfl)
def ti142 : TI := ⟨.slice 46, 1, 24, .nilslice, none⟩
theorem ti142_ok : TiOk Tryd.prog 142 ti142 := ti_mk (i := Tryd.t142) (z := .slice none 0 0) Tryd.underlying142 rfl (by kernel_rfl) (by kernel_rfl) (by kernel_rfl) (by kernel_rfl)
def ti143 : TI := ⟨.func, 1, 8, .nilFunc, none⟩
theorem ti143_ok : TiOk Tryd.prog 143 ti143 := ti_mk (i := Tryd.t143) (z := .nilFunc) Tryd.underlying143 ⟨_, _, _, rfl⟩ (by kernel_rfl) (by kernel_rfl) (by kernel_rfl) (by kernel_rfl)
def ti144 : TI := ⟨.func, 1, 8, .nilFunc, none⟩
theorem ti144_ok : TiOk Tryd.prog 144 ti144 := ti_mk (i := Tryd.t144) (z := .nilFunc) Tryd.underlying144 ⟨_, _, _, rfl⟩ (by kernel_rfl) (by kernel_rfl) (by kernel_rfl) (by kernel_rfl)
def ti145 : TI := ⟨.func, 1, 8, .nilFunc, none⟩
theorem ti145_ok : TiOk Tryd.prog 145 ti145 := ti_mk (i := Tryd.t145) (z := .nilFunc) Tryd.underlying145 ⟨_, _, _, rfl⟩ (by kernel_rfl) (by kernel_rfl) (by kernel_rfl) (by kernel_rfl)
def ti146 : TI := ⟨.func, 1, 8, .nilFunc, none⟩
theorem ti146_ok : TiOk Tryd.prog 146 ti146 := ti_mk (i := Tryd.t146) (z := .nilFunc) Tryd.underlying146 ⟨_, _, _, rfl⟩ (by kernel_rfl) (by kernel_rfl) (by kernel_rfl) (by kernel_rfl)
def ti147 : TI := ⟨.arr 24 5, 24, 24, .arr .u8 24 (List.replicate 24 0), none⟩
theorem ti147_ok : TiOk Tryd.prog 147 ti147 := ti_mk (i := Tryd.t147) (z := .agg #[.int .u8 0, .int .u8 0, .int .u8 0, .int .u8 0, .int .u8 0, .int .u8 0, .int .u8 0, .int .u8 0, .int .u8 0, .int .u8 0, .int .u8 0, .int .u8 0, .int .u8 0, .int .u8 0, .int .u8 0, .int .u8 0, .int .u8 0, .int .u8 0, .int .u8 0, .int .u8 0, .int .u8 0, .int .u8 0, .int .u8 0, .int .u8 0]) Tryd.underlying147 rfl (by kernel_rfl) (by kernel_rfl) (by kernel_rfl) (by kernel_rfl)
def ti148 : TI := ⟨.func, 1, 8, .nilFunc, none⟩
theorem ti148_ok : TiOk Tryd.prog 148 ti148 := ti_mk (i := Tryd.t148) (z := .nilFunc) Tryd.underlying148 ⟨_, _, _, rfl⟩ (by kernel_rfl) (by kernel_rfl) (by kernel_rfl) (by kernel_rfl)
def ti149 : TI := ⟨.func, 1, 8, .nilFunc, none⟩
theorem ti149_ok : TiOk Tryd.prog 149 ti149 := ti_mk (i := Tryd.t149) (z := .nilFunc) Tryd.underlying149 ⟨_, _, _, rfl⟩ (by kernel_rfl) (by kernel_rfl) (by kernel_rfl) (by kernel_rfl)
def ti151 : TI := ⟨.func, 1, 8, .nilFunc, none⟩
theorem ti151_ok : TiOk Tryd.prog 151 ti151 := ti_mk (i := Tryd.t151) (z := .nilFunc) Tryd.underlying151 ⟨_, _, _, rfl⟩ (by kernel_rfl) (by kernel_rfl) (by kernel_rfl) (by kernel_rfl)
def ti152 : TI := ⟨.func, 1, 8, .nilFunc, none⟩
theorem ti152_ok : TiOk Tryd.prog 152 ti152 := ti_mk (i := Tryd.t152) (z := .nilFunc) Tryd.underlying152 ⟨_, _, _, rfl⟩ (by kernel_rfl) (by kernel_rfl) (by kernel_rfl) (by kernel_rfl)
def ti153 : TI := ⟨.map 3 3, 1, 8, .nilmap, none⟩
theorem ti153_ok : TiOk Tryd.prog 153 ti153 := ti_mk (i := Tryd.t153) (z := .map none) Tryd.underlying153 rfl (by kernel_rfl) (by kernel_rfl) (by kernel_rfl) (by kernel_rfl)
def ti154 : TI := ⟨.func, 1, 8, .nilFunc, none⟩
theorem ti154_ok : TiOk Tryd.prog 154 ti154 := ti_mk (i := Tryd.t154) (z := .nilFunc) Tryd.underlying154 ⟨_, _, _, rfl⟩ (by kernel_rfl) (by kernel_rfl) (by kernel_rfl) (by kernel_rfl)
def ti155 : TI := ⟨.func, 1, 8, .nilFunc, none⟩
theorem ti155_ok : TiOk Tryd.prog 155 ti155 := ti_mk (i := Tryd.t155) (z := .nilFunc) Tryd.underlying155 ⟨_, _, _, rfl⟩ (by kernel_rfl) (by kernel_rfl) (by kernel_rfl) (by kernel_rfl)
def ti156 : TI := ⟨.func, 1, 8, .nilFunc, none⟩
theorem ti156_ok : TiOk Tryd.prog 156 ti156 := ti_mk (i := Tryd.t156) (z := .nilFunc) Tryd.underlying156 ⟨_, _, _, rfl⟩ (by kernel_rfl) (by kernel_rfl) (by kernel_rfl) (by kernel_rfl)
def ti158 : TI := ⟨.arr 65 5, 65, 65, .arr .u8 65 (List.replicate 65 0), none⟩
theorem ti158_ok : TiOk Tryd.prog 158 ti158 := ti_mk (i := Tryd.t158) (z := .agg #[.int .u8 0, .int .u8 0, .int .u8 0, .int .u8 0, .int .u8 0, .int .u8 0, .int .u8 0, .int .u8 0, .int .u8 0, .int .u8 0, .int .u8 0, .int .u8 0, .int .u8 0, .int .u8 0, .int .u8 0, .int .u8 0, .int .u8 0, .int .u8 0, .int .u8 0, .int .u8 0, .int .u8 0, .int .u8 0, .int .u8 0, .int .u8 0, .int .u8 0, .int .u8 0, .int .u8 0, .int .u8 0, .int .u8 0, .int .u8 0, .int .u8 0, .int .u8 0, .int .u8 0, .int .u8 0, .int .u8 0, .int .u8 0, .int .u8 0, .int .u8 0, .int .u8 0, .int .u8 0, .int .u8 0, .int .u8 0, .int .u8 0, .int .u8 0, .int .u8 0, .int .u8 0, .int .u8 0, .int .u8 0, .int .u8 0, .int .u8 0, .int .u8 0, .int .u8 0, .int .u8 0, .int .u8 0, .int .u8 0, .int .u8 0, .int .u8 0, .int .u8 0, .int .u8 0, .int .u8 0, .int .u8 0, .int .u8 0, .int .u8 0, .int .u8 0, .int .u8 0]) Tryd.underlying158 rfl (by kernel_rfl) (by kernel_rfl) (by kernel_rfl) (by kernel_rfl)
def ti159 : TI := ⟨.func, 1, 8, .nilFunc, none⟩
theorem ti159_ok : TiOk Tryd.prog 159 ti159 := ti_mk (i := Tryd.t159) (z := .nilFunc) Tryd.underlying159 ⟨_, _, _, rfl⟩ (by kernel_rfl) (by kernel_rfl) (by kernel_rfl) (by kernel_rfl)
def ti160 : TI := ⟨.func, 1, 8, .nilFunc, none⟩
theorem ti160_ok : TiOk Tryd.prog 160 ti160 := ti_mk (i := Tryd.t160) (z := .nilFunc) Tryd.underlying160 ⟨_, _, _, rfl⟩ (by kernel_rfl) (by kernel_rfl) (by kernel_rfl) (by kernel_rfl)
def ti161 : TI := ⟨.arr 32 5, 32, 32, .arr .u8 32 (List.replicate 32 0), none⟩
theorem ti161_ok : TiOk Tryd.prog 161 ti161 := ti_mk (i := Tryd.t161) (z := .agg #[.int .u8 0, .int .u8 0, .int .u8 0, .int .u8 0, .int .u8 0, .int .u8 0, .int .u8 0, .int .u8 0, .int .u8 0, .int .u8 0, .int .u8 0, .int .u8 0, .int .u8 0, .int .u8 0, .int .u8 0, .int .u8 0, .int .u8 0, .int .u8 0, .int .u8 0, .int .u8 0, .int .u8 0, .int .u8 0, .int .u8 0, .int .u8 0, .int .u8 0, .int .u8 0, .int .u8 0, .int .u8 0, .int .u8 0, .int .u8 0, .int .u8 0, .int .u8 0]) Tryd.underlying161 rfl (by kernel_rfl) (by kernel_rfl) (by kernel_rfl) (by kernel_rfl)
def ti162 : TI := ⟨.arr 64 5, 64, 64, .arr .u8 64 (List.replicate 64 0), none⟩
theorem ti162_ok : TiOk Tryd.prog 162 ti162 := ti_mk (i := Tryd.t162) (z := .agg #[.int .u8 0, .int .u8 0, .int .u8 0, .int .u8 0, .int .u8 0, .int .u8 0, .int .u8 0, .int .u8 0, .int .u8 0, .int .u8 0, .int .u8 0, .int .u8 0, .int .u8 0, .int .u8 0, .int .u8 0, .int .u8 0, .int .u8 0, .int .u8 0, .int .u8 0, .int .u8 0, .int .u8 0, .int .u8 0, .int .u8 0, .int .u8 0, .int .u8 0, .int .u8 0, .int .u8 0, .int .u8 0, .int .u8 0, .int .u8 0, .int .u8 0, .int .u8 0, .int .u8 0, .int .u8 0, .int .u8 0, .int .u8 0, .int .u8 0, .int .u8 0, .int .u8 0, .int .u8 0, .int .u8 0, .int .u8 0, .int .u8 0, .int .u8 0, .int .u8 0, .int .u8 0, .int .u8 0, .int .u8 0, .int .u8 0, .int .u8 0, .int .u8 0, .int .u8 0, .int .u8 0, .int .u8 0, .int .u8 0, .int .u8 0, .int .u8 0, .int .u8 0, .int .u8 0, .int .u8 0, .int .u8 0, .int .u8 0, .int .u8 0, .int .u8 0]) Tryd.underlying162 rfl (by kernel_rfl) (by kernel_rfl) (by kernel_rfl) (by kernel_rfl)
def ti164 : TI := ⟨.func, 1, 8, .nilFunc, none⟩
theorem ti164_ok : TiOk Tryd.prog 164 ti164 := ti_mk (i := Tryd.t164) (z := .nilFunc) Tryd.underlying164 ⟨_, _, _, rfl⟩ (by kernel_rfl) (by kernel_rfl) (by kernel_rfl) (by kernel_rfl)
def ti170 : TI := ⟨.func, 1, 8, .nilFunc, none⟩
theorem ti170_ok : TiOk Tryd.prog 170 ti170 := ti_mk (i := Tryd.t170) (z := .nilFunc) Tryd.underlying170 ⟨_, _, _, rfl⟩ (by kernel_rfl) (by kernel_rfl) (by kernel_rfl) (by kernel_rfl)
def ti173 : TI := ⟨.func, 1, 8, .nilFunc, none⟩
theorem ti173_ok : TiOk Tryd.prog 173 ti173 := ti_mk (i := Tryd.t173) (z := .nilFunc) Tryd.underlying173 ⟨_, _, _, rfl⟩ (by kernel_rfl) (by kernel_rfl) (by kernel_rfl) (by kernel_rfl)
def ti174 : TI := ⟨.ptr 5, 1, 8, .nilptr, none⟩
theorem ti174_ok : TiOk Tryd.prog 174 ti174 := ti_mk (i := Tryd.t174) (z := .pointer none) Tryd.underlying174 rfl (by kernel_rfl) (by kernel_rfl) (by kernel_rfl) (by kernel_rfl)
def ti179 : TI := ⟨.struct [(0, 9, 1)], 1, 16, .agg [.str ByteArray.empty], none⟩
theorem ti179_ok : TiOk Tryd.prog 179 ti179 := ti_mk (i := Tryd.t179) (z := .agg #[.string ByteArray.empty]) Tryd.underlying179 ⟨_, rfl, (by kernel_rfl), fun f hf => by
    simp only [List.mem_cons, List.not_mem_nil, or_false] at hf
    subst hf
    · exact ⟨Tryd.t9, by kernel_rfl, by kernel_rfl, Nat.le_of_ble_eq_true (by kernel_rfl)⟩⟩ (by kernel_rfl) (by kernel_rfl) (by kernel_rfl) (by kernel_rfl)
def ti182 : TI := ⟨.func, 1, 8, .nilFunc, none⟩
theorem ti182_ok : TiOk Tryd.prog 182 ti182 := ti_mk (i := Tryd.t182) (z := .nilFunc) Tryd.underlying182 ⟨_, _, _, rfl⟩ (by kernel_rfl) (by kernel_rfl) (by kernel_rfl) (by kernel_rfl)
def tab : List (Nat × TI) := [(1, ti1), (2, ti2), (3, ti3), (4, ti4), (5, ti5), (9, ti9), (12, ti12), (13, ti13), (19, ti19), (20, ti20), (21, ti21), (22, ti22), (23, ti23), (24, ti24), (25, ti25), (27, ti27), (29, ti29), (30, ti30), (31, ti31), (32, ti32), (33, ti33), (34, ti34), (35, ti35), (36, ti36), (37, ti37), (38, ti38), (39, ti39), (40, ti40), (41, ti41), (42, ti42), (43, ti43), (44, ti44), (45, ti45), (46, ti46), (48, ti48), (50, ti50), (51, ti51), (52, ti52), (53, ti53), (54, ti54), (55, ti55), (56, ti56), (57, ti57), (58, ti58), (59, ti59), (60, ti60), (61, ti61), (62, ti62), (63, ti63), (64, ti64), (65, ti65), (66, ti66), (67, ti67), (68, ti68), (69, ti69), (70, ti70), (72, ti72), (73, ti73), (75, ti75), (76, ti76), (77, ti77), (78, ti78), (79, ti79), (80, ti80), (81, ti81), (82, ti82), (83, ti83), (84, ti84), (85, ti85), (86, ti86), (87, ti87), (88, ti88), (89, ti89), (90, ti90), (91, ti91), (92, ti92), (93, ti93), (95, ti95), (96, ti96), (97, ti97), (98, ti98), (100, ti100), (101, ti101), (102, ti102), (103, ti103), (104, ti104), (105, ti105), (106, ti106), (107, ti107), (108, ti108), (109, ti109), (110, ti110), (111, ti111), (112, ti112), (113, ti113), (114, ti114), (115, ti115), (116, ti116), (117, ti117), (118, ti118), (119, ti119), (120, ti120), (121, ti121), (122, ti122), (123, ti123), (124, ti124), (125, ti125), (127, ti127), (128, ti128), (129, ti129), (130, ti130), (131, ti131), (132, ti132), (133, ti133), (134, ti134), (135, ti135), (136, ti136), (137, ti137), (138, ti138), (139, ti139), (140, ti140), (141, ti141), (142, ti142), (143, ti143), (144, ti144), (145, ti145), (146, ti146), (147, ti147), (148, ti148), (149, ti149), (151, ti151), (152, ti152), (153, ti153), (154, ti154), (155, ti155), (156, ti156), (158, ti158), (159, ti159), (160, ti160), (161, ti161), (162, ti162), (164, ti164), (170, ti170), (173, ti173), (174, ti174), (179, ti179), (182, ti182)]
theorem tab_ok : ∀ t ti, find t tab = some ti → TiOk Tryd.prog t ti := by
  intro t ti h
  have h := find_mem h
  simp only [tab, List.mem_cons, Prod.mk.injEq, List.not_mem_nil, or_false] at h
  rcases h with ⟨rfl, rfl⟩ | ⟨rfl, rfl⟩ | ⟨rfl, rfl⟩ | ⟨rfl, rfl⟩ | ⟨rfl, rfl⟩ | ⟨rfl, rfl⟩ | ⟨rfl, rfl⟩ | ⟨rfl, rfl⟩ | ⟨rfl, rfl⟩ | ⟨rfl, rfl⟩ | ⟨rfl, rfl⟩ | ⟨rfl, rfl⟩ | ⟨rfl, rfl⟩ | ⟨rfl, rfl⟩ | ⟨rfl, rfl⟩ | ⟨rfl, rfl⟩ | ⟨rfl, rfl⟩ | ⟨rfl, rfl⟩ | ⟨rfl, rfl⟩ | ⟨rfl, rfl⟩ | ⟨rfl, rfl⟩ | ⟨rfl, rfl⟩ | ⟨rfl, rfl⟩ | ⟨rfl, rfl⟩ | ⟨rfl, rfl⟩ | ⟨rfl, rfl⟩ | ⟨rfl, rfl⟩ | ⟨rfl, rfl⟩ | ⟨rfl, rfl⟩ | ⟨rfl, rfl⟩ | ⟨rfl, rfl⟩ | ⟨rfl, rfl⟩ | ⟨rfl, rfl⟩ | ⟨rfl, rfl⟩ | ⟨rfl, rfl⟩ | ⟨rfl, rfl⟩ | ⟨rfl, rfl⟩ | ⟨rfl, rfl⟩ | ⟨rfl, rfl⟩ | ⟨rfl, rfl⟩ | ⟨rfl, rfl⟩ | ⟨rfl, rfl⟩ | ⟨rfl, rfl⟩ | ⟨rfl, rfl⟩ | ⟨rfl, rfl⟩ | ⟨rfl, rfl⟩ | ⟨rfl, rfl⟩ | ⟨rfl, rfl⟩ | ⟨rfl, rfl⟩ | ⟨rfl, rfl⟩ | ⟨rfl, rfl⟩ | ⟨rfl, rfl⟩ | ⟨rfl, rfl⟩ | ⟨rfl, rfl⟩ | ⟨rfl, rfl⟩ | ⟨rfl, rfl⟩ | ⟨rfl, rfl⟩ | ⟨rfl, rfl⟩ | ⟨rfl, rfl⟩ | ⟨rfl, rfl⟩ | ⟨rfl, rfl⟩ | ⟨rfl, rfl⟩ | ⟨rfl, rfl⟩ | ⟨rfl, rfl⟩ | ⟨rfl, rfl⟩ | ⟨rfl, rfl⟩ | ⟨rfl, rfl⟩ | ⟨rfl, rfl⟩ | ⟨rfl, rfl⟩ | ⟨rfl, rfl⟩ | ⟨rfl, rfl⟩ | ⟨rfl, rfl⟩ | ⟨rfl, rfl⟩ | ⟨rfl, rfl⟩ | ⟨rfl, rfl⟩ | ⟨rfl, rfl⟩ | ⟨rfl, rfl⟩ | ⟨rfl, rfl⟩ | ⟨rfl, rfl⟩ | ⟨rfl, rfl⟩ | ⟨rfl, rfl⟩ | ⟨rfl, rfl⟩ | ⟨rfl, rfl⟩ | ⟨rfl, rfl⟩ | ⟨rfl, rfl⟩ | ⟨rfl, rfl⟩ | ⟨rfl, rfl⟩ | ⟨rfl, rfl⟩ | ⟨rfl, rfl⟩ | ⟨rfl, rfl⟩ | ⟨rfl, rfl⟩ | ⟨rfl, rfl⟩ | ⟨rfl, rfl⟩ | ⟨rfl, rfl⟩ | ⟨rfl, rfl⟩ | ⟨rfl, rfl⟩ | ⟨rfl, rfl⟩ | ⟨rfl, rfl⟩ | ⟨rfl, rfl⟩ | ⟨rfl, rfl⟩ | ⟨rfl, rfl⟩ | ⟨rfl, rfl⟩ | ⟨rfl, rfl⟩ | ⟨rfl, rfl⟩ | ⟨rfl, rfl⟩ | ⟨rfl, rfl⟩ | ⟨rfl, rfl⟩ | ⟨rfl, rfl⟩ | ⟨rfl, rfl⟩ | ⟨rfl, rfl⟩ | ⟨rfl, rfl⟩ | ⟨rfl, rfl⟩ | ⟨rfl, rfl⟩ | ⟨rfl, rfl⟩ | ⟨rfl, rfl⟩ | ⟨rfl, rfl⟩ | ⟨rfl, rfl⟩ | ⟨rfl, rfl⟩ | ⟨rfl, rfl⟩ | ⟨rfl, rfl⟩ | ⟨rfl, rfl⟩ | ⟨rfl, rfl⟩ | ⟨rfl, rfl⟩ | ⟨rfl, rfl⟩ | ⟨rfl, rfl⟩ | ⟨rfl, rfl⟩ | ⟨rfl, rfl⟩ | ⟨rfl, rfl⟩ | ⟨rfl, rfl⟩ | ⟨rfl, rfl⟩ | ⟨rfl, rfl⟩ | ⟨rfl, rfl⟩ | ⟨rfl, rfl⟩ | ⟨rfl, rfl⟩ | ⟨rfl, rfl⟩ | ⟨rfl, rfl⟩ | ⟨rfl, rfl⟩ | ⟨rfl, rfl⟩ | ⟨rfl, rfl⟩ | ⟨rfl, rfl⟩ | ⟨rfl, rfl⟩ | ⟨rfl, rfl⟩ | ⟨rfl, rfl⟩ | ⟨rfl, rfl⟩ | ⟨rfl, rfl⟩ | ⟨rfl, rfl⟩ | ⟨rfl, rfl⟩
  · exact ti1_ok
  · exact ti2_ok
  · exact ti3_ok
  · exact ti4_ok
  · exact ti5_ok
  · exact ti9_ok
  · exact ti12_ok
  · exact ti13_ok
  · exact ti19_ok
  · exact ti20_ok
  · exact ti21_ok
  · exact ti22_ok
  · exact ti23_ok
  · exact ti24_ok
  · exact ti25_ok
  · exact ti27_ok
  · exact ti29_ok
  · exact ti30_ok
  · exact ti31_ok
  · exact ti32_ok
  · exact ti33_ok
  · exact ti34_ok
  · exact ti35_ok
  · exact ti36_ok
  · exact ti37_ok
  · exact ti38_ok
  · exact ti39_ok
  · exact ti40_ok
  · exact ti41_ok
  · exact ti42_ok
  · exact ti43_ok
  · exact ti44_ok
  · exact ti45_ok
  · exact ti46_ok
  · exact ti48_ok
  · exact ti50_ok
  · exact ti51_ok
  · exact ti52_ok
  · exact ti53_ok
  · exact ti54_ok
  · exact ti55_ok
  · exact ti56_ok
  · exact ti57_ok
  · exact ti58_ok
  · exact ti59_ok
  · exact ti60_ok
  · exact ti61_ok
  · exact ti62_ok
  · exact ti63_ok
  · exact ti64_ok
  · exact ti65_ok
  · exact ti66_ok
  · exact ti67_ok
  · exact ti68_ok
  · exact ti69_ok
  · exact ti70_ok
  · exact ti72_ok
  · exact ti73_ok
  · exact ti75_ok
  · exact ti76_ok
  · exact ti77_ok
  · exact ti78_ok
  · exact ti79_ok
  · exact ti80_ok
  · exact ti81_ok
  · exact ti82_ok
  · exact ti83_ok
  · exact ti84_ok
  · exact ti85_ok
  · exact ti86_ok
  · exact ti87_ok
  · exact ti88_ok
  · exact ti89_ok
  · exact ti90_ok
  · exact ti91_ok
  · exact ti92_ok
  · exact ti93_ok
  · exact ti95_ok
  · exact ti96_ok
  · exact ti97_ok
  · exact ti98_ok
  · exact ti100_ok
  · exact ti101_ok
  · exact ti102_ok
  · exact ti103_ok
  · exact ti104_ok
  · exact ti105_ok
  · exact ti106_ok
  · exact ti107_ok
  · exact ti108_ok
  · exact ti109_ok
  · exact ti110_ok
  · exact ti111_ok
  · exact ti112_ok
  · exact ti113_ok
  · exact ti114_ok
  · exact ti115_ok
  · exact ti116_ok
  · exact ti117_ok
  · exact ti118_ok
  · exact ti119_ok
  · exact ti120_ok
  · exact ti121_ok
  · exact ti122_ok
  · exact ti123_ok
  · exact ti124_ok
  · exact ti125_ok
  · exact ti127_ok
  · exact ti128_ok
  · exact ti129_ok
  · exact ti130_ok
  · exact ti131_ok
  · exact ti132_ok
  · exact ti133_ok
  · exact ti134_ok
  · exact ti135_ok
  · exact ti136_ok
  · exact ti137_ok
  · exact ti138_ok
  · exact ti139_ok
  · exact ti140_ok
  · exact ti141_ok
  · exact ti142_ok
  · exact ti143_ok
  · exact ti144_ok
  · exact ti145_ok
  · exact ti146_ok
  · exact ti147_ok
  · exact ti148_ok
  · exact ti149_ok
  · exact ti151_ok
  · exact ti152_ok
  · exact ti153_ok
  · exact ti154_ok
  · exact ti155_ok
  · exact ti156_ok
  · exact ti158_ok
  · exact ti159_ok
  · exact ti160_ok
  · exact ti161_ok
  · exact ti162_ok
  · exact ti164_ok
  · exact ti170_ok
  · exact ti173_ok
  · exact ti174_ok
  · exact ti179_ok
  · exact ti182_ok
end Go.Proofs.YtceebkojjmmjmaaDoor

