/- Contracts that the proofs use. -/
import Derived.Test.YtacmmedhjebfjaaGreatDoorQE14
import Derived.Test.YtacmmedhjebfjaaGreatDoorRows
set_option linter.unusedVariables false
set_option linter.unusedSimpArgs false
namespace Go.Proofs.YtacmmedhjebfjaaGreatDoor
open Go.RowKit Go.Sy
def ti2 : TI := ⟨.int .i64, 1, 8, .int .i64 (.lit 0), none⟩
theorem ti2_ok : TiOk Tryz.prog 2 ti2 := ti_mk (i := Tryz.t2) (z := .int .i64 0) Tryz.underlying2 rfl (by kernel_rfl) (by kernel_rfl) (by kernel_rfl) (by kernel_rfl)
def ti3 : TI := ⟨.int .i64, 1, 8, .int .i64 (.lit 0), some (.i64)⟩
theorem ti3_ok : TiOk Tryz.prog 3 ti3 := ti_mk (i := Tryz.t3) (z := .int .i64 0) Tryz.underlying3 rfl (by kernel_rfl) (by kernel_rfl) (by kernel_rfl) (by kernel_rfl)
def ti4 : TI := ⟨.bool, 1, 1, .bool (.lit false), some (.bool)⟩
theorem ti4_ok : TiOk Tryz.prog 4 ti4 := ti_mk (i := Tryz.t4) (z := .bool false) Tryz.underlying4 rfl (by kernel_rfl) (by kernel_rfl) (by kernel_rfl) (by kernel_rfl)
def ti5 : TI := ⟨.int .u8, 1, 1, .int .u8 (.lit 0), some (.u8)⟩
theorem ti5_ok : TiOk Tryz.prog 5 ti5 := ti_mk (i := Tryz.t5) (z := .int .u8 0) Tryz.underlying5 rfl (by kernel_rfl) (by kernel_rfl) (by kernel_rfl) (by kernel_rfl)
def ti9 : TI := ⟨.str, 1, 16, .str ByteArray.empty, some (.str)⟩
theorem ti9_ok : TiOk Tryz.prog 9 ti9 := ti_mk (i := Tryz.t9) (z := .string ByteArray.empty) Tryz.underlying9 rfl (by kernel_rfl) (by kernel_rfl) (by kernel_rfl) (by kernel_rfl)
def ti12 : TI := ⟨.int .u64, 1, 8, .int .u64 (.lit 0), none⟩
theorem ti12_ok : TiOk Tryz.prog 12 ti12 := ti_mk (i := Tryz.t12) (z := .int .u64 0) Tryz.underlying12 rfl (by kernel_rfl) (by kernel_rfl) (by kernel_rfl) (by kernel_rfl)
def ti19 : TI := ⟨.struct [(0, 17, 1)], 1, 8, .agg [.nilptr], none⟩
theorem ti19_ok : TiOk Tryz.prog 19 ti19 := ti_mk (i := Tryz.t19) (z := .agg #[.pointer none]) Tryz.underlying19 ⟨_, rfl, (by kernel_rfl), fun f hf => by
  simp only [List.mem_cons, List.not_mem_nil, or_false] at hf
  subst hf
  ·exact ⟨Tryz.t17, by kernel_rfl, by kernel_rfl, Nat.le_of_ble_eq_true (by kernel_rfl)⟩⟩ (by kernel_rfl) (by kernel_rfl) (by kernel_rfl) (by kernel_rfl)
def ti20 : TI := ⟨.iface, 1, 16, .nilIface, none⟩
theorem ti20_ok : TiOk Tryz.prog 20 ti20 := ti_mk (i := Tryz.t20) (z := .nilIface) Tryz.underlying20 ⟨_, rfl⟩ (by kernel_rfl) (by kernel_rfl) (by kernel_rfl) (by kernel_rfl)
def ti24 : TI := ⟨.slice 39, 1, 24, .nilslice, some (.slc (.obj))⟩
theorem ti24_ok : TiOk Tryz.prog 24 ti24 := ti_mk (i := Tryz.t24) (z := .slice none 0 0) Tryz.underlying24 rfl (by kernel_rfl) (by kernel_rfl) (by kernel_rfl) (by kernel_rfl)
def ti25 : TI := ⟨.int .u32, 1, 4, .int .u32 (.lit 0), some (.u32)⟩
theorem ti25_ok : TiOk Tryz.prog 25 ti25 := ti_mk (i := Tryz.t25) (z := .int .u32 0) Tryz.underlying25 rfl (by kernel_rfl) (by kernel_rfl) (by kernel_rfl) (by kernel_rfl)
def ti27 : TI := ⟨.struct [(0, 3, 1), (1, 3, 1), (2, 3, 1), (3, 3, 1), (4, 25, 1)], 5, 40, .agg [.int .i64 (.lit 0), .int .i64 (.lit 0), .int .i64 (.lit 0), .int .i64 (.lit 0), .int .u32 (.lit 0)], some (.instr)⟩
theorem ti27_ok : TiOk Tryz.prog 27 ti27 := ti_mk (i := Tryz.t27) (z := .agg #[.int .i64 0, .int .i64 0, .int .i64 0, .int .i64 0, .int .u32 0]) Tryz.underlying27 ⟨_, rfl, (by kernel_rfl), fun f hf => by
  simp only [List.mem_cons, List.not_mem_nil, or_false] at hf
  rcases hf with rfl | rfl | rfl | rfl | rfl
  ·exact ⟨Tryz.t3, by kernel_rfl, by kernel_rfl, Nat.le_of_ble_eq_true (by kernel_rfl)⟩
  ·exact ⟨Tryz.t3, by kernel_rfl, by kernel_rfl, Nat.le_of_ble_eq_true (by kernel_rfl)⟩
  ·exact ⟨Tryz.t3, by kernel_rfl, by kernel_rfl, Nat.le_of_ble_eq_true (by kernel_rfl)⟩
  ·exact ⟨Tryz.t3, by kernel_rfl, by kernel_rfl, Nat.le_of_ble_eq_true (by kernel_rfl)⟩
  ·exact ⟨Tryz.t25, by kernel_rfl, by kernel_rfl, Nat.le_of_ble_eq_true (by kernel_rfl)⟩⟩ (by kernel_rfl) (by kernel_rfl) (by kernel_rfl) (by kernel_rfl)
def ti29 : TI := ⟨.struct [(0, 27, 5), (5, 9, 1), (6, 9, 1), (7, 4, 1)], 8, 80, .agg [.int .i64 (.lit 0), .int .i64 (.lit 0), .int .i64 (.lit 0), .int .i64 (.lit 0), .int .u32 (.lit 0), .str ByteArray.empty, .str ByteArray.empty, .bool (.lit false)], some (.line)⟩
theorem ti29_ok : TiOk Tryz.prog 29 ti29 := ti_mk (i := Tryz.t29) (z := .agg #[.int .i64 0, .int .i64 0, .int .i64 0, .int .i64 0, .int .u32 0, .string ByteArray.empty, .string ByteArray.empty, .bool false]) Tryz.underlying29 ⟨_, rfl, (by kernel_rfl), fun f hf => by
  simp only [List.mem_cons, List.not_mem_nil, or_false] at hf
  rcases hf with rfl | rfl | rfl | rfl
  ·exact ⟨Tryz.t27, by kernel_rfl, by kernel_rfl, Nat.le_of_ble_eq_true (by kernel_rfl)⟩
  ·exact ⟨Tryz.t9, by kernel_rfl, by kernel_rfl, Nat.le_of_ble_eq_true (by kernel_rfl)⟩
  ·exact ⟨Tryz.t9, by kernel_rfl, by kernel_rfl, Nat.le_of_ble_eq_true (by kernel_rfl)⟩
  ·exact ⟨Tryz.t4, by kernel_rfl, by kernel_rfl, Nat.le_of_ble_eq_true (by kernel_rfl)⟩⟩ (by kernel_rfl) (by kernel_rfl) (by kernel_rfl) (by kernel_rfl)
def ti32 : TI := ⟨.slice 29, 1, 24, .nilslice, some (.slc (.line))⟩
theorem ti32_ok : TiOk Tryz.prog 32 ti32 := ti_mk (i := Tryz.t32) (z := .slice none 0 0) Tryz.underlying32 rfl (by kernel_rfl) (by kernel_rfl) (by kernel_rfl) (by kernel_rfl)
def ti34 : TI := ⟨.slice 25, 1, 24, .nilslice, some (.slc (.u32))⟩
theorem ti34_ok : TiOk Tryz.prog 34 ti34 := ti_mk (i := Tryz.t34) (z := .slice none 0 0) Tryz.underlying34 rfl (by kernel_rfl) (by kernel_rfl) (by kernel_rfl) (by kernel_rfl)
def ti35 : TI := ⟨.slice 5, 1, 24, .nilslice, some (.slc (.u8))⟩
theorem ti35_ok : TiOk Tryz.prog 35 ti35 := ti_mk (i := Tryz.t35) (z := .slice none 0 0) Tryz.underlying35 rfl (by kernel_rfl) (by kernel_rfl) (by kernel_rfl) (by kernel_rfl)
def ti36 : TI := ⟨.slice 62, 1, 24, .nilslice, some (.slc (.rel))⟩
theorem ti36_ok : TiOk Tryz.prog 36 ti36 := ti_mk (i := Tryz.t36) (z := .slice none 0 0) Tryz.underlying36 rfl (by kernel_rfl) (by kernel_rfl) (by kernel_rfl) (by kernel_rfl)
def ti37 : TI := ⟨.slice 60, 1, 24, .nilslice, some (.slc (.sym))⟩
theorem ti37_ok : TiOk Tryz.prog 37 ti37 := ti_mk (i := Tryz.t37) (z := .slice none 0 0) Tryz.underlying37 rfl (by kernel_rfl) (by kernel_rfl) (by kernel_rfl) (by kernel_rfl)
def ti39 : TI := ⟨.struct [(0, 34, 1), (1, 34, 1), (2, 35, 1), (3, 36, 1), (4, 36, 1), (5, 37, 1)], 6, 144, .agg [.nilslice, .nilslice, .nilslice, .nilslice, .nilslice, .nilslice], some (.obj)⟩
theorem ti39_ok : TiOk Tryz.prog 39 ti39 := ti_mk (i := Tryz.t39) (z := .agg #[.slice none 0 0, .slice none 0 0, .slice none 0 0, .slice none 0 0, .slice none 0 0, .slice none 0 0]) Tryz.underlying39 ⟨_, rfl, (by kernel_rfl), fun f hf => by
  simp only [List.mem_cons, List.not_mem_nil, or_false] at hf
  rcases hf with rfl | rfl | rfl | rfl | rfl | rfl
  ·exact ⟨Tryz.t34, by kernel_rfl, by kernel_rfl, Nat.le_of_ble_eq_true (by kernel_rfl)⟩
  ·exact ⟨Tryz.t34, by kernel_rfl, by kernel_rfl, Nat.le_of_ble_eq_true (by kernel_rfl)⟩
  ·exact ⟨Tryz.t35, by kernel_rfl, by kernel_rfl, Nat.le_of_ble_eq_true (by kernel_rfl)⟩
  ·exact ⟨Tryz.t36, by kernel_rfl, by kernel_rfl, Nat.le_of_ble_eq_true (by kernel_rfl)⟩
  ·exact ⟨Tryz.t36, by kernel_rfl, by kernel_rfl, Nat.le_of_ble_eq_true (by kernel_rfl)⟩
  ·exact ⟨Tryz.t37, by kernel_rfl, by kernel_rfl, Nat.le_of_ble_eq_true (by kernel_rfl)⟩⟩ (by kernel_rfl) (by kernel_rfl) (by kernel_rfl) (by kernel_rfl)
def ti41 : TI := ⟨.slice 3, 1, 24, .nilslice, some (.slc (.i64))⟩
theorem ti41_ok : TiOk Tryz.prog 41 ti41 := ti_mk (i := Tryz.t41) (z := .slice none 0 0) Tryz.underlying41 rfl (by kernel_rfl) (by kernel_rfl) (by kernel_rfl) (by kernel_rfl)
def ti43 : TI := ⟨.struct [(0, 25, 1), (1, 34, 1), (2, 34, 1), (3, 41, 1), (4, 41, 1), (5, 41, 1)], 6, 128, .agg [.int .u32 (.lit 0), .nilslice, .nilslice, .nilslice, .nilslice, .nilslice], none⟩
theorem ti43_ok : TiOk Tryz.prog 43 ti43 := ti_mk (i := Tryz.t43) (z := .agg #[.int .u32 0, .slice none 0 0, .slice none 0 0, .slice none 0 0, .slice none 0 0, .slice none 0 0]) Tryz.underlying43 ⟨_, rfl, (by kernel_rfl), fun f hf => by
  simp only [List.mem_cons, List.not_mem_nil, or_false] at hf
  rcases hf with rfl | rfl | rfl | rfl | rfl | rfl
  ·exact ⟨Tryz.t25, by kernel_rfl, by kernel_rfl, Nat.le_of_ble_eq_true (by kernel_rfl)⟩
  ·exact ⟨Tryz.t34, by kernel_rfl, by kernel_rfl, Nat.le_of_ble_eq_true (by kernel_rfl)⟩
  ·exact ⟨Tryz.t34, by kernel_rfl, by kernel_rfl, Nat.le_of_ble_eq_true (by kernel_rfl)⟩
  ·exact ⟨Tryz.t41, by kernel_rfl, by kernel_rfl, Nat.le_of_ble_eq_true (by kernel_rfl)⟩
  ·exact ⟨Tryz.t41, by kernel_rfl, by kernel_rfl, Nat.le_of_ble_eq_true (by kernel_rfl)⟩
  ·exact ⟨Tryz.t41, by kernel_rfl, by kernel_rfl, Nat.le_of_ble_eq_true (by kernel_rfl)⟩⟩ (by kernel_rfl) (by kernel_rfl) (by kernel_rfl) (by kernel_rfl)
def ti45 : TI := ⟨.iface, 1, 16, .nilIface, some (.err)⟩
theorem ti45_ok : TiOk Tryz.prog 45 ti45 := ti_mk (i := Tryz.t45) (z := .nilIface) Tryz.underlying45 ⟨_, rfl⟩ (by kernel_rfl) (by kernel_rfl) (by kernel_rfl) (by kernel_rfl)
def ti52 : TI := ⟨.struct [(0, 3, 1), (1, 4, 1), (2, 3, 1)], 3, 24, .agg [.int .i64 (.lit 0), .bool (.lit false), .int .i64 (.lit 0)], some (.flat (.int .i64) [.bool, .int .i64])⟩
theorem ti52_ok : TiOk Tryz.prog 52 ti52 := ti_mk (i := Tryz.t52) (z := .agg #[.int .i64 0, .bool false, .int .i64 0]) Tryz.underlying52 ⟨_, rfl, (by kernel_rfl), fun f hf => by
  simp only [List.mem_cons, List.not_mem_nil, or_false] at hf
  rcases hf with rfl | rfl | rfl
  ·exact ⟨Tryz.t3, by kernel_rfl, by kernel_rfl, Nat.le_of_ble_eq_true (by kernel_rfl)⟩
  ·exact ⟨Tryz.t4, by kernel_rfl, by kernel_rfl, Nat.le_of_ble_eq_true (by kernel_rfl)⟩
  ·exact ⟨Tryz.t3, by kernel_rfl, by kernel_rfl, Nat.le_of_ble_eq_true (by kernel_rfl)⟩⟩ (by kernel_rfl) (by kernel_rfl) (by kernel_rfl) (by kernel_rfl)
def ti58 : TI := ⟨.ptr 39, 1, 8, .nilptr, none⟩
theorem ti58_ok : TiOk Tryz.prog 58 ti58 := ti_mk (i := Tryz.t58) (z := .pointer none) Tryz.underlying58 rfl (by kernel_rfl) (by kernel_rfl) (by kernel_rfl) (by kernel_rfl)
def ti60 : TI := ⟨.struct [(0, 9, 1), (1, 3, 1), (2, 3, 1), (3, 4, 1)], 4, 40, .agg [.str ByteArray.empty, .int .i64 (.lit 0), .int .i64 (.lit 0), .bool (.lit false)], some (.sym)⟩
theorem ti60_ok : TiOk Tryz.prog 60 ti60 := ti_mk (i := Tryz.t60) (z := .agg #[.string ByteArray.empty, .int .i64 0, .int .i64 0, .bool false]) Tryz.underlying60 ⟨_, rfl, (by kernel_rfl), fun f hf => by
  simp only [List.mem_cons, List.not_mem_nil, or_false] at hf
  rcases hf with rfl | rfl | rfl | rfl
  ·exact ⟨Tryz.t9, by kernel_rfl, by kernel_rfl, Nat.le_of_ble_eq_true (by kernel_rfl)⟩
  ·exact ⟨Tryz.t3, by kernel_rfl, by kernel_rfl, Nat.le_of_ble_eq_true (by kernel_rfl)⟩
  ·exact ⟨Tryz.t3, by kernel_rfl, by kernel_rfl, Nat.le_of_ble_eq_true (by kernel_rfl)⟩
  ·exact ⟨Tryz.t4, by kernel_rfl, by kernel_rfl, Nat.le_of_ble_eq_true (by kernel_rfl)⟩⟩ (by kernel_rfl) (by kernel_rfl) (by kernel_rfl) (by kernel_rfl)
def ti62 : TI := ⟨.struct [(0, 3, 1), (1, 3, 1), (2, 3, 1), (3, 3, 1)], 4, 32, .agg [.int .i64 (.lit 0), .int .i64 (.lit 0), .int .i64 (.lit 0), .int .i64 (.lit 0)], some (.rel)⟩
theorem ti62_ok : TiOk Tryz.prog 62 ti62 := ti_mk (i := Tryz.t62) (z := .agg #[.int .i64 0, .int .i64 0, .int .i64 0, .int .i64 0]) Tryz.underlying62 ⟨_, rfl, (by kernel_rfl), fun f hf => by
  simp only [List.mem_cons, List.not_mem_nil, or_false] at hf
  rcases hf with rfl | rfl | rfl | rfl
  ·exact ⟨Tryz.t3, by kernel_rfl, by kernel_rfl, Nat.le_of_ble_eq_true (by kernel_rfl)⟩
  ·exact ⟨Tryz.t3, by kernel_rfl, by kernel_rfl, Nat.le_of_ble_eq_true (by kernel_rfl)⟩
  ·exact ⟨Tryz.t3, by kernel_rfl, by kernel_rfl, Nat.le_of_ble_eq_true (by kernel_rfl)⟩
  ·exact ⟨Tryz.t3, by kernel_rfl, by kernel_rfl, Nat.le_of_ble_eq_true (by kernel_rfl)⟩⟩ (by kernel_rfl) (by kernel_rfl) (by kernel_rfl) (by kernel_rfl)
def ti66 : TI := ⟨.ptr 84, 1, 8, .nilptr, none⟩
theorem ti66_ok : TiOk Tryz.prog 66 ti66 := ti_mk (i := Tryz.t66) (z := .pointer none) Tryz.underlying66 rfl (by kernel_rfl) (by kernel_rfl) (by kernel_rfl) (by kernel_rfl)
def ti77 : TI := ⟨.int .u64, 1, 8, .int .u64 (.lit 0), none⟩
theorem ti77_ok : TiOk Tryz.prog 77 ti77 := ti_mk (i := Tryz.t77) (z := .int .u64 0) Tryz.underlying77 rfl (by kernel_rfl) (by kernel_rfl) (by kernel_rfl) (by kernel_rfl)
def ti78 : TI := ⟨.map 9 88, 1, 8, .nilmap, some (.fmap (.str) (.flat (.int .i64) [.int .i64]))⟩
theorem ti78_ok : TiOk Tryz.prog 78 ti78 := ti_mk (i := Tryz.t78) (z := .map none) Tryz.underlying78 rfl (by kernel_rfl) (by kernel_rfl) (by kernel_rfl) (by kernel_rfl)
def ti79 : TI := ⟨.slice 108, 1, 24, .nilslice, some (.slc (.flat (.int .i64) [.int .i64, .bool]))⟩
theorem ti79_ok : TiOk Tryz.prog 79 ti79 := ti_mk (i := Tryz.t79) (z := .slice none 0 0) Tryz.underlying79 rfl (by kernel_rfl) (by kernel_rfl) (by kernel_rfl) (by kernel_rfl)
def ti80 : TI := ⟨.slice 88, 1, 24, .nilslice, some (.slc (.flat (.int .i64) [.int .i64]))⟩
theorem ti80_ok : TiOk Tryz.prog 80 ti80 := ti_mk (i := Tryz.t80) (z := .slice none 0 0) Tryz.underlying80 rfl (by kernel_rfl) (by kernel_rfl) (by kernel_rfl) (by kernel_rfl)
def ti81 : TI := ⟨.slice 106, 1, 24, .nilslice, some (.slc (.fmap (.int .i64) (.i64)))⟩
theorem ti81_ok : TiOk Tryz.prog 81 ti81 := ti_mk (i := Tryz.t81) (z := .slice none 0 0) Tryz.underlying81 rfl (by kernel_rfl) (by kernel_rfl) (by kernel_rfl) (by kernel_rfl)
def ti82 : TI := ⟨.slice 4, 1, 24, .nilslice, some (.slc (.bool))⟩
theorem ti82_ok : TiOk Tryz.prog 82 ti82 := ti_mk (i := Tryz.t82) (z := .slice none 0 0) Tryz.underlying82 rfl (by kernel_rfl) (by kernel_rfl) (by kernel_rfl) (by kernel_rfl)
def ti84 : TI := ⟨.struct [(0, 24, 1), (1, 78, 1), (2, 41, 1), (3, 79, 1), (4, 80, 1), (5, 81, 1), (6, 41, 1), (7, 82, 1)], 8, 176, .agg [.nilslice, .nilmap, .nilslice, .nilslice, .nilslice, .nilslice, .nilslice, .nilslice], none⟩
theorem ti84_ok : TiOk Tryz.prog 84 ti84 := ti_mk (i := Tryz.t84) (z := .agg #[.slice none 0 0, .map none, .slice none 0 0, .slice none 0 0, .slice none 0 0, .slice none 0 0, .slice none 0 0, .slice none 0 0]) Tryz.underlying84 ⟨_, rfl, (by kernel_rfl), fun f hf => by
  simp only [List.mem_cons, List.not_mem_nil, or_false] at hf
  rcases hf with rfl | rfl | rfl | rfl | rfl | rfl | rfl | rfl
  ·exact ⟨Tryz.t24, by kernel_rfl, by kernel_rfl, Nat.le_of_ble_eq_true (by kernel_rfl)⟩
  ·exact ⟨Tryz.t78, by kernel_rfl, by kernel_rfl, Nat.le_of_ble_eq_true (by kernel_rfl)⟩
  ·exact ⟨Tryz.t41, by kernel_rfl, by kernel_rfl, Nat.le_of_ble_eq_true (by kernel_rfl)⟩
  ·exact ⟨Tryz.t79, by kernel_rfl, by kernel_rfl, Nat.le_of_ble_eq_true (by kernel_rfl)⟩
  ·exact ⟨Tryz.t80, by kernel_rfl, by kernel_rfl, Nat.le_of_ble_eq_true (by kernel_rfl)⟩
  ·exact ⟨Tryz.t81, by kernel_rfl, by kernel_rfl, Nat.le_of_ble_eq_true (by kernel_rfl)⟩
  ·exact ⟨Tryz.t41, by kernel_rfl, by kernel_rfl, Nat.le_of_ble_eq_true (by kernel_rfl)⟩
  ·exact ⟨Tryz.t82, by kernel_rfl, by kernel_rfl, Nat.le_of_ble_eq_true (by kernel_rfl)⟩⟩ (by kernel_rfl) (by kernel_rfl) (by kernel_rfl) (by kernel_rfl)
def ti88 : TI := ⟨.struct [(0, 3, 1), (1, 3, 1)], 2, 16, .agg [.int .i64 (.lit 0), .int .i64 (.lit 0)], some (.flat (.int .i64) [.int .i64])⟩
theorem ti88_ok : TiOk Tryz.prog 88 ti88 := ti_mk (i := Tryz.t88) (z := .agg #[.int .i64 0, .int .i64 0]) Tryz.underlying88 ⟨_, rfl, (by kernel_rfl), fun f hf => by
  simp only [List.mem_cons, List.not_mem_nil, or_false] at hf
  rcases hf with rfl | rfl
  ·exact ⟨Tryz.t3, by kernel_rfl, by kernel_rfl, Nat.le_of_ble_eq_true (by kernel_rfl)⟩
  ·exact ⟨Tryz.t3, by kernel_rfl, by kernel_rfl, Nat.le_of_ble_eq_true (by kernel_rfl)⟩⟩ (by kernel_rfl) (by kernel_rfl) (by kernel_rfl) (by kernel_rfl)
def ti91 : TI := ⟨.slice 92, 1, 24, .nilslice, some (.slc (.fmap (.int .i64) (.rel)))⟩
theorem ti91_ok : TiOk Tryz.prog 91 ti91 := ti_mk (i := Tryz.t91) (z := .slice none 0 0) Tryz.underlying91 rfl (by kernel_rfl) (by kernel_rfl) (by kernel_rfl) (by kernel_rfl)
def ti92 : TI := ⟨.map 3 62, 1, 8, .nilmap, some (.fmap (.int .i64) (.rel))⟩
theorem ti92_ok : TiOk Tryz.prog 92 ti92 := ti_mk (i := Tryz.t92) (z := .map none) Tryz.underlying92 rfl (by kernel_rfl) (by kernel_rfl) (by kernel_rfl) (by kernel_rfl)
def ti94 : TI := ⟨.ptr 43, 1, 8, .nilptr, none⟩
theorem ti94_ok : TiOk Tryz.prog 94 ti94 := ti_mk (i := Tryz.t94) (z := .pointer none) Tryz.underlying94 rfl (by kernel_rfl) (by kernel_rfl) (by kernel_rfl) (by kernel_rfl)
def ti95 : TI := ⟨.ptr 99, 1, 8, .nilptr, none⟩
theorem ti95_ok : TiOk Tryz.prog 95 ti95 := ti_mk (i := Tryz.t95) (z := .pointer none) Tryz.underlying95 rfl (by kernel_rfl) (by kernel_rfl) (by kernel_rfl) (by kernel_rfl)
def ti99 : TI := ⟨.struct [(0, 3, 1), (1, 45, 1)], 2, 24, .agg [.int .i64 (.lit 0), .nilIface], none⟩
theorem ti99_ok : TiOk Tryz.prog 99 ti99 := ti_mk (i := Tryz.t99) (z := .agg #[.int .i64 0, .nilIface]) Tryz.underlying99 ⟨_, rfl, (by kernel_rfl), fun f hf => by
  simp only [List.mem_cons, List.not_mem_nil, or_false] at hf
  rcases hf with rfl | rfl
  ·exact ⟨Tryz.t3, by kernel_rfl, by kernel_rfl, Nat.le_of_ble_eq_true (by kernel_rfl)⟩
  ·exact ⟨Tryz.t45, by kernel_rfl, by kernel_rfl, Nat.le_of_ble_eq_true (by kernel_rfl)⟩⟩ (by kernel_rfl) (by kernel_rfl) (by kernel_rfl) (by kernel_rfl)
def ti102 : TI := ⟨.func, 1, 8, .nilFunc, none⟩
theorem ti102_ok : TiOk Tryz.prog 102 ti102 := ti_mk (i := Tryz.t102) (z := .nilFunc) Tryz.underlying102 ⟨_, _, _, rfl⟩ (by kernel_rfl) (by kernel_rfl) (by kernel_rfl) (by kernel_rfl)
def ti106 : TI := ⟨.map 3 3, 1, 8, .nilmap, some (.fmap (.int .i64) (.i64))⟩
theorem ti106_ok : TiOk Tryz.prog 106 ti106 := ti_mk (i := Tryz.t106) (z := .map none) Tryz.underlying106 rfl (by kernel_rfl) (by kernel_rfl) (by kernel_rfl) (by kernel_rfl)
def ti108 : TI := ⟨.struct [(0, 3, 1), (1, 3, 1), (2, 4, 1)], 3, 24, .agg [.int .i64 (.lit 0), .int .i64 (.lit 0), .bool (.lit false)], some (.flat (.int .i64) [.int .i64, .bool])⟩
theorem ti108_ok : TiOk Tryz.prog 108 ti108 := ti_mk (i := Tryz.t108) (z := .agg #[.int .i64 0, .int .i64 0, .bool false]) Tryz.underlying108 ⟨_, rfl, (by kernel_rfl), fun f hf => by
  simp only [List.mem_cons, List.not_mem_nil, or_false] at hf
  rcases hf with rfl | rfl | rfl
  ·exact ⟨Tryz.t3, by kernel_rfl, by kernel_rfl, Nat.le_of_ble_eq_true (by kernel_rfl)⟩
  ·exact ⟨Tryz.t3, by kernel_rfl, by kernel_rfl, Nat.le_of_ble_eq_true (by kernel_rfl)⟩
  ·exact ⟨Tryz.t4, by kernel_rfl, by kernel_rfl, Nat.le_of_ble_eq_true (by kernel_rfl)⟩⟩ (by kernel_rfl) (by kernel_rfl) (by kernel_rfl) (by kernel_rfl)
def ti112 : TI := ⟨.struct [], 0, 0, .agg [], none⟩
theorem ti112_ok : TiOk Tryz.prog 112 ti112 := ti_mk (i := Tryz.t112) (z := .agg #[]) Tryz.underlying112 ⟨_, rfl, (by kernel_rfl), fun f hf => by
  simp at hf⟩ (by kernel_rfl) (by kernel_rfl) (by kernel_rfl) (by kernel_rfl)
def ti114 : TI := ⟨.ptr 108, 1, 8, .nilptr, none⟩
theorem ti114_ok : TiOk Tryz.prog 114 ti114 := ti_mk (i := Tryz.t114) (z := .pointer none) Tryz.underlying114 rfl (by kernel_rfl) (by kernel_rfl) (by kernel_rfl) (by kernel_rfl)
def ti119 : TI := ⟨.slice 45, 1, 24, .nilslice, some (.slc (.err))⟩
theorem ti119_ok : TiOk Tryz.prog 119 ti119 := ti_mk (i := Tryz.t119) (z := .slice none 0 0) Tryz.underlying119 rfl (by kernel_rfl) (by kernel_rfl) (by kernel_rfl) (by kernel_rfl)
def ti122 : TI := ⟨.arr 24 5, 24, 24, .arr .u8 24 (List.replicate 24 0), none⟩
theorem ti122_ok : TiOk Tryz.prog 122 ti122 := ti_mk (i := Tryz.t122) (z := .agg #[.int .u8 0, .int .u8 0, .int .u8 0, .int .u8 0, .int .u8 0, .int .u8 0, .int .u8 0, .int .u8 0, .int .u8 0, .int .u8 0, .int .u8 0, .int .u8 0, .int .u8 0, .int .u8 0, .int .u8 0, .int .u8 0, .int .u8 0, .int .u8 0, .int .u8 0, .int .u8 0, .int .u8 0, .int .u8 0, .int .u8 0, .int .u8 0]) Tryz.underlying122 rfl (by kernel_rfl) (by kernel_rfl) (by kernel_rfl) (by kernel_rfl)
def ti123 : TI := ⟨.int .u64, 1, 8, .int .u64 (.lit 0), none⟩
theorem ti123_ok : TiOk Tryz.prog 123 ti123 := ti_mk (i := Tryz.t123) (z := .int .u64 0) Tryz.underlying123 rfl (by kernel_rfl) (by kernel_rfl) (by kernel_rfl) (by kernel_rfl)
def ti129 : TI := ⟨.map 9 3, 1, 8, .nilmap, some (.fmap (.str) (.i64))⟩
theorem ti129_ok : TiOk Tryz.prog 129 ti129 := ti_mk (i := Tryz.t129) (z := .map none) Tryz.underlying129 rfl (by kernel_rfl) (by kernel_rfl) (by kernel_rfl) (by kernel_rfl)
def ti134 : TI := ⟨.ptr 95, 1, 8, .nilptr, none⟩
theorem ti134_ok : TiOk Tryz.prog 134 ti134 := ti_mk (i := Tryz.t134) (z := .pointer none) Tryz.underlying134 rfl (by kernel_rfl) (by kernel_rfl) (by kernel_rfl) (by kernel_rfl)
def ti138 : TI := ⟨.func, 1, 8, .nilFunc, none⟩
theorem ti138_ok : TiOk Tryz.prog 138 ti138 := ti_mk (i := Tryz.t138) (z := .nilFunc) Tryz.underlying138 ⟨_, _, _, rfl⟩ (by kernel_rfl) (by kernel_rfl) (by kernel_rfl) (by kernel_rfl)
def ti143 : TI := ⟨.func, 1, 8, .nilFunc, none⟩
theorem ti143_ok : TiOk Tryz.prog 143 ti143 := ti_mk (i := Tryz.t143) (z := .nilFunc) Tryz.underlying143 ⟨_, _, _, rfl⟩ (by kernel_rfl) (by kernel_rfl) (by kernel_rfl) (by kernel_rfl)
def ti147 : TI := ⟨.arr 65 5, 65, 65, .arr .u8 65 (List.replicate 65 0), none⟩
theorem ti147_ok : TiOk Tryz.prog 147 ti147 := ti_mk (i := Tryz.t147) (z := .agg #[.int .u8 0, .int .u8 0, .int .u8 0, .int .u8 0, .int .u8 0, .int .u8 0, .int .u8 0, .int .u8 0, .int .u8 0, .int .u8 0, .int .u8 0, .int .u8 0, .int .u8 0, .int .u8 0, .int .u8 0, .int .u8 0, .int .u8 0, .int .u8 0, .int .u8 0, .int .u8 0, .int .u8 0, .int .u8 0, .int .u8 0, .int .u8 0, .int .u8 0, .int .u8 0, .int .u8 0, .int .u8 0, .int .u8 0, .int .u8 0, .int .u8 0, .int .u8 0, .int .u8 0, .int .u8 0, .int .u8 0, .int .u8 0, .int .u8 0, .int .u8 0, .int .u8 0, .int .u8 0, .int .u8 0, .int .u8 0, .int .u8 0, .int .u8 0, .int .u8 0, .int .u8 0, .int .u8 0, .int .u8 0, .int .u8 0, .int .u8 0, .int .u8 0, .int .u8 0, .int .u8 0, .int .u8 0, .int .u8 0, .int .u8 0, .int .u8 0, .int .u8 0, .int .u8 0, .int .u8 0, .int .u8 0, .int .u8 0, .int .u8 0, .int .u8 0, .int .u8 0]) Tryz.underlying147 rfl (by kernel_rfl) (by kernel_rfl) (by kernel_rfl) (by kernel_rfl)
def ti152 : TI := ⟨.int .u64, 1, 8, .int .u64 (.lit 0), none⟩
theorem ti152_ok : TiOk Tryz.prog 152 ti152 := ti_mk (i := Tryz.t152) (z := .int .u64 0) Tryz.underlying152 rfl (by kernel_rfl) (by kernel_rfl) (by kernel_rfl) (by kernel_rfl)
def ti157 : TI := ⟨.iface, 1, 16, .nilIface, none⟩
theorem ti157_ok : TiOk Tryz.prog 157 ti157 := ti_mk (i := Tryz.t157) (z := .nilIface) Tryz.underlying157 ⟨_, rfl⟩ (by kernel_rfl) (by kernel_rfl) (by kernel_rfl) (by kernel_rfl)
def ti166 : TI := ⟨.struct [(0, 17, 1)], 1, 8, .agg [.nilptr], none⟩
theorem ti166_ok : TiOk Tryz.prog 166 ti166 := ti_mk (i := Tryz.t166) (z := .agg #[.pointer none]) Tryz.underlying166 ⟨_, rfl, (by kernel_rfl), fun f hf => by
  simp only [List.mem_cons, List.not_mem_nil, or_false] at hf
  subst hf
  ·exact ⟨Tryz.t17, by kernel_rfl, by kernel_rfl, Nat.le_of_ble_eq_true (by kernel_rfl)⟩⟩ (by kernel_rfl) (by kernel_rfl) (by kernel_rfl) (by kernel_rfl)
def ti167 : TI := ⟨.ptr 197, 1, 8, .nilptr, none⟩
theorem ti167_ok : TiOk Tryz.prog 167 ti167 := ti_mk (i := Tryz.t167) (z := .pointer none) Tryz.underlying167 rfl (by kernel_rfl) (by kernel_rfl) (by kernel_rfl) (by kernel_rfl)
def ti171 : TI := ⟨.iface, 1, 16, .nilIface, none⟩
theorem ti171_ok : TiOk Tryz.prog 171 ti171 := ti_mk (i := Tryz.t171) (z := .nilIface) Tryz.underlying171 ⟨_, rfl⟩ (by kernel_rfl) (by kernel_rfl) (by kernel_rfl) (by kernel_rfl)
def ti174 : TI := ⟨.iface, 1, 16, .nilIface, none⟩
theorem ti174_ok : TiOk Tryz.prog 174 ti174 := ti_mk (i := Tryz.t174) (z := .nilIface) Tryz.underlying174 ⟨_, rfl⟩ (by kernel_rfl) (by kernel_rfl) (by kernel_rfl) (by kernel_rfl)
def ti175 : TI := ⟨.iface, 1, 16, .nilIface, none⟩
theorem ti175_ok : TiOk Tryz.prog 175 ti175 := ti_mk (i := Tryz.t175) (z := .nilIface) Tryz.underlying175 ⟨_, rfl⟩ (by kernel_rfl) (by kernel_rfl) (by kernel_rfl) (by kernel_rfl)
def ti176 : TI := ⟨.arr 32 5, 32, 32, .arr .u8 32 (List.replicate 32 0), none⟩
theorem ti176_ok : TiOk Tryz.prog 176 ti176 := ti_mk (i := Tryz.t176) (z := .agg #[.int .u8 0, .int .u8 0, .int .u8 0, .int .u8 0, .int .u8 0, .int .u8 0, .int .u8 0, .int .u8 0, .int .u8 0, .int .u8 0, .int .u8 0, .int .u8 0, .int .u8 0, .int .u8 0, .int .u8 0, .int .u8 0, .int .u8 0, .int .u8 0, .int .u8 0, .int .u8 0, .int .u8 0, .int .u8 0, .int .u8 0, .int .u8 0, .int .u8 0, .int .u8 0, .int .u8 0, .int .u8 0, .int .u8 0, .int .u8 0, .int .u8 0, .int .u8 0]) Tryz.underlying176 rfl (by kernel_rfl) (by kernel_rfl) (by kernel_rfl) (by kernel_rfl)
def ti177 : TI := ⟨.arr 64 5, 64, 64, .arr .u8 64 (List.replicate 64 0), none⟩
theorem ti177_ok : TiOk Tryz.prog 177 ti177 := ti_mk (i := Tryz.t177) (z := .agg #[.int .u8 0, .int .u8 0, .int .u8 0, .int .u8 0, .int .u8 0, .int .u8 0, .int .u8 0, .int .u8 0, .int .u8 0, .int .u8 0, .int .u8 0, .int .u8 0, .int .u8 0, .int .u8 0, .int .u8 0, .int .u8 0, .int .u8 0, .int .u8 0, .int .u8 0, .int .u8 0, .int .u8 0, .int .u8 0, .int .u8 0, .int .u8 0, .int .u8 0, .int .u8 0, .int .u8 0, .int .u8 0, .int .u8 0, .int .u8 0, .int .u8 0, .int .u8 0, .int .u8 0, .int .u8 0, .int .u8 0, .int .u8 0, .int .u8 0, .int .u8 0, .int .u8 0, .int .u8 0, .int .u8 0, .int .u8 0, .int .u8 0, .int .u8 0, .int .u8 0, .int .u8 0, .int .u8 0, .int .u8 0, .int .u8 0, .int .u8 0, .int .u8 0, .int .u8 0, .int .u8 0, .int .u8 0, .int .u8 0, .int .u8 0, .int .u8 0, .int .u8 0, .int .u8 0, .int .u8 0, .int .u8 0, .int .u8 0, .int .u8 0, .int .u8 0]) Tryz.underlying177 rfl (by kernel_rfl) (by kernel_rfl) (by kernel_rfl) (by kernel_rfl)
def ti197 : TI := ⟨.struct [(0, 9, 1), (1, 159, 1)], 2, 24, .agg [.str ByteArray.empty, .int .u8 (.lit 0)], some (.flat (.str) [.int .u8])⟩
theorem ti197_ok : TiOk Tryz.prog 197 ti197 := ti_mk (i := Tryz.t197) (z := .agg #[.string ByteArray.empty, .int .u8 0]) Tryz.underlying197 ⟨_, rfl, (by kernel_rfl), fun f hf => by
  simp only [List.mem_cons, List.not_mem_nil, or_false] at hf
  rcases hf with rfl | rfl
  ·exact ⟨Tryz.t9, by kernel_rfl, by kernel_rfl, Nat.le_of_ble_eq_true (by kernel_rfl)⟩
  ·exact ⟨Tryz.t159, by kernel_rfl, by kernel_rfl, Nat.le_of_ble_eq_true (by kernel_rfl)⟩⟩ (by kernel_rfl) (by kernel_rfl) (by kernel_rfl) (by kernel_rfl)
def ti210 : TI := ⟨.ptr 45, 1, 8, .nilptr, none⟩
theorem ti210_ok : TiOk Tryz.prog 210 ti210 := ti_mk (i := Tryz.t210) (z := .pointer none) Tryz.underlying210 rfl (by kernel_rfl) (by kernel_rfl) (by kernel_rfl) (by kernel_rfl)
def tab : List (Nat × TI) := [(2, ti2), (3, ti3), (4, ti4), (5, ti5), (9, ti9), (12, ti12), (19, ti19), (20, ti20), (24, ti24), (25, ti25), (27, ti27), (29, ti29), (32, ti32), (34, ti34), (35, ti35), (36, ti36), (37, ti37), (39, ti39), (41, ti41), (43, ti43), (45, ti45), (52, ti52), (58, ti58), (60, ti60), (62, ti62), (66, ti66), (77, ti77), (78, ti78), (79, ti79), (80, ti80), (81, ti81), (82, ti82), (84, ti84), (88, ti88), (91, ti91), (92, ti92), (94, ti94), (95, ti95), (99, ti99), (102, ti102), (106, ti106), (108, ti108), (112, ti112), (114, ti114), (119, ti119), (122, ti122), (123, ti123), (129, ti129), (134, ti134), (138, ti138), (143, ti143), (147, ti147), (152, ti152), (157, ti157), (166, ti166), (167, ti167), (171, ti171), (174, ti174), (175, ti175), (176, ti176), (177, ti177), (197, ti197), (210, ti210)]
theorem tab_ok : ∀ t ti, find t tab = some ti → TiOk Tryz.prog t ti := by
 refine AllTi.find ?_
 unfold tab
 refine .cons ti2_ok ?_
 refine .cons ti3_ok ?_
 refine .cons ti4_ok ?_
 refine .cons ti5_ok ?_
 refine .cons ti9_ok ?_
 refine .cons ti12_ok ?_
 refine .cons ti19_ok ?_
 refine .cons ti20_ok ?_
 refine .cons ti24_ok ?_
 refine .cons ti25_ok ?_
 refine .cons ti27_ok ?_
 refine .cons ti29_ok ?_
 refine .cons ti32_ok ?_
 refine .cons ti34_ok ?_
 refine .cons ti35_ok ?_
 refine .cons ti36_ok ?_
 refine .cons ti37_ok ?_
 refine .cons ti39_ok ?_
 refine .cons ti41_ok ?_
 refine .cons ti43_ok ?_
 refine .cons ti45_ok ?_
 refine .cons ti52_ok ?_
 refine .cons ti58_ok ?_
 refine .cons ti60_ok ?_
 refine .cons ti62_ok ?_
 refine .cons ti66_ok ?_
 refine .cons ti77_ok ?_
 refine .cons ti78_ok ?_
 refine .cons ti79_ok ?_
 refine .cons ti80_ok ?_
 refine .cons ti81_ok ?_
 refine .cons ti82_ok ?_
 refine .cons ti84_ok ?_
 refine .cons ti88_ok ?_
 refine .cons ti91_ok ?_
 refine .cons ti92_ok ?_
 refine .cons ti94_ok ?_
 refine .cons ti95_ok ?_
 refine .cons ti99_ok ?_
 refine .cons ti102_ok ?_
 refine .cons ti106_ok ?_
 refine .cons ti108_ok ?_
 refine .cons ti112_ok ?_
 refine .cons ti114_ok ?_
 refine .cons ti119_ok ?_
 refine .cons ti122_ok ?_
 refine .cons ti123_ok ?_
 refine .cons ti129_ok ?_
 refine .cons ti134_ok ?_
 refine .cons ti138_ok ?_
 refine .cons ti143_ok ?_
 refine .cons ti147_ok ?_
 refine .cons ti152_ok ?_
 refine .cons ti157_ok ?_
 refine .cons ti166_ok ?_
 refine .cons ti167_ok ?_
 refine .cons ti171_ok ?_
 refine .cons ti174_ok ?_
 refine .cons ti175_ok ?_
 refine .cons ti176_ok ?_
 refine .cons ti177_ok ?_
 refine .cons ti197_ok ?_
 refine .cons ti210_ok ?_
 exact .nil
end Go.Proofs.YtacmmedhjebfjaaGreatDoor
set_option linter.unusedVariables false
set_option linter.unusedSimpArgs false
namespace Go.Proofs.YtacmmedhjebfjaaGreatDoor
open Go.RowKit Go.Sy
def G7 : List (Nat × SVal) := [(3, .rop [.err (.bare 102)]), (6, .rop [.err (.bare 103)]), (0, .rop [.err (.bare 104)]), (7, .rop [.err (.bare 105)]), (1, .rop [.err (.bare 106)]), (2, .rop [.err (.bare 107)]), (4, .rop [.err (.bare 109)])]
abbrev tAtN : Nat := 95
abbrev ctx (ea : Ear) (has : Int → Prop) : Ctx := ⟨ea.f, 178, tAtN, has, ea.fix⟩
def cmpT : List Nat := [62, 60]
theorem cmp_ok : ∀ t, cmpT.contains t = true → CmpOk Tryz.prog t := by
 intro t ht
 have nm : ∀ t, ((Tryz.prog.fieldsOf t).toList.all fun f => f.name != "_") = true → ∀ f ∈ (Tryz.prog.fieldsOf t).toList, f.name ≠ "_" := fun t h f hf => by
  have := List.all_eq_true.1 h f hf
  simpa using this
 simp [cmpT] at ht
 rcases ht with rfl | rfl
 ·exact ⟨by kernel_rfl, by kernel_rfl, nm _ (by kernel_rfl)⟩
 ·exact ⟨by kernel_rfl, by kernel_rfl, nm _ (by kernel_rfl)⟩
abbrev env (gl : List (Nat × SVal)) (con : List (Nat × (List SVal → Nat → Acc ORes))) : Env := { tab := tab, con := con, glob := gl, tAt := tAtN, cmp := cmpT }
theorem err_ok (ea : Ear) (has : Int → Prop) : ErrOk Tryz.prog (ctx ea has) where
 tE := ⟨_, Tryz.t178, Tryz.t199, Tryz.underlying178, by kernel_rfl, by kernel_rfl, by kernel_rfl, Nat.ne_of_beq_eq_false (by kernel_rfl)⟩
 tAt := ⟨_, Tryz.underlying95⟩
section
variable {ea : Ear} {has : Int → Prop} {gl : List (Nat × SVal)}
def Cons (P : Program) (C : Ctx) (gl : List (Nat × SVal)) : List (Nat × (List SVal → Nat → Acc ORes)) → Prop
 | [] => True
 | (f, k) :: l => ConOk P C gl f k ∧ Cons P C gl l
theorem cons_find {P : Program} {C : Ctx} {l : List (Nat × (List SVal → Nat → Acc ORes))} (h : Cons P C gl l) : ∀ f k, find f l = some k → ConOk P C gl f k := by
 induction l with
 | nil => intro f k hf; cases hf
 | cons p l ih =>
  obtain ⟨g, k'⟩ := p
  intro f k hf
  simp only [find] at hf
  split at hf
  ·rename_i hb; have := Nat.eq_of_beq_eq_true hb; subst this; cases hf; exact h.1
  ·exact ih h.2 f k hf
theorem env_ok {con : List (Nat × (List SVal → Nat → Acc ORes))} (h : Cons Tryz.prog (ctx ea has) gl con) : EnvOk Tryz.prog (ctx ea has) gl (env gl con) where
 tab := tab_ok
 err := err_ok ea has
 glob := rfl
 tAt := rfl
 mixed := by kernel_rfl
 con := cons_find h
 cmp := cmp_ok
abbrev Con (ea : Ear) (has : Int → Prop) (gl : List (Nat × SVal)) (f : Nat) (k : List SVal → Nat → Acc ORes) : Prop := ConOk Tryz.prog (ctx ea has) gl f k
end
end Go.Proofs.YtacmmedhjebfjaaGreatDoor
