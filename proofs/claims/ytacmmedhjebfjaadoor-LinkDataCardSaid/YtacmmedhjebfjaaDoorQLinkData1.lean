/- Contracts that the proofs use. -/
import Derived.Test.YtacmmedhjebfjaaDoorQE14
import Derived.Test.YtacmmedhjebfjaaDoorRows
set_option linter.unusedVariables false
set_option linter.unusedSimpArgs false
namespace Go.Proofs.YtacmmedhjebfjaaDoor
open Go.RowKit Go.Sy
def ti2 : TI := ⟨.int .i64, 1, 8, .int .i64 (.lit 0), none⟩
theorem ti2_ok : TiOk Tryd.prog 2 ti2 := ti_mk (i := Tryd.t2) (z := .int .i64 0) Tryd.underlying2 rfl (by kernel_rfl) (by kernel_rfl) (by kernel_rfl) (by kernel_rfl)
def ti3 : TI := ⟨.int .i64, 1, 8, .int .i64 (.lit 0), some (.i64)⟩
theorem ti3_ok : TiOk Tryd.prog 3 ti3 := ti_mk (i := Tryd.t3) (z := .int .i64 0) Tryd.underlying3 rfl (by kernel_rfl) (by kernel_rfl) (by kernel_rfl) (by kernel_rfl)
def ti4 : TI := ⟨.bool, 1, 1, .bool (.lit false), some (.bool)⟩
theorem ti4_ok : TiOk Tryd.prog 4 ti4 := ti_mk (i := Tryd.t4) (z := .bool false) Tryd.underlying4 rfl (by kernel_rfl) (by kernel_rfl) (by kernel_rfl) (by kernel_rfl)
def ti5 : TI := ⟨.int .u8, 1, 1, .int .u8 (.lit 0), some (.u8)⟩
theorem ti5_ok : TiOk Tryd.prog 5 ti5 := ti_mk (i := Tryd.t5) (z := .int .u8 0) Tryd.underlying5 rfl (by kernel_rfl) (by kernel_rfl) (by kernel_rfl) (by kernel_rfl)
def ti9 : TI := ⟨.str, 1, 16, .str ByteArray.empty, some (.str)⟩
theorem ti9_ok : TiOk Tryd.prog 9 ti9 := ti_mk (i := Tryd.t9) (z := .string ByteArray.empty) Tryd.underlying9 rfl (by kernel_rfl) (by kernel_rfl) (by kernel_rfl) (by kernel_rfl)
def ti12 : TI := ⟨.int .u64, 1, 8, .int .u64 (.lit 0), none⟩
theorem ti12_ok : TiOk Tryd.prog 12 ti12 := ti_mk (i := Tryd.t12) (z := .int .u64 0) Tryd.underlying12 rfl (by kernel_rfl) (by kernel_rfl) (by kernel_rfl) (by kernel_rfl)
def ti19 : TI := ⟨.struct [(0, 17, 1)], 1, 8, .agg [.nilptr], none⟩
theorem ti19_ok : TiOk Tryd.prog 19 ti19 := ti_mk (i := Tryd.t19) (z := .agg #[.pointer none]) Tryd.underlying19 ⟨_, rfl, (by kernel_rfl), fun f hf => by
  simp only [List.mem_cons, List.not_mem_nil, or_false] at hf
  subst hf
  ·exact ⟨Tryd.t17, by kernel_rfl, by kernel_rfl, Nat.le_of_ble_eq_true (by kernel_rfl)⟩⟩ (by kernel_rfl) (by kernel_rfl) (by kernel_rfl) (by kernel_rfl)
def ti20 : TI := ⟨.iface, 1, 16, .nilIface, none⟩
theorem ti20_ok : TiOk Tryd.prog 20 ti20 := ti_mk (i := Tryd.t20) (z := .nilIface) Tryd.underlying20 ⟨_, rfl⟩ (by kernel_rfl) (by kernel_rfl) (by kernel_rfl) (by kernel_rfl)
def ti22 : TI := ⟨.slice 52, 1, 24, .nilslice, some (.slc (.obj))⟩
theorem ti22_ok : TiOk Tryd.prog 22 ti22 := ti_mk (i := Tryd.t22) (z := .slice none 0 0) Tryd.underlying22 rfl (by kernel_rfl) (by kernel_rfl) (by kernel_rfl) (by kernel_rfl)
def ti25 : TI := ⟨.int .u32, 1, 4, .int .u32 (.lit 0), some (.u32)⟩
theorem ti25_ok : TiOk Tryd.prog 25 ti25 := ti_mk (i := Tryd.t25) (z := .int .u32 0) Tryd.underlying25 rfl (by kernel_rfl) (by kernel_rfl) (by kernel_rfl) (by kernel_rfl)
def ti26 : TI := ⟨.slice 25, 1, 24, .nilslice, some (.slc (.u32))⟩
theorem ti26_ok : TiOk Tryd.prog 26 ti26 := ti_mk (i := Tryd.t26) (z := .slice none 0 0) Tryd.underlying26 rfl (by kernel_rfl) (by kernel_rfl) (by kernel_rfl) (by kernel_rfl)
def ti27 : TI := ⟨.slice 3, 1, 24, .nilslice, some (.slc (.i64))⟩
theorem ti27_ok : TiOk Tryd.prog 27 ti27 := ti_mk (i := Tryd.t27) (z := .slice none 0 0) Tryd.underlying27 rfl (by kernel_rfl) (by kernel_rfl) (by kernel_rfl) (by kernel_rfl)
def ti29 : TI := ⟨.struct [(0, 25, 1), (1, 26, 1), (2, 26, 1), (3, 27, 1), (4, 27, 1), (5, 27, 1)], 6, 128, .agg [.int .u32 (.lit 0), .nilslice, .nilslice, .nilslice, .nilslice, .nilslice], none⟩
theorem ti29_ok : TiOk Tryd.prog 29 ti29 := ti_mk (i := Tryd.t29) (z := .agg #[.int .u32 0, .slice none 0 0, .slice none 0 0, .slice none 0 0, .slice none 0 0, .slice none 0 0]) Tryd.underlying29 ⟨_, rfl, (by kernel_rfl), fun f hf => by
  simp only [List.mem_cons, List.not_mem_nil, or_false] at hf
  rcases hf with rfl | rfl | rfl | rfl | rfl | rfl
  ·exact ⟨Tryd.t25, by kernel_rfl, by kernel_rfl, Nat.le_of_ble_eq_true (by kernel_rfl)⟩
  ·exact ⟨Tryd.t26, by kernel_rfl, by kernel_rfl, Nat.le_of_ble_eq_true (by kernel_rfl)⟩
  ·exact ⟨Tryd.t26, by kernel_rfl, by kernel_rfl, Nat.le_of_ble_eq_true (by kernel_rfl)⟩
  ·exact ⟨Tryd.t27, by kernel_rfl, by kernel_rfl, Nat.le_of_ble_eq_true (by kernel_rfl)⟩
  ·exact ⟨Tryd.t27, by kernel_rfl, by kernel_rfl, Nat.le_of_ble_eq_true (by kernel_rfl)⟩
  ·exact ⟨Tryd.t27, by kernel_rfl, by kernel_rfl, Nat.le_of_ble_eq_true (by kernel_rfl)⟩⟩ (by kernel_rfl) (by kernel_rfl) (by kernel_rfl) (by kernel_rfl)
def ti31 : TI := ⟨.iface, 1, 16, .nilIface, some (.err)⟩
theorem ti31_ok : TiOk Tryd.prog 31 ti31 := ti_mk (i := Tryd.t31) (z := .nilIface) Tryd.underlying31 ⟨_, rfl⟩ (by kernel_rfl) (by kernel_rfl) (by kernel_rfl) (by kernel_rfl)
def ti36 : TI := ⟨.struct [(0, 3, 1), (1, 3, 1), (2, 3, 1), (3, 3, 1), (4, 25, 1)], 5, 40, .agg [.int .i64 (.lit 0), .int .i64 (.lit 0), .int .i64 (.lit 0), .int .i64 (.lit 0), .int .u32 (.lit 0)], some (.instr)⟩
theorem ti36_ok : TiOk Tryd.prog 36 ti36 := ti_mk (i := Tryd.t36) (z := .agg #[.int .i64 0, .int .i64 0, .int .i64 0, .int .i64 0, .int .u32 0]) Tryd.underlying36 ⟨_, rfl, (by kernel_rfl), fun f hf => by
  simp only [List.mem_cons, List.not_mem_nil, or_false] at hf
  rcases hf with rfl | rfl | rfl | rfl | rfl
  ·exact ⟨Tryd.t3, by kernel_rfl, by kernel_rfl, Nat.le_of_ble_eq_true (by kernel_rfl)⟩
  ·exact ⟨Tryd.t3, by kernel_rfl, by kernel_rfl, Nat.le_of_ble_eq_true (by kernel_rfl)⟩
  ·exact ⟨Tryd.t3, by kernel_rfl, by kernel_rfl, Nat.le_of_ble_eq_true (by kernel_rfl)⟩
  ·exact ⟨Tryd.t3, by kernel_rfl, by kernel_rfl, Nat.le_of_ble_eq_true (by kernel_rfl)⟩
  ·exact ⟨Tryd.t25, by kernel_rfl, by kernel_rfl, Nat.le_of_ble_eq_true (by kernel_rfl)⟩⟩ (by kernel_rfl) (by kernel_rfl) (by kernel_rfl) (by kernel_rfl)
def ti43 : TI := ⟨.struct [(0, 36, 5), (5, 9, 1), (6, 9, 1), (7, 4, 1)], 8, 80, .agg [.int .i64 (.lit 0), .int .i64 (.lit 0), .int .i64 (.lit 0), .int .i64 (.lit 0), .int .u32 (.lit 0), .str ByteArray.empty, .str ByteArray.empty, .bool (.lit false)], some (.line)⟩
theorem ti43_ok : TiOk Tryd.prog 43 ti43 := ti_mk (i := Tryd.t43) (z := .agg #[.int .i64 0, .int .i64 0, .int .i64 0, .int .i64 0, .int .u32 0, .string ByteArray.empty, .string ByteArray.empty, .bool false]) Tryd.underlying43 ⟨_, rfl, (by kernel_rfl), fun f hf => by
  simp only [List.mem_cons, List.not_mem_nil, or_false] at hf
  rcases hf with rfl | rfl | rfl | rfl
  ·exact ⟨Tryd.t36, by kernel_rfl, by kernel_rfl, Nat.le_of_ble_eq_true (by kernel_rfl)⟩
  ·exact ⟨Tryd.t9, by kernel_rfl, by kernel_rfl, Nat.le_of_ble_eq_true (by kernel_rfl)⟩
  ·exact ⟨Tryd.t9, by kernel_rfl, by kernel_rfl, Nat.le_of_ble_eq_true (by kernel_rfl)⟩
  ·exact ⟨Tryd.t4, by kernel_rfl, by kernel_rfl, Nat.le_of_ble_eq_true (by kernel_rfl)⟩⟩ (by kernel_rfl) (by kernel_rfl) (by kernel_rfl) (by kernel_rfl)
def ti46 : TI := ⟨.slice 43, 1, 24, .nilslice, some (.slc (.line))⟩
theorem ti46_ok : TiOk Tryd.prog 46 ti46 := ti_mk (i := Tryd.t46) (z := .slice none 0 0) Tryd.underlying46 rfl (by kernel_rfl) (by kernel_rfl) (by kernel_rfl) (by kernel_rfl)
def ti48 : TI := ⟨.slice 5, 1, 24, .nilslice, some (.slc (.u8))⟩
theorem ti48_ok : TiOk Tryd.prog 48 ti48 := ti_mk (i := Tryd.t48) (z := .slice none 0 0) Tryd.underlying48 rfl (by kernel_rfl) (by kernel_rfl) (by kernel_rfl) (by kernel_rfl)
def ti49 : TI := ⟨.slice 69, 1, 24, .nilslice, some (.slc (.rel))⟩
theorem ti49_ok : TiOk Tryd.prog 49 ti49 := ti_mk (i := Tryd.t49) (z := .slice none 0 0) Tryd.underlying49 rfl (by kernel_rfl) (by kernel_rfl) (by kernel_rfl) (by kernel_rfl)
def ti50 : TI := ⟨.slice 67, 1, 24, .nilslice, some (.slc (.sym))⟩
theorem ti50_ok : TiOk Tryd.prog 50 ti50 := ti_mk (i := Tryd.t50) (z := .slice none 0 0) Tryd.underlying50 rfl (by kernel_rfl) (by kernel_rfl) (by kernel_rfl) (by kernel_rfl)
def ti52 : TI := ⟨.struct [(0, 26, 1), (1, 26, 1), (2, 48, 1), (3, 49, 1), (4, 49, 1), (5, 50, 1)], 6, 144, .agg [.nilslice, .nilslice, .nilslice, .nilslice, .nilslice, .nilslice], some (.obj)⟩
theorem ti52_ok : TiOk Tryd.prog 52 ti52 := ti_mk (i := Tryd.t52) (z := .agg #[.slice none 0 0, .slice none 0 0, .slice none 0 0, .slice none 0 0, .slice none 0 0, .slice none 0 0]) Tryd.underlying52 ⟨_, rfl, (by kernel_rfl), fun f hf => by
  simp only [List.mem_cons, List.not_mem_nil, or_false] at hf
  rcases hf with rfl | rfl | rfl | rfl | rfl | rfl
  ·exact ⟨Tryd.t26, by kernel_rfl, by kernel_rfl, Nat.le_of_ble_eq_true (by kernel_rfl)⟩
  ·exact ⟨Tryd.t26, by kernel_rfl, by kernel_rfl, Nat.le_of_ble_eq_true (by kernel_rfl)⟩
  ·exact ⟨Tryd.t48, by kernel_rfl, by kernel_rfl, Nat.le_of_ble_eq_true (by kernel_rfl)⟩
  ·exact ⟨Tryd.t49, by kernel_rfl, by kernel_rfl, Nat.le_of_ble_eq_true (by kernel_rfl)⟩
  ·exact ⟨Tryd.t49, by kernel_rfl, by kernel_rfl, Nat.le_of_ble_eq_true (by kernel_rfl)⟩
  ·exact ⟨Tryd.t50, by kernel_rfl, by kernel_rfl, Nat.le_of_ble_eq_true (by kernel_rfl)⟩⟩ (by kernel_rfl) (by kernel_rfl) (by kernel_rfl) (by kernel_rfl)
def ti58 : TI := ⟨.int .u64, 1, 8, .int .u64 (.lit 0), none⟩
theorem ti58_ok : TiOk Tryd.prog 58 ti58 := ti_mk (i := Tryd.t58) (z := .int .u64 0) Tryd.underlying58 rfl (by kernel_rfl) (by kernel_rfl) (by kernel_rfl) (by kernel_rfl)
def ti61 : TI := ⟨.slice 9, 1, 24, .nilslice, some (.slc (.str))⟩
theorem ti61_ok : TiOk Tryd.prog 61 ti61 := ti_mk (i := Tryd.t61) (z := .slice none 0 0) Tryd.underlying61 rfl (by kernel_rfl) (by kernel_rfl) (by kernel_rfl) (by kernel_rfl)
def ti67 : TI := ⟨.struct [(0, 9, 1), (1, 3, 1), (2, 3, 1), (3, 4, 1)], 4, 40, .agg [.str ByteArray.empty, .int .i64 (.lit 0), .int .i64 (.lit 0), .bool (.lit false)], some (.sym)⟩
theorem ti67_ok : TiOk Tryd.prog 67 ti67 := ti_mk (i := Tryd.t67) (z := .agg #[.string ByteArray.empty, .int .i64 0, .int .i64 0, .bool false]) Tryd.underlying67 ⟨_, rfl, (by kernel_rfl), fun f hf => by
  simp only [List.mem_cons, List.not_mem_nil, or_false] at hf
  rcases hf with rfl | rfl | rfl | rfl
  ·exact ⟨Tryd.t9, by kernel_rfl, by kernel_rfl, Nat.le_of_ble_eq_true (by kernel_rfl)⟩
  ·exact ⟨Tryd.t3, by kernel_rfl, by kernel_rfl, Nat.le_of_ble_eq_true (by kernel_rfl)⟩
  ·exact ⟨Tryd.t3, by kernel_rfl, by kernel_rfl, Nat.le_of_ble_eq_true (by kernel_rfl)⟩
  ·exact ⟨Tryd.t4, by kernel_rfl, by kernel_rfl, Nat.le_of_ble_eq_true (by kernel_rfl)⟩⟩ (by kernel_rfl) (by kernel_rfl) (by kernel_rfl) (by kernel_rfl)
def ti69 : TI := ⟨.struct [(0, 3, 1), (1, 3, 1), (2, 3, 1), (3, 3, 1)], 4, 32, .agg [.int .i64 (.lit 0), .int .i64 (.lit 0), .int .i64 (.lit 0), .int .i64 (.lit 0)], some (.rel)⟩
theorem ti69_ok : TiOk Tryd.prog 69 ti69 := ti_mk (i := Tryd.t69) (z := .agg #[.int .i64 0, .int .i64 0, .int .i64 0, .int .i64 0]) Tryd.underlying69 ⟨_, rfl, (by kernel_rfl), fun f hf => by
  simp only [List.mem_cons, List.not_mem_nil, or_false] at hf
  rcases hf with rfl | rfl | rfl | rfl
  ·exact ⟨Tryd.t3, by kernel_rfl, by kernel_rfl, Nat.le_of_ble_eq_true (by kernel_rfl)⟩
  ·exact ⟨Tryd.t3, by kernel_rfl, by kernel_rfl, Nat.le_of_ble_eq_true (by kernel_rfl)⟩
  ·exact ⟨Tryd.t3, by kernel_rfl, by kernel_rfl, Nat.le_of_ble_eq_true (by kernel_rfl)⟩
  ·exact ⟨Tryd.t3, by kernel_rfl, by kernel_rfl, Nat.le_of_ble_eq_true (by kernel_rfl)⟩⟩ (by kernel_rfl) (by kernel_rfl) (by kernel_rfl) (by kernel_rfl)
def ti72 : TI := ⟨.ptr 91, 1, 8, .nilptr, none⟩
theorem ti72_ok : TiOk Tryd.prog 72 ti72 := ti_mk (i := Tryd.t72) (z := .pointer none) Tryd.underlying72 rfl (by kernel_rfl) (by kernel_rfl) (by kernel_rfl) (by kernel_rfl)
def ti80 : TI := ⟨.ptr 52, 1, 8, .nilptr, none⟩
theorem ti80_ok : TiOk Tryd.prog 80 ti80 := ti_mk (i := Tryd.t80) (z := .pointer none) Tryd.underlying80 rfl (by kernel_rfl) (by kernel_rfl) (by kernel_rfl) (by kernel_rfl)
def ti81 : TI := ⟨.slice 27, 1, 24, .nilslice, some (.slc (.slc (.i64)))⟩
theorem ti81_ok : TiOk Tryd.prog 81 ti81 := ti_mk (i := Tryd.t81) (z := .slice none 0 0) Tryd.underlying81 rfl (by kernel_rfl) (by kernel_rfl) (by kernel_rfl) (by kernel_rfl)
def ti85 : TI := ⟨.map 9 94, 1, 8, .nilmap, some (.fmap (.str) (.flat (.int .i64) [.int .i64]))⟩
theorem ti85_ok : TiOk Tryd.prog 85 ti85 := ti_mk (i := Tryd.t85) (z := .map none) Tryd.underlying85 rfl (by kernel_rfl) (by kernel_rfl) (by kernel_rfl) (by kernel_rfl)
def ti86 : TI := ⟨.slice 117, 1, 24, .nilslice, some (.slc (.flat (.int .i64) [.int .i64, .bool]))⟩
theorem ti86_ok : TiOk Tryd.prog 86 ti86 := ti_mk (i := Tryd.t86) (z := .slice none 0 0) Tryd.underlying86 rfl (by kernel_rfl) (by kernel_rfl) (by kernel_rfl) (by kernel_rfl)
def ti87 : TI := ⟨.slice 94, 1, 24, .nilslice, some (.slc (.flat (.int .i64) [.int .i64]))⟩
theorem ti87_ok : TiOk Tryd.prog 87 ti87 := ti_mk (i := Tryd.t87) (z := .slice none 0 0) Tryd.underlying87 rfl (by kernel_rfl) (by kernel_rfl) (by kernel_rfl) (by kernel_rfl)
def ti88 : TI := ⟨.slice 92, 1, 24, .nilslice, some (.slc (.fmap (.int .i64) (.i64)))⟩
theorem ti88_ok : TiOk Tryd.prog 88 ti88 := ti_mk (i := Tryd.t88) (z := .slice none 0 0) Tryd.underlying88 rfl (by kernel_rfl) (by kernel_rfl) (by kernel_rfl) (by kernel_rfl)
def ti89 : TI := ⟨.slice 4, 1, 24, .nilslice, some (.slc (.bool))⟩
theorem ti89_ok : TiOk Tryd.prog 89 ti89 := ti_mk (i := Tryd.t89) (z := .slice none 0 0) Tryd.underlying89 rfl (by kernel_rfl) (by kernel_rfl) (by kernel_rfl) (by kernel_rfl)
def ti91 : TI := ⟨.struct [(0, 22, 1), (1, 85, 1), (2, 27, 1), (3, 86, 1), (4, 87, 1), (5, 88, 1), (6, 27, 1), (7, 89, 1)], 8, 176, .agg [.nilslice, .nilmap, .nilslice, .nilslice, .nilslice, .nilslice, .nilslice, .nilslice], none⟩
theorem ti91_ok : TiOk Tryd.prog 91 ti91 := ti_mk (i := Tryd.t91) (z := .agg #[.slice none 0 0, .map none, .slice none 0 0, .slice none 0 0, .slice none 0 0, .slice none 0 0, .slice none 0 0, .slice none 0 0]) Tryd.underlying91 ⟨_, rfl, (by kernel_rfl), fun f hf => by
  simp only [List.mem_cons, List.not_mem_nil, or_false] at hf
  rcases hf with rfl | rfl | rfl | rfl | rfl | rfl | rfl | rfl
  ·exact ⟨Tryd.t22, by kernel_rfl, by kernel_rfl, Nat.le_of_ble_eq_true (by kernel_rfl)⟩
  ·exact ⟨Tryd.t85, by kernel_rfl, by kernel_rfl, Nat.le_of_ble_eq_true (by kernel_rfl)⟩
  ·exact ⟨Tryd.t27, by kernel_rfl, by kernel_rfl, Nat.le_of_ble_eq_true (by kernel_rfl)⟩
  ·exact ⟨Tryd.t86, by kernel_rfl, by kernel_rfl, Nat.le_of_ble_eq_true (by kernel_rfl)⟩
  ·exact ⟨Tryd.t87, by kernel_rfl, by kernel_rfl, Nat.le_of_ble_eq_true (by kernel_rfl)⟩
  ·exact ⟨Tryd.t88, by kernel_rfl, by kernel_rfl, Nat.le_of_ble_eq_true (by kernel_rfl)⟩
  ·exact ⟨Tryd.t27, by kernel_rfl, by kernel_rfl, Nat.le_of_ble_eq_true (by kernel_rfl)⟩
  ·exact ⟨Tryd.t89, by kernel_rfl, by kernel_rfl, Nat.le_of_ble_eq_true (by kernel_rfl)⟩⟩ (by kernel_rfl) (by kernel_rfl) (by kernel_rfl) (by kernel_rfl)
def ti92 : TI := ⟨.map 3 3, 1, 8, .nilmap, some (.fmap (.int .i64) (.i64))⟩
theorem ti92_ok : TiOk Tryd.prog 92 ti92 := ti_mk (i := Tryd.t92) (z := .map none) Tryd.underlying92 rfl (by kernel_rfl) (by kernel_rfl) (by kernel_rfl) (by kernel_rfl)
def ti94 : TI := ⟨.struct [(0, 3, 1), (1, 3, 1)], 2, 16, .agg [.int .i64 (.lit 0), .int .i64 (.lit 0)], some (.flat (.int .i64) [.int .i64])⟩
theorem ti94_ok : TiOk Tryd.prog 94 ti94 := ti_mk (i := Tryd.t94) (z := .agg #[.int .i64 0, .int .i64 0]) Tryd.underlying94 ⟨_, rfl, (by kernel_rfl), fun f hf => by
  simp only [List.mem_cons, List.not_mem_nil, or_false] at hf
  rcases hf with rfl | rfl
  ·exact ⟨Tryd.t3, by kernel_rfl, by kernel_rfl, Nat.le_of_ble_eq_true (by kernel_rfl)⟩
  ·exact ⟨Tryd.t3, by kernel_rfl, by kernel_rfl, Nat.le_of_ble_eq_true (by kernel_rfl)⟩⟩ (by kernel_rfl) (by kernel_rfl) (by kernel_rfl) (by kernel_rfl)
def ti100 : TI := ⟨.slice 101, 1, 24, .nilslice, some (.slc (.fmap (.int .i64) (.rel)))⟩
theorem ti100_ok : TiOk Tryd.prog 100 ti100 := ti_mk (i := Tryd.t100) (z := .slice none 0 0) Tryd.underlying100 rfl (by kernel_rfl) (by kernel_rfl) (by kernel_rfl) (by kernel_rfl)
def ti101 : TI := ⟨.map 3 69, 1, 8, .nilmap, some (.fmap (.int .i64) (.rel))⟩
theorem ti101_ok : TiOk Tryd.prog 101 ti101 := ti_mk (i := Tryd.t101) (z := .map none) Tryd.underlying101 rfl (by kernel_rfl) (by kernel_rfl) (by kernel_rfl) (by kernel_rfl)
def ti103 : TI := ⟨.ptr 29, 1, 8, .nilptr, none⟩
theorem ti103_ok : TiOk Tryd.prog 103 ti103 := ti_mk (i := Tryd.t103) (z := .pointer none) Tryd.underlying103 rfl (by kernel_rfl) (by kernel_rfl) (by kernel_rfl) (by kernel_rfl)
def ti111 : TI := ⟨.func, 1, 8, .nilFunc, none⟩
theorem ti111_ok : TiOk Tryd.prog 111 ti111 := ti_mk (i := Tryd.t111) (z := .nilFunc) Tryd.underlying111 ⟨_, _, _, rfl⟩ (by kernel_rfl) (by kernel_rfl) (by kernel_rfl) (by kernel_rfl)
def ti112 : TI := ⟨.ptr 114, 1, 8, .nilptr, none⟩
theorem ti112_ok : TiOk Tryd.prog 112 ti112 := ti_mk (i := Tryd.t112) (z := .pointer none) Tryd.underlying112 rfl (by kernel_rfl) (by kernel_rfl) (by kernel_rfl) (by kernel_rfl)
def ti114 : TI := ⟨.struct [(0, 3, 1), (1, 31, 1)], 2, 24, .agg [.int .i64 (.lit 0), .nilIface], none⟩
theorem ti114_ok : TiOk Tryd.prog 114 ti114 := ti_mk (i := Tryd.t114) (z := .agg #[.int .i64 0, .nilIface]) Tryd.underlying114 ⟨_, rfl, (by kernel_rfl), fun f hf => by
  simp only [List.mem_cons, List.not_mem_nil, or_false] at hf
  rcases hf with rfl | rfl
  ·exact ⟨Tryd.t3, by kernel_rfl, by kernel_rfl, Nat.le_of_ble_eq_true (by kernel_rfl)⟩
  ·exact ⟨Tryd.t31, by kernel_rfl, by kernel_rfl, Nat.le_of_ble_eq_true (by kernel_rfl)⟩⟩ (by kernel_rfl) (by kernel_rfl) (by kernel_rfl) (by kernel_rfl)
def ti117 : TI := ⟨.struct [(0, 3, 1), (1, 3, 1), (2, 4, 1)], 3, 24, .agg [.int .i64 (.lit 0), .int .i64 (.lit 0), .bool (.lit false)], some (.flat (.int .i64) [.int .i64, .bool])⟩
theorem ti117_ok : TiOk Tryd.prog 117 ti117 := ti_mk (i := Tryd.t117) (z := .agg #[.int .i64 0, .int .i64 0, .bool false]) Tryd.underlying117 ⟨_, rfl, (by kernel_rfl), fun f hf => by
  simp only [List.mem_cons, List.not_mem_nil, or_false] at hf
  rcases hf with rfl | rfl | rfl
  ·exact ⟨Tryd.t3, by kernel_rfl, by kernel_rfl, Nat.le_of_ble_eq_true (by kernel_rfl)⟩
  ·exact ⟨Tryd.t3, by kernel_rfl, by kernel_rfl, Nat.le_of_ble_eq_true (by kernel_rfl)⟩
  ·exact ⟨Tryd.t4, by kernel_rfl, by kernel_rfl, Nat.le_of_ble_eq_true (by kernel_rfl)⟩⟩ (by kernel_rfl) (by kernel_rfl) (by kernel_rfl) (by kernel_rfl)
def ti120 : TI := ⟨.struct [], 0, 0, .agg [], none⟩
theorem ti120_ok : TiOk Tryd.prog 120 ti120 := ti_mk (i := Tryd.t120) (z := .agg #[]) Tryd.underlying120 ⟨_, rfl, (by kernel_rfl), fun f hf => by
  simp at hf⟩ (by kernel_rfl) (by kernel_rfl) (by kernel_rfl) (by kernel_rfl)
def ti122 : TI := ⟨.ptr 117, 1, 8, .nilptr, none⟩
theorem ti122_ok : TiOk Tryd.prog 122 ti122 := ti_mk (i := Tryd.t122) (z := .pointer none) Tryd.underlying122 rfl (by kernel_rfl) (by kernel_rfl) (by kernel_rfl) (by kernel_rfl)
def ti127 : TI := ⟨.slice 132, 1, 24, .nilslice, some (.slc (.site))⟩
theorem ti127_ok : TiOk Tryd.prog 127 ti127 := ti_mk (i := Tryd.t127) (z := .slice none 0 0) Tryd.underlying127 rfl (by kernel_rfl) (by kernel_rfl) (by kernel_rfl) (by kernel_rfl)
def ti132 : TI := ⟨.struct [(0, 3, 1), (1, 3, 1), (2, 36, 5)], 7, 56, .agg [.int .i64 (.lit 0), .int .i64 (.lit 0), .int .i64 (.lit 0), .int .i64 (.lit 0), .int .i64 (.lit 0), .int .i64 (.lit 0), .int .u32 (.lit 0)], some (.site)⟩
theorem ti132_ok : TiOk Tryd.prog 132 ti132 := ti_mk (i := Tryd.t132) (z := .agg #[.int .i64 0, .int .i64 0, .int .i64 0, .int .i64 0, .int .i64 0, .int .i64 0, .int .u32 0]) Tryd.underlying132 ⟨_, rfl, (by kernel_rfl), fun f hf => by
  simp only [List.mem_cons, List.not_mem_nil, or_false] at hf
  rcases hf with rfl | rfl | rfl
  ·exact ⟨Tryd.t3, by kernel_rfl, by kernel_rfl, Nat.le_of_ble_eq_true (by kernel_rfl)⟩
  ·exact ⟨Tryd.t3, by kernel_rfl, by kernel_rfl, Nat.le_of_ble_eq_true (by kernel_rfl)⟩
  ·exact ⟨Tryd.t36, by kernel_rfl, by kernel_rfl, Nat.le_of_ble_eq_true (by kernel_rfl)⟩⟩ (by kernel_rfl) (by kernel_rfl) (by kernel_rfl) (by kernel_rfl)
def ti133 : TI := ⟨.ptr 67, 1, 8, .nilptr, none⟩
theorem ti133_ok : TiOk Tryd.prog 133 ti133 := ti_mk (i := Tryd.t133) (z := .pointer none) Tryd.underlying133 rfl (by kernel_rfl) (by kernel_rfl) (by kernel_rfl) (by kernel_rfl)
def ti135 : TI := ⟨.ptr 112, 1, 8, .nilptr, none⟩
theorem ti135_ok : TiOk Tryd.prog 135 ti135 := ti_mk (i := Tryd.t135) (z := .pointer none) Tryd.underlying135 rfl (by kernel_rfl) (by kernel_rfl) (by kernel_rfl) (by kernel_rfl)
def ti138 : TI := ⟨.map 9 3, 1, 8, .nilmap, some (.fmap (.str) (.i64))⟩
theorem ti138_ok : TiOk Tryd.prog 138 ti138 := ti_mk (i := Tryd.t138) (z := .map none) Tryd.underlying138 rfl (by kernel_rfl) (by kernel_rfl) (by kernel_rfl) (by kernel_rfl)
def ti143 : TI := ⟨.func, 1, 8, .nilFunc, none⟩
theorem ti143_ok : TiOk Tryd.prog 143 ti143 := ti_mk (i := Tryd.t143) (z := .nilFunc) Tryd.underlying143 ⟨_, _, _, rfl⟩ (by kernel_rfl) (by kernel_rfl) (by kernel_rfl) (by kernel_rfl)
def ti148 : TI := ⟨.func, 1, 8, .nilFunc, none⟩
theorem ti148_ok : TiOk Tryd.prog 148 ti148 := ti_mk (i := Tryd.t148) (z := .nilFunc) Tryd.underlying148 ⟨_, _, _, rfl⟩ (by kernel_rfl) (by kernel_rfl) (by kernel_rfl) (by kernel_rfl)
def ti154 : TI := ⟨.int .u64, 1, 8, .int .u64 (.lit 0), none⟩
theorem ti154_ok : TiOk Tryd.prog 154 ti154 := ti_mk (i := Tryd.t154) (z := .int .u64 0) Tryd.underlying154 rfl (by kernel_rfl) (by kernel_rfl) (by kernel_rfl) (by kernel_rfl)
def ti159 : TI := ⟨.iface, 1, 16, .nilIface, none⟩
theorem ti159_ok : TiOk Tryd.prog 159 ti159 := ti_mk (i := Tryd.t159) (z := .nilIface) Tryd.underlying159 ⟨_, rfl⟩ (by kernel_rfl) (by kernel_rfl) (by kernel_rfl) (by kernel_rfl)
def ti165 : TI := ⟨.arr 24 5, 24, 24, .arr .u8 24 (List.replicate 24 0), none⟩
theorem ti165_ok : TiOk Tryd.prog 165 ti165 := ti_mk (i := Tryd.t165) (z := .agg #[.int .u8 0, .int .u8 0, .int .u8 0, .int .u8 0, .int .u8 0, .int .u8 0, .int .u8 0, .int .u8 0, .int .u8 0, .int .u8 0, .int .u8 0, .int .u8 0, .int .u8 0, .int .u8 0, .int .u8 0, .int .u8 0, .int .u8 0, .int .u8 0, .int .u8 0, .int .u8 0, .int .u8 0, .int .u8 0, .int .u8 0, .int .u8 0]) Tryd.underlying165 rfl (by kernel_rfl) (by kernel_rfl) (by kernel_rfl) (by kernel_rfl)
def ti166 : TI := ⟨.int .u64, 1, 8, .int .u64 (.lit 0), none⟩
theorem ti166_ok : TiOk Tryd.prog 166 ti166 := ti_mk (i := Tryd.t166) (z := .int .u64 0) Tryd.underlying166 rfl (by kernel_rfl) (by kernel_rfl) (by kernel_rfl) (by kernel_rfl)
def ti174 : TI := ⟨.struct [(0, 17, 1)], 1, 8, .agg [.nilptr], none⟩
theorem ti174_ok : TiOk Tryd.prog 174 ti174 := ti_mk (i := Tryd.t174) (z := .agg #[.pointer none]) Tryd.underlying174 ⟨_, rfl, (by kernel_rfl), fun f hf => by
  simp only [List.mem_cons, List.not_mem_nil, or_false] at hf
  subst hf
  ·exact ⟨Tryd.t17, by kernel_rfl, by kernel_rfl, Nat.le_of_ble_eq_true (by kernel_rfl)⟩⟩ (by kernel_rfl) (by kernel_rfl) (by kernel_rfl) (by kernel_rfl)
def ti175 : TI := ⟨.ptr 212, 1, 8, .nilptr, none⟩
theorem ti175_ok : TiOk Tryd.prog 175 ti175 := ti_mk (i := Tryd.t175) (z := .pointer none) Tryd.underlying175 rfl (by kernel_rfl) (by kernel_rfl) (by kernel_rfl) (by kernel_rfl)
def ti179 : TI := ⟨.iface, 1, 16, .nilIface, none⟩
theorem ti179_ok : TiOk Tryd.prog 179 ti179 := ti_mk (i := Tryd.t179) (z := .nilIface) Tryd.underlying179 ⟨_, rfl⟩ (by kernel_rfl) (by kernel_rfl) (by kernel_rfl) (by kernel_rfl)
def ti182 : TI := ⟨.iface, 1, 16, .nilIface, none⟩
theorem ti182_ok : TiOk Tryd.prog 182 ti182 := ti_mk (i := Tryd.t182) (z := .nilIface) Tryd.underlying182 ⟨_, rfl⟩ (by kernel_rfl) (by kernel_rfl) (by kernel_rfl) (by kernel_rfl)
def ti183 : TI := ⟨.iface, 1, 16, .nilIface, none⟩
theorem ti183_ok : TiOk Tryd.prog 183 ti183 := ti_mk (i := Tryd.t183) (z := .nilIface) Tryd.underlying183 ⟨_, rfl⟩ (by kernel_rfl) (by kernel_rfl) (by kernel_rfl) (by kernel_rfl)
def ti184 : TI := ⟨.slice 31, 1, 24, .nilslice, some (.slc (.err))⟩
theorem ti184_ok : TiOk Tryd.prog 184 ti184 := ti_mk (i := Tryd.t184) (z := .slice none 0 0) Tryd.underlying184 rfl (by kernel_rfl) (by kernel_rfl) (by kernel_rfl) (by kernel_rfl)
def ti188 : TI := ⟨.arr 65 5, 65, 65, .arr .u8 65 (List.replicate 65 0), none⟩
theorem ti188_ok : TiOk Tryd.prog 188 ti188 := ti_mk (i := Tryd.t188) (z := .agg #[.int .u8 0, .int .u8 0, .int .u8 0, .int .u8 0, .int .u8 0, .int .u8 0, .int .u8 0, .int .u8 0, .int .u8 0, .int .u8 0, .int .u8 0, .int .u8 0, .int .u8 0, .int .u8 0, .int .u8 0, .int .u8 0, .int .u8 0, .int .u8 0, .int .u8 0, .int .u8 0, .int .u8 0, .int .u8 0, .int .u8 0, .int .u8 0, .int .u8 0, .int .u8 0, .int .u8 0, .int .u8 0, .int .u8 0, .int .u8 0, .int .u8 0, .int .u8 0, .int .u8 0, .int .u8 0, .int .u8 0, .int .u8 0, .int .u8 0, .int .u8 0, .int .u8 0, .int .u8 0, .int .u8 0, .int .u8 0, .int .u8 0, .int .u8 0, .int .u8 0, .int .u8 0, .int .u8 0, .int .u8 0, .int .u8 0, .int .u8 0, .int .u8 0, .int .u8 0, .int .u8 0, .int .u8 0, .int .u8 0, .int .u8 0, .int .u8 0, .int .u8 0, .int .u8 0, .int .u8 0, .int .u8 0, .int .u8 0, .int .u8 0, .int .u8 0, .int .u8 0]) Tryd.underlying188 rfl (by kernel_rfl) (by kernel_rfl) (by kernel_rfl) (by kernel_rfl)
def ti191 : TI := ⟨.arr 32 5, 32, 32, .arr .u8 32 (List.replicate 32 0), none⟩
theorem ti191_ok : TiOk Tryd.prog 191 ti191 := ti_mk (i := Tryd.t191) (z := .agg #[.int .u8 0, .int .u8 0, .int .u8 0, .int .u8 0, .int .u8 0, .int .u8 0, .int .u8 0, .int .u8 0, .int .u8 0, .int .u8 0, .int .u8 0, .int .u8 0, .int .u8 0, .int .u8 0, .int .u8 0, .int .u8 0, .int .u8 0, .int .u8 0, .int .u8 0, .int .u8 0, .int .u8 0, .int .u8 0, .int .u8 0, .int .u8 0, .int .u8 0, .int .u8 0, .int .u8 0, .int .u8 0, .int .u8 0, .int .u8 0, .int .u8 0, .int .u8 0]) Tryd.underlying191 rfl (by kernel_rfl) (by kernel_rfl) (by kernel_rfl) (by kernel_rfl)
def ti192 : TI := ⟨.arr 64 5, 64, 64, .arr .u8 64 (List.replicate 64 0), none⟩
theorem ti192_ok : TiOk Tryd.prog 192 ti192 := ti_mk (i := Tryd.t192) (z := .agg #[.int .u8 0, .int .u8 0, .int .u8 0, .int .u8 0, .int .u8 0, .int .u8 0, .int .u8 0, .int .u8 0, .int .u8 0, .int .u8 0, .int .u8 0, .int .u8 0, .int .u8 0, .int .u8 0, .int .u8 0, .int .u8 0, .int .u8 0, .int .u8 0, .int .u8 0, .int .u8 0, .int .u8 0, .int .u8 0, .int .u8 0, .int .u8 0, .int .u8 0, .int .u8 0, .int .u8 0, .int .u8 0, .int .u8 0, .int .u8 0, .int .u8 0, .int .u8 0, .int .u8 0, .int .u8 0, .int .u8 0, .int .u8 0, .int .u8 0, .int .u8 0, .int .u8 0, .int .u8 0, .int .u8 0, .int .u8 0, .int .u8 0, .int .u8 0, .int .u8 0, .int .u8 0, .int .u8 0, .int .u8 0, .int .u8 0, .int .u8 0, .int .u8 0, .int .u8 0, .int .u8 0, .int .u8 0, .int .u8 0, .int .u8 0, .int .u8 0, .int .u8 0, .int .u8 0, .int .u8 0, .int .u8 0, .int .u8 0, .int .u8 0, .int .u8 0]) Tryd.underlying192 rfl (by kernel_rfl) (by kernel_rfl) (by kernel_rfl) (by kernel_rfl)
def ti212 : TI := ⟨.struct [(0, 9, 1), (1, 161, 1)], 2, 24, .agg [.str ByteArray.empty, .int .u8 (.lit 0)], some (.flat (.str) [.int .u8])⟩
theorem ti212_ok : TiOk Tryd.prog 212 ti212 := ti_mk (i := Tryd.t212) (z := .agg #[.string ByteArray.empty, .int .u8 0]) Tryd.underlying212 ⟨_, rfl, (by kernel_rfl), fun f hf => by
  simp only [List.mem_cons, List.not_mem_nil, or_false] at hf
  rcases hf with rfl | rfl
  ·exact ⟨Tryd.t9, by kernel_rfl, by kernel_rfl, Nat.le_of_ble_eq_true (by kernel_rfl)⟩
  ·exact ⟨Tryd.t161, by kernel_rfl, by kernel_rfl, Nat.le_of_ble_eq_true (by kernel_rfl)⟩⟩ (by kernel_rfl) (by kernel_rfl) (by kernel_rfl) (by kernel_rfl)
def ti225 : TI := ⟨.ptr 31, 1, 8, .nilptr, none⟩
theorem ti225_ok : TiOk Tryd.prog 225 ti225 := ti_mk (i := Tryd.t225) (z := .pointer none) Tryd.underlying225 rfl (by kernel_rfl) (by kernel_rfl) (by kernel_rfl) (by kernel_rfl)
def tab : List (Nat × TI) := [(2, ti2), (3, ti3), (4, ti4), (5, ti5), (9, ti9), (12, ti12), (19, ti19), (20, ti20), (22, ti22), (25, ti25), (26, ti26), (27, ti27), (29, ti29), (31, ti31), (36, ti36), (43, ti43), (46, ti46), (48, ti48), (49, ti49), (50, ti50), (52, ti52), (58, ti58), (61, ti61), (67, ti67), (69, ti69), (72, ti72), (80, ti80), (81, ti81), (85, ti85), (86, ti86), (87, ti87), (88, ti88), (89, ti89), (91, ti91), (92, ti92), (94, ti94), (100, ti100), (101, ti101), (103, ti103), (111, ti111), (112, ti112), (114, ti114), (117, ti117), (120, ti120), (122, ti122), (127, ti127), (132, ti132), (133, ti133), (135, ti135), (138, ti138), (143, ti143), (148, ti148), (154, ti154), (159, ti159), (165, ti165), (166, ti166), (174, ti174), (175, ti175), (179, ti179), (182, ti182), (183, ti183), (184, ti184), (188, ti188), (191, ti191), (192, ti192), (212, ti212), (225, ti225)]
theorem tab_ok : ∀ t ti, find t tab = some ti → TiOk Tryd.prog t ti := by
 refine AllTi.find ?_
 unfold tab
 refine .cons ti2_ok ?_
 refine .cons ti3_ok ?_
 refine .cons ti4_ok ?_
 refine .cons ti5_ok ?_
 refine .cons ti9_ok ?_
 refine .cons ti12_ok ?_
 refine .cons ti19_ok ?_
 refine .cons ti20_ok ?_
 refine .cons ti22_ok ?_
 refine .cons ti25_ok ?_
 refine .cons ti26_ok ?_
 refine .cons ti27_ok ?_
 refine .cons ti29_ok ?_
 refine .cons ti31_ok ?_
 refine .cons ti36_ok ?_
 refine .cons ti43_ok ?_
 refine .cons ti46_ok ?_
 refine .cons ti48_ok ?_
 refine .cons ti49_ok ?_
 refine .cons ti50_ok ?_
 refine .cons ti52_ok ?_
 refine .cons ti58_ok ?_
 refine .cons ti61_ok ?_
 refine .cons ti67_ok ?_
 refine .cons ti69_ok ?_
 refine .cons ti72_ok ?_
 refine .cons ti80_ok ?_
 refine .cons ti81_ok ?_
 refine .cons ti85_ok ?_
 refine .cons ti86_ok ?_
 refine .cons ti87_ok ?_
 refine .cons ti88_ok ?_
 refine .cons ti89_ok ?_
 refine .cons ti91_ok ?_
 refine .cons ti92_ok ?_
 refine .cons ti94_ok ?_
 refine .cons ti100_ok ?_
 refine .cons ti101_ok ?_
 refine .cons ti103_ok ?_
 refine .cons ti111_ok ?_
 refine .cons ti112_ok ?_
 refine .cons ti114_ok ?_
 refine .cons ti117_ok ?_
 refine .cons ti120_ok ?_
 refine .cons ti122_ok ?_
 refine .cons ti127_ok ?_
 refine .cons ti132_ok ?_
 refine .cons ti133_ok ?_
 refine .cons ti135_ok ?_
 refine .cons ti138_ok ?_
 refine .cons ti143_ok ?_
 refine .cons ti148_ok ?_
 refine .cons ti154_ok ?_
 refine .cons ti159_ok ?_
 refine .cons ti165_ok ?_
 refine .cons ti166_ok ?_
 refine .cons ti174_ok ?_
 refine .cons ti175_ok ?_
 refine .cons ti179_ok ?_
 refine .cons ti182_ok ?_
 refine .cons ti183_ok ?_
 refine .cons ti184_ok ?_
 refine .cons ti188_ok ?_
 refine .cons ti191_ok ?_
 refine .cons ti192_ok ?_
 refine .cons ti212_ok ?_
 refine .cons ti225_ok ?_
 exact .nil
end Go.Proofs.YtacmmedhjebfjaaDoor
set_option linter.unusedVariables false
set_option linter.unusedSimpArgs false
namespace Go.Proofs.YtacmmedhjebfjaaDoor
open Go.RowKit Go.Sy
def G7 : List (Nat × SVal) := [(3, .rop [.err (.bare 102)]), (7, .rop [.err (.bare 103)]), (1, .rop [.err (.bare 104)]), (6, .rop [.err (.bare 105)]), (2, .rop [.err (.bare 106)]), (0, .rop [.err (.bare 107)]), (4, .rop [.err (.bare 109)])]
abbrev tAtN : Nat := 112
abbrev ctx (ea : Ear) (has : Int → Prop) : Ctx := ⟨ea.f, 193, tAtN, has, ea.fix⟩
def cmpT : List Nat := [69, 67]
theorem cmp_ok : ∀ t, cmpT.contains t = true → CmpOk Tryd.prog t := by
 intro t ht
 have nm : ∀ t, ((Tryd.prog.fieldsOf t).toList.all fun f => f.name != "_") = true → ∀ f ∈ (Tryd.prog.fieldsOf t).toList, f.name ≠ "_" := fun t h f hf => by
  have := List.all_eq_true.1 h f hf
  simpa using this
 simp [cmpT] at ht
 rcases ht with rfl | rfl
 ·exact ⟨by kernel_rfl, by kernel_rfl, nm _ (by kernel_rfl)⟩
 ·exact ⟨by kernel_rfl, by kernel_rfl, nm _ (by kernel_rfl)⟩
abbrev env (gl : List (Nat × SVal)) (con : List (Nat × (List SVal → Nat → Acc ORes))) : Env := { tab := tab, con := con, glob := gl, tAt := tAtN, cmp := cmpT }
theorem err_ok (ea : Ear) (has : Int → Prop) : ErrOk Tryd.prog (ctx ea has) where
 tE := ⟨_, Tryd.t193, Tryd.t214, Tryd.underlying193, by kernel_rfl, by kernel_rfl, by kernel_rfl, Nat.ne_of_beq_eq_false (by kernel_rfl)⟩
 tAt := ⟨_, Tryd.underlying112⟩
section
variable {ea : Ear} {has : Int → Prop} {gl : List (Nat × SVal)}
def Cons (P : Program) (C : Ctx) (gl : List (Nat × SVal)) : List (Nat × (List SVal → Nat → Acc ORes)) → Prop
 | [] => True
 | (f, k) :: l => ConOk P C gl f k ∧ Cons P C gl l
theorem cons_find {P : Program} {C : Ctx} {l : List (Nat × (List SVal → Nat → Acc ORes))} (h : Cons P C gl l) : ∀ f k, find f l = some k → ConOk P C gl f k := by
 induction l with
 | nil => intro f k hf; cases hf
 | cons p l ih =>
  obtain ⟨g, k'⟩ := p
  intro f k hf
  simp only [find] at hf
  split at hf
  ·rename_i hb; have := Nat.eq_of_beq_eq_true hb; subst this; cases hf; exact h.1
  ·exact ih h.2 f k hf
theorem env_ok {con : List (Nat × (List SVal → Nat → Acc ORes))} (h : Cons Tryd.prog (ctx ea has) gl con) : EnvOk Tryd.prog (ctx ea has) gl (env gl con) where
 tab := tab_ok
 err := err_ok ea has
 glob := rfl
 tAt := rfl
 mixed := by kernel_rfl
 con := cons_find h
 cmp := cmp_ok
abbrev Con (ea : Ear) (has : Int → Prop) (gl : List (Nat × SVal)) (f : Nat) (k : List SVal → Nat → Acc ORes) : Prop := ConOk Tryd.prog (ctx ea has) gl f k
end
end Go.Proofs.YtacmmedhjebfjaaDoor
