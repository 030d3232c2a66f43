/-
  DERIVED. GIVEN WITH THE SEED: THE PROGRAM's TIES (one call each: nine closed facts by the kernel) AND EACH ROW's TIE, after the 31st guide's Derived/Test/Toyas{Tie, Card}.lean. No idea stands in it: it is a product of the set-up. Laid BY PROGRAM, IN A SANDBOX (cutbox-door.mjs). By AI agents, Wed Nov 11 2026. No macro, syntax, notation, axiom, sorry.
-/
import Derived.Test.YtacmmedhjebfjaaDoorRows
import Derived.LaidByTextLater
import Derived.SevenTiedAt
import Derived.LaidSub
import Derived.LaidOnce
namespace Go.Proofs.YtacmmedhjebfjaaDoor
open Go
set_option maxRecDepth 100000
theorem seatTie1 : Tryd.prog.laidByTextLater [("math/bits.deBruijn32tab", Rows.laid_math_bits_deBruijn32tab), ("math/bits.deBruijn64tab", Rows.laid_math_bits_deBruijn64tab), ("internal/strconv.uint64pow10", Rows.laid_internal_strconv_uint64pow10), ("errors.errorType", Rows.laid_errors_errorType), ("facade/api.ErrShape", Rows.laid_facade_api_ErrShape), ("facade/api.ErrRange", Rows.laid_facade_api_ErrRange), ("facade/api.ErrMany", Rows.laid_facade_api_ErrMany), ("facade/api.ErrOp", Rows.laid_facade_api_ErrOp), ("facade/api.ErrTwice", Rows.laid_facade_api_ErrTwice), ("facade/api.ErrNone", Rows.laid_facade_api_ErrNone), ("facade/api.ErrMap", Rows.laid_facade_api_ErrMap)] [.data, .data, .data, .handle, .sentinel, .sentinel, .sentinel, .sentinel, .sentinel, .sentinel, .sentinel] true :=
  Program.laidByTextLater_by_one 164 8 65 (by kernel_rfl) (by kernel_rfl) (by kernel_rfl) (by kernel_rfl) (by kernel_rfl) (by kernel_rfl) (fun _ _ => by kernel_rfl)
theorem noOwnUnsafe : Tryd.pinned.checked.prog.headLifts.contains "ownunsafe" = false := by kernel_rfl
theorem tie : Tryd.prog.laidByTextLater [("errors.errorType", Rows.laid_errors_errorType), ("facade/api.ErrShape", Rows.laid_facade_api_ErrShape), ("facade/api.ErrRange", Rows.laid_facade_api_ErrRange), ("facade/api.ErrMany", Rows.laid_facade_api_ErrMany), ("facade/api.ErrOp", Rows.laid_facade_api_ErrOp), ("facade/api.ErrTwice", Rows.laid_facade_api_ErrTwice), ("facade/api.ErrNone", Rows.laid_facade_api_ErrNone), ("facade/api.ErrMap", Rows.laid_facade_api_ErrMap)] [.handle, .sentinel, .sentinel, .sentinel, .sentinel, .sentinel, .sentinel, .sentinel] true :=
  Program.laidByTextLater.sub seatTie1 ["errors.errorType", "facade/api.ErrShape", "facade/api.ErrRange", "facade/api.ErrMany", "facade/api.ErrOp", "facade/api.ErrTwice", "facade/api.ErrNone", "facade/api.ErrMap"] (by kernel_rfl) (by kernel_rfl)
theorem linkGoes_row_tie : Rows.linkGoesRow.laidByTextAt .later Tryd.pinned [.handle, .sentinel, .sentinel, .sentinel, .sentinel, .sentinel, .sentinel, .sentinel] true :=
  OpenClaim.laidByTextAt_later rfl rfl tie noOwnUnsafe
theorem linkFar_row_tie : Rows.linkFarRow.laidByTextAt .later Tryd.pinned [.handle, .sentinel, .sentinel, .sentinel, .sentinel, .sentinel, .sentinel, .sentinel] true :=
  OpenClaim.laidByTextAt_later rfl rfl tie noOwnUnsafe
theorem linkMaps_row_tie : Rows.linkMapsRow.laidByTextAt .later Tryd.pinned [.handle, .sentinel, .sentinel, .sentinel, .sentinel, .sentinel, .sentinel, .sentinel] true :=
  OpenClaim.laidByTextAt_later rfl rfl tie noOwnUnsafe
theorem tie2 : Tryd.prog.laidByTextLater [("math/bits.deBruijn32tab", Rows.laid_math_bits_deBruijn32tab), ("math/bits.deBruijn64tab", Rows.laid_math_bits_deBruijn64tab), ("internal/strconv.uint64pow10", Rows.laid_internal_strconv_uint64pow10), ("errors.errorType", Rows.laid_errors_errorType), ("facade/api.ErrShape", Rows.laid_facade_api_ErrShape), ("facade/api.ErrRange", Rows.laid_facade_api_ErrRange), ("facade/api.ErrMany", Rows.laid_facade_api_ErrMany), ("facade/api.ErrOp", Rows.laid_facade_api_ErrOp), ("facade/api.ErrTwice", Rows.laid_facade_api_ErrTwice), ("facade/api.ErrNone", Rows.laid_facade_api_ErrNone), ("facade/api.ErrMap", Rows.laid_facade_api_ErrMap)] [.data, .data, .data, .handle, .sentinel, .sentinel, .sentinel, .sentinel, .sentinel, .sentinel, .sentinel] true :=
  Program.laidByTextLater.sub seatTie1 ["math/bits.deBruijn32tab", "math/bits.deBruijn64tab", "internal/strconv.uint64pow10", "errors.errorType", "facade/api.ErrShape", "facade/api.ErrRange", "facade/api.ErrMany", "facade/api.ErrOp", "facade/api.ErrTwice", "facade/api.ErrNone", "facade/api.ErrMap"] (by kernel_rfl) (by kernel_rfl)
theorem linkOrder_row_tie : Rows.linkOrderRow.laidByTextAt .later Tryd.pinned [.data, .data, .data, .handle, .sentinel, .sentinel, .sentinel, .sentinel, .sentinel, .sentinel, .sentinel] true :=
  OpenClaim.laidByTextAt_later rfl rfl tie2 noOwnUnsafe
theorem linkData_row_tie : Rows.linkDataRow.laidByTextAt .later Tryd.pinned [.data, .data, .data, .handle, .sentinel, .sentinel, .sentinel, .sentinel, .sentinel, .sentinel, .sentinel] true :=
  OpenClaim.laidByTextAt_later rfl rfl tie2 noOwnUnsafe
theorem linkGoesUpto_row_tie : Rows.linkGoesUptoRow.laidByTextAt .later Tryd.pinned [.handle, .sentinel, .sentinel, .sentinel, .sentinel, .sentinel, .sentinel, .sentinel] true :=
  OpenClaim.laidByTextAt_later rfl rfl tie noOwnUnsafe
theorem linkFarUpto_row_tie : Rows.linkFarUptoRow.laidByTextAt .later Tryd.pinned [.handle, .sentinel, .sentinel, .sentinel, .sentinel, .sentinel, .sentinel, .sentinel] true :=
  OpenClaim.laidByTextAt_later rfl rfl tie noOwnUnsafe
theorem linkMapsUpto_row_tie : Rows.linkMapsUptoRow.laidByTextAt .later Tryd.pinned [.handle, .sentinel, .sentinel, .sentinel, .sentinel, .sentinel, .sentinel, .sentinel] true :=
  OpenClaim.laidByTextAt_later rfl rfl tie noOwnUnsafe
theorem linkOrderUpto_row_tie : Rows.linkOrderUptoRow.laidByTextAt .later Tryd.pinned [.data, .data, .data, .handle, .sentinel, .sentinel, .sentinel, .sentinel, .sentinel, .sentinel, .sentinel] true :=
  OpenClaim.laidByTextAt_later rfl rfl tie2 noOwnUnsafe
theorem linkDataUpto_row_tie : Rows.linkDataUptoRow.laidByTextAt .later Tryd.pinned [.data, .data, .data, .handle, .sentinel, .sentinel, .sentinel, .sentinel, .sentinel, .sentinel, .sentinel] true :=
  OpenClaim.laidByTextAt_later rfl rfl tie2 noOwnUnsafe
end Go.Proofs.YtacmmedhjebfjaaDoor
