/-
  DERIVED. GIVEN WITH THE SEED: THE PROGRAM's TIES (one call each: nine closed facts by the kernel) AND EACH ROW's TIE, after the 31st guide's Derived/Test/Toyas{Tie, Card}.lean. No idea stands in it: it is a product of the set-up. Laid BY PROGRAM, IN A SANDBOX (cutbox-door.mjs). By AI agents, Wed Nov 11 2026. No macro, syntax, notation, axiom, sorry.
-/
import Derived.Test.YtbdfibaljoedpaaDoorRows
import Derived.LaidByTextLater
import Derived.SevenTiedAt
import Derived.LaidSub
import Derived.LaidOnce
namespace Go.Proofs.YtbdfibaljoedpaaDoor
open Go
set_option maxRecDepth 100000
theorem seatTie1 : Tryd.prog.laidByTextLater [("math/bits.deBruijn32tab", Rows.laid_math_bits_deBruijn32tab), ("math/bits.deBruijn64tab", Rows.laid_math_bits_deBruijn64tab), ("internal/strconv.uint64pow10", Rows.laid_internal_strconv_uint64pow10), ("facade/api.ErrEnd", Rows.laid_facade_api_ErrEnd), ("facade/api.ErrShape", Rows.laid_facade_api_ErrShape), ("facade/api.ErrRange", Rows.laid_facade_api_ErrRange), ("facade/api.ErrMany", Rows.laid_facade_api_ErrMany), ("facade/api.ErrOp", Rows.laid_facade_api_ErrOp), ("facade/api.ErrTwice", Rows.laid_facade_api_ErrTwice), ("facade/api.ErrNone", Rows.laid_facade_api_ErrNone), ("facade/api.ErrFar", Rows.laid_facade_api_ErrFar), ("facade/api.ErrMap", Rows.laid_facade_api_ErrMap), ("facade/api.ErrOwner", Rows.laid_facade_api_ErrOwner), ("facade/api.ErrType", Rows.laid_facade_api_ErrType), ("facade/api.ErrBusy", Rows.laid_facade_api_ErrBusy), ("facade/api.ErrFull", Rows.laid_facade_api_ErrFull), ("facade/api.ErrState", Rows.laid_facade_api_ErrState), ("facade/api.ErrWord", Rows.laid_facade_api_ErrWord), ("facade/api.ErrNumber", Rows.laid_facade_api_ErrNumber)] [.data, .data, .data, .sentinel, .sentinel, .sentinel, .sentinel, .sentinel, .sentinel, .sentinel, .sentinel, .sentinel, .sentinel, .sentinel, .sentinel, .sentinel, .sentinel, .sentinel, .sentinel] true :=
  Program.laidByTextLater_by_one 328 8 65 (by kernel_rfl) (by kernel_rfl) (by kernel_rfl) (by kernel_rfl) (by kernel_rfl) (by kernel_rfl) (fun _ _ => by kernel_rfl)
theorem noOwnUnsafe : Tryd.pinned.checked.prog.headLifts.contains "ownunsafe" = false := by kernel_rfl
theorem tie : Tryd.prog.laidByTextLater [("facade/api.ErrShape", Rows.laid_facade_api_ErrShape), ("facade/api.ErrRange", Rows.laid_facade_api_ErrRange), ("facade/api.ErrMany", Rows.laid_facade_api_ErrMany), ("facade/api.ErrOp", Rows.laid_facade_api_ErrOp), ("facade/api.ErrTwice", Rows.laid_facade_api_ErrTwice), ("facade/api.ErrNone", Rows.laid_facade_api_ErrNone), ("facade/api.ErrMap", Rows.laid_facade_api_ErrMap)] [.sentinel, .sentinel, .sentinel, .sentinel, .sentinel, .sentinel, .sentinel] true :=
  Program.laidByTextLater.sub seatTie1 ["facade/api.ErrShape", "facade/api.ErrRange", "facade/api.ErrMany", "facade/api.ErrOp", "facade/api.ErrTwice", "facade/api.ErrNone", "facade/api.ErrMap"] (by kernel_rfl) (by kernel_rfl)
theorem siteFinds_row_tie : Rows.siteFindsRow.laidByTextAt .later Tryd.pinned [.sentinel, .sentinel, .sentinel, .sentinel, .sentinel, .sentinel, .sentinel] true :=
  OpenClaim.laidByTextAt_later rfl rfl tie noOwnUnsafe
theorem objOwn_row_tie : Rows.objOwnRow.laidByTextAt .later Tryd.pinned [.sentinel, .sentinel, .sentinel, .sentinel, .sentinel, .sentinel, .sentinel] true :=
  OpenClaim.laidByTextAt_later rfl rfl tie noOwnUnsafe
theorem rewriteKeeps_row_tie : Rows.rewriteKeepsRow.laidByTextAt .later Tryd.pinned [.sentinel, .sentinel, .sentinel, .sentinel, .sentinel, .sentinel, .sentinel] true :=
  OpenClaim.laidByTextAt_later rfl rfl tie noOwnUnsafe
theorem rewriteMarks_row_tie : Rows.rewriteMarksRow.laidByTextAt .later Tryd.pinned [.sentinel, .sentinel, .sentinel, .sentinel, .sentinel, .sentinel, .sentinel] true :=
  OpenClaim.laidByTextAt_later rfl rfl tie noOwnUnsafe
theorem tie2 : Tryd.prog.laidByTextLater [("facade/api.ErrEnd", Rows.laid_facade_api_ErrEnd), ("facade/api.ErrShape", Rows.laid_facade_api_ErrShape), ("facade/api.ErrRange", Rows.laid_facade_api_ErrRange), ("facade/api.ErrMany", Rows.laid_facade_api_ErrMany), ("facade/api.ErrOp", Rows.laid_facade_api_ErrOp), ("facade/api.ErrTwice", Rows.laid_facade_api_ErrTwice), ("facade/api.ErrNone", Rows.laid_facade_api_ErrNone), ("facade/api.ErrFar", Rows.laid_facade_api_ErrFar), ("facade/api.ErrMap", Rows.laid_facade_api_ErrMap), ("facade/api.ErrOwner", Rows.laid_facade_api_ErrOwner), ("facade/api.ErrType", Rows.laid_facade_api_ErrType), ("facade/api.ErrBusy", Rows.laid_facade_api_ErrBusy), ("facade/api.ErrFull", Rows.laid_facade_api_ErrFull), ("facade/api.ErrState", Rows.laid_facade_api_ErrState), ("facade/api.ErrWord", Rows.laid_facade_api_ErrWord), ("facade/api.ErrNumber", Rows.laid_facade_api_ErrNumber)] [.sentinel, .sentinel, .sentinel, .sentinel, .sentinel, .sentinel, .sentinel, .sentinel, .sentinel, .sentinel, .sentinel, .sentinel, .sentinel, .sentinel, .sentinel, .sentinel] true :=
  Program.laidByTextLater.sub seatTie1 ["facade/api.ErrEnd", "facade/api.ErrShape", "facade/api.ErrRange", "facade/api.ErrMany", "facade/api.ErrOp", "facade/api.ErrTwice", "facade/api.ErrNone", "facade/api.ErrFar", "facade/api.ErrMap", "facade/api.ErrOwner", "facade/api.ErrType", "facade/api.ErrBusy", "facade/api.ErrFull", "facade/api.ErrState", "facade/api.ErrWord", "facade/api.ErrNumber"] (by kernel_rfl) (by kernel_rfl)
theorem objWrong_row_tie : Rows.objWrongRow.laidByTextAt .later Tryd.pinned [.sentinel, .sentinel, .sentinel, .sentinel, .sentinel, .sentinel, .sentinel, .sentinel, .sentinel, .sentinel, .sentinel, .sentinel, .sentinel, .sentinel, .sentinel, .sentinel] true :=
  OpenClaim.laidByTextAt_later rfl rfl tie2 noOwnUnsafe
theorem rewriteLong_row_tie : Rows.rewriteLongRow.laidByTextAt .later Tryd.pinned [.sentinel, .sentinel, .sentinel, .sentinel, .sentinel, .sentinel, .sentinel, .sentinel, .sentinel, .sentinel, .sentinel, .sentinel, .sentinel, .sentinel, .sentinel, .sentinel] true :=
  OpenClaim.laidByTextAt_later rfl rfl tie2 noOwnUnsafe
theorem rewriteOnce_row_tie : Rows.rewriteOnceRow.laidByTextAt .later Tryd.pinned [.sentinel, .sentinel, .sentinel, .sentinel, .sentinel, .sentinel, .sentinel, .sentinel, .sentinel, .sentinel, .sentinel, .sentinel, .sentinel, .sentinel, .sentinel, .sentinel] true :=
  OpenClaim.laidByTextAt_later rfl rfl tie2 noOwnUnsafe
theorem rewriteSays_row_tie : Rows.rewriteSaysRow.laidByTextAt .later Tryd.pinned [.sentinel, .sentinel, .sentinel, .sentinel, .sentinel, .sentinel, .sentinel, .sentinel, .sentinel, .sentinel, .sentinel, .sentinel, .sentinel, .sentinel, .sentinel, .sentinel] true :=
  OpenClaim.laidByTextAt_later rfl rfl tie2 noOwnUnsafe
theorem objBack_row_tie : Rows.objBackRow.laidByTextAt .later Tryd.pinned [.sentinel, .sentinel, .sentinel, .sentinel, .sentinel, .sentinel, .sentinel, .sentinel, .sentinel, .sentinel, .sentinel, .sentinel, .sentinel, .sentinel, .sentinel, .sentinel] true :=
  OpenClaim.laidByTextAt_later rfl rfl tie2 noOwnUnsafe
theorem objBent_row_tie : Rows.objBentRow.laidByTextAt .later Tryd.pinned [.sentinel, .sentinel, .sentinel, .sentinel, .sentinel, .sentinel, .sentinel, .sentinel, .sentinel, .sentinel, .sentinel, .sentinel, .sentinel, .sentinel, .sentinel, .sentinel] true :=
  OpenClaim.laidByTextAt_later rfl rfl tie2 noOwnUnsafe
theorem tie3 : Tryd.prog.laidByTextLater [("math/bits.deBruijn32tab", Rows.laid_math_bits_deBruijn32tab), ("math/bits.deBruijn64tab", Rows.laid_math_bits_deBruijn64tab), ("internal/strconv.uint64pow10", Rows.laid_internal_strconv_uint64pow10), ("facade/api.ErrEnd", Rows.laid_facade_api_ErrEnd), ("facade/api.ErrShape", Rows.laid_facade_api_ErrShape), ("facade/api.ErrRange", Rows.laid_facade_api_ErrRange), ("facade/api.ErrMany", Rows.laid_facade_api_ErrMany), ("facade/api.ErrOp", Rows.laid_facade_api_ErrOp), ("facade/api.ErrTwice", Rows.laid_facade_api_ErrTwice), ("facade/api.ErrNone", Rows.laid_facade_api_ErrNone), ("facade/api.ErrFar", Rows.laid_facade_api_ErrFar), ("facade/api.ErrMap", Rows.laid_facade_api_ErrMap), ("facade/api.ErrOwner", Rows.laid_facade_api_ErrOwner), ("facade/api.ErrType", Rows.laid_facade_api_ErrType), ("facade/api.ErrBusy", Rows.laid_facade_api_ErrBusy), ("facade/api.ErrFull", Rows.laid_facade_api_ErrFull), ("facade/api.ErrState", Rows.laid_facade_api_ErrState), ("facade/api.ErrWord", Rows.laid_facade_api_ErrWord), ("facade/api.ErrNumber", Rows.laid_facade_api_ErrNumber)] [.data, .data, .data, .sentinel, .sentinel, .sentinel, .sentinel, .sentinel, .sentinel, .sentinel, .sentinel, .sentinel, .sentinel, .sentinel, .sentinel, .sentinel, .sentinel, .sentinel, .sentinel] true :=
  Program.laidByTextLater.sub seatTie1 ["math/bits.deBruijn32tab", "math/bits.deBruijn64tab", "internal/strconv.uint64pow10", "facade/api.ErrEnd", "facade/api.ErrShape", "facade/api.ErrRange", "facade/api.ErrMany", "facade/api.ErrOp", "facade/api.ErrTwice", "facade/api.ErrNone", "facade/api.ErrFar", "facade/api.ErrMap", "facade/api.ErrOwner", "facade/api.ErrType", "facade/api.ErrBusy", "facade/api.ErrFull", "facade/api.ErrState", "facade/api.ErrWord", "facade/api.ErrNumber"] (by kernel_rfl) (by kernel_rfl)
theorem objLimits_row_tie : Rows.objLimitsRow.laidByTextAt .later Tryd.pinned [.data, .data, .data, .sentinel, .sentinel, .sentinel, .sentinel, .sentinel, .sentinel, .sentinel, .sentinel, .sentinel, .sentinel, .sentinel, .sentinel, .sentinel, .sentinel, .sentinel, .sentinel] true :=
  OpenClaim.laidByTextAt_later rfl rfl tie3 noOwnUnsafe
theorem siteSays_row_tie : Rows.siteSaysRow.laidByTextAt .later Tryd.pinned [.data, .data, .data, .sentinel, .sentinel, .sentinel, .sentinel, .sentinel, .sentinel, .sentinel, .sentinel, .sentinel, .sentinel, .sentinel, .sentinel, .sentinel, .sentinel, .sentinel, .sentinel] true :=
  OpenClaim.laidByTextAt_later rfl rfl tie3 noOwnUnsafe
theorem tie4 : Tryd.prog.laidByTextLater [("math/bits.deBruijn32tab", Rows.laid_math_bits_deBruijn32tab), ("math/bits.deBruijn64tab", Rows.laid_math_bits_deBruijn64tab), ("internal/strconv.uint64pow10", Rows.laid_internal_strconv_uint64pow10), ("facade/api.ErrShape", Rows.laid_facade_api_ErrShape), ("facade/api.ErrRange", Rows.laid_facade_api_ErrRange), ("facade/api.ErrMany", Rows.laid_facade_api_ErrMany), ("facade/api.ErrOp", Rows.laid_facade_api_ErrOp), ("facade/api.ErrTwice", Rows.laid_facade_api_ErrTwice), ("facade/api.ErrNone", Rows.laid_facade_api_ErrNone), ("facade/api.ErrMap", Rows.laid_facade_api_ErrMap)] [.data, .data, .data, .sentinel, .sentinel, .sentinel, .sentinel, .sentinel, .sentinel, .sentinel] true :=
  Program.laidByTextLater.sub seatTie1 ["math/bits.deBruijn32tab", "math/bits.deBruijn64tab", "internal/strconv.uint64pow10", "facade/api.ErrShape", "facade/api.ErrRange", "facade/api.ErrMany", "facade/api.ErrOp", "facade/api.ErrTwice", "facade/api.ErrNone", "facade/api.ErrMap"] (by kernel_rfl) (by kernel_rfl)
theorem siteEach_row_tie : Rows.siteEachRow.laidByTextAt .later Tryd.pinned [.data, .data, .data, .sentinel, .sentinel, .sentinel, .sentinel, .sentinel, .sentinel, .sentinel] true :=
  OpenClaim.laidByTextAt_later rfl rfl tie4 noOwnUnsafe
theorem siteFindsUpto_row_tie : Rows.siteFindsUptoRow.laidByTextAt .later Tryd.pinned [.sentinel, .sentinel, .sentinel, .sentinel, .sentinel, .sentinel, .sentinel] true :=
  OpenClaim.laidByTextAt_later rfl rfl tie noOwnUnsafe
theorem objWrongUpto_row_tie : Rows.objWrongUptoRow.laidByTextAt .later Tryd.pinned [.sentinel, .sentinel, .sentinel, .sentinel, .sentinel, .sentinel, .sentinel, .sentinel, .sentinel, .sentinel, .sentinel, .sentinel, .sentinel, .sentinel, .sentinel, .sentinel] true :=
  OpenClaim.laidByTextAt_later rfl rfl tie2 noOwnUnsafe
theorem objOwnUpto_row_tie : Rows.objOwnUptoRow.laidByTextAt .later Tryd.pinned [.sentinel, .sentinel, .sentinel, .sentinel, .sentinel, .sentinel, .sentinel] true :=
  OpenClaim.laidByTextAt_later rfl rfl tie noOwnUnsafe
theorem rewriteLongUpto_row_tie : Rows.rewriteLongUptoRow.laidByTextAt .later Tryd.pinned [.sentinel, .sentinel, .sentinel, .sentinel, .sentinel, .sentinel, .sentinel, .sentinel, .sentinel, .sentinel, .sentinel, .sentinel, .sentinel, .sentinel, .sentinel, .sentinel] true :=
  OpenClaim.laidByTextAt_later rfl rfl tie2 noOwnUnsafe
theorem rewriteKeepsUpto_row_tie : Rows.rewriteKeepsUptoRow.laidByTextAt .later Tryd.pinned [.sentinel, .sentinel, .sentinel, .sentinel, .sentinel, .sentinel, .sentinel] true :=
  OpenClaim.laidByTextAt_later rfl rfl tie noOwnUnsafe
theorem rewriteMarksUpto_row_tie : Rows.rewriteMarksUptoRow.laidByTextAt .later Tryd.pinned [.sentinel, .sentinel, .sentinel, .sentinel, .sentinel, .sentinel, .sentinel] true :=
  OpenClaim.laidByTextAt_later rfl rfl tie noOwnUnsafe
theorem rewriteOnceUpto_row_tie : Rows.rewriteOnceUptoRow.laidByTextAt .later Tryd.pinned [.sentinel, .sentinel, .sentinel, .sentinel, .sentinel, .sentinel, .sentinel, .sentinel, .sentinel, .sentinel, .sentinel, .sentinel, .sentinel, .sentinel, .sentinel, .sentinel] true :=
  OpenClaim.laidByTextAt_later rfl rfl tie2 noOwnUnsafe
theorem rewriteSaysUpto_row_tie : Rows.rewriteSaysUptoRow.laidByTextAt .later Tryd.pinned [.sentinel, .sentinel, .sentinel, .sentinel, .sentinel, .sentinel, .sentinel, .sentinel, .sentinel, .sentinel, .sentinel, .sentinel, .sentinel, .sentinel, .sentinel, .sentinel] true :=
  OpenClaim.laidByTextAt_later rfl rfl tie2 noOwnUnsafe
theorem objBackUpto_row_tie : Rows.objBackUptoRow.laidByTextAt .later Tryd.pinned [.sentinel, .sentinel, .sentinel, .sentinel, .sentinel, .sentinel, .sentinel, .sentinel, .sentinel, .sentinel, .sentinel, .sentinel, .sentinel, .sentinel, .sentinel, .sentinel] true :=
  OpenClaim.laidByTextAt_later rfl rfl tie2 noOwnUnsafe
theorem objBentUpto_row_tie : Rows.objBentUptoRow.laidByTextAt .later Tryd.pinned [.sentinel, .sentinel, .sentinel, .sentinel, .sentinel, .sentinel, .sentinel, .sentinel, .sentinel, .sentinel, .sentinel, .sentinel, .sentinel, .sentinel, .sentinel, .sentinel] true :=
  OpenClaim.laidByTextAt_later rfl rfl tie2 noOwnUnsafe
theorem objLimitsUpto_row_tie : Rows.objLimitsUptoRow.laidByTextAt .later Tryd.pinned [.data, .data, .data, .sentinel, .sentinel, .sentinel, .sentinel, .sentinel, .sentinel, .sentinel, .sentinel, .sentinel, .sentinel, .sentinel, .sentinel, .sentinel, .sentinel, .sentinel, .sentinel] true :=
  OpenClaim.laidByTextAt_later rfl rfl tie3 noOwnUnsafe
theorem siteSaysUpto_row_tie : Rows.siteSaysUptoRow.laidByTextAt .later Tryd.pinned [.data, .data, .data, .sentinel, .sentinel, .sentinel, .sentinel, .sentinel, .sentinel, .sentinel, .sentinel, .sentinel, .sentinel, .sentinel, .sentinel, .sentinel, .sentinel, .sentinel, .sentinel] true :=
  OpenClaim.laidByTextAt_later rfl rfl tie3 noOwnUnsafe
theorem siteEachUpto_row_tie : Rows.siteEachUptoRow.laidByTextAt .later Tryd.pinned [.data, .data, .data, .sentinel, .sentinel, .sentinel, .sentinel, .sentinel, .sentinel, .sentinel] true :=
  OpenClaim.laidByTextAt_later rfl rfl tie4 noOwnUnsafe
end Go.Proofs.YtbdfibaljoedpaaDoor
