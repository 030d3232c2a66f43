/-
  NARROWER THAN 'FOR EVERY INPUT', by the rows' own cells (each row's printed sentence says how): LinkMany: laid · LinkNames: laid.
  DERIVED. THE GIVEN ROWS OF THIS SEAT. 2 by the template 'for every input the law returns true; each argument reads behind the call as it read before'; 0 by the template 'total and deterministic' (their statements: YtacmmedhjebfjaaGreatDoorTotals.lean).
  GIVEN WITH THE SEED: the statements are not yours to turn. If you find one false, say at which input.
  Laid BY PROGRAM, IN A SANDBOX (cutbox-rows.mjs): the forced cells as the released guide's own fill.sh prints them over the translation 8017e5fb07336678… (all of the seat's roots in one cut). By AI agents, Wed Nov 11 2026. No macro, syntax, notation, axiom, sorry.
-/
import Derived.Test.YtacmmedhjebfjaaGreatDoorChecked
import GoSem.Claim
import GoSem.ClaimJoined
import GoSem.ClaimMapViews
import Derived.JoinedTies
import Derived.KernelRfl
namespace Go.Proofs.YtacmmedhjebfjaaGreatDoor
/- THE CELL 'sum', in the pinned program and in every row, IS THE sha256 OF THE DUMP (.gsa) THAT YtacmmedhjebfjaaGreatDoorProg.lean LOADS. Nothing in Lean hashes anything: it is a label: what it is worth is what the hold of that sum in a sandbox is worth. -/
noncomputable def Tryz.pinned : Pinned := { name := "ytacmmedhjebfjaagreatdoor", sum := "8017e5fb07336678b6af23438ee66e829473a3d3ecafb212eb1f8641ebc291a5", checked := Tryz.checked }
namespace Rows
def none {H : Type} : Left H := { results := [], args := [] }

/- WHAT THE LISTED PACKAGE-LEVEL VARIABLES READ AS WHEN THE CALL BEGINS. Each datum BY PROGRAM (the guide's laid-datum.mjs) off the statement by which the dump's own 'gosem.cut.vars' lays the variable. In a bare row this is a premise. The card (YtacmmedhjebfjaaGreatDoorCards.lean) ties it to the program's text. -/
def laid_math_bits_deBruijn32tab {H : Type} : DataW H := .agg [.lit (.int .u8 0), .lit (.int .u8 1), .lit (.int .u8 28), .lit (.int .u8 2), .lit (.int .u8 29), .lit (.int .u8 14), .lit (.int .u8 24), .lit (.int .u8 3), .lit (.int .u8 30), .lit (.int .u8 22), .lit (.int .u8 20), .lit (.int .u8 15), .lit (.int .u8 25), .lit (.int .u8 17), .lit (.int .u8 4), .lit (.int .u8 8), .lit (.int .u8 31), .lit (.int .u8 27), .lit (.int .u8 13), .lit (.int .u8 23), .lit (.int .u8 21), .lit (.int .u8 19), .lit (.int .u8 16), .lit (.int .u8 7), .lit (.int .u8 26), .lit (.int .u8 12), .lit (.int .u8 18), .lit (.int .u8 6), .lit (.int .u8 11), .lit (.int .u8 5), .lit (.int .u8 10), .lit (.int .u8 9)]
def laid_math_bits_deBruijn64tab {H : Type} : DataW H := .agg [.lit (.int .u8 0), .lit (.int .u8 1), .lit (.int .u8 56), .lit (.int .u8 2), .lit (.int .u8 57), .lit (.int .u8 49), .lit (.int .u8 28), .lit (.int .u8 3), .lit (.int .u8 61), .lit (.int .u8 58), .lit (.int .u8 42), .lit (.int .u8 50), .lit (.int .u8 38), .lit (.int .u8 29), .lit (.int .u8 17), .lit (.int .u8 4), .lit (.int .u8 62), .lit (.int .u8 47), .lit (.int .u8 59), .lit (.int .u8 36), .lit (.int .u8 45), .lit (.int .u8 43), .lit (.int .u8 51), .lit (.int .u8 22), .lit (.int .u8 53), .lit (.int .u8 39), .lit (.int .u8 33), .lit (.int .u8 30), .lit (.int .u8 24), .lit (.int .u8 18), .lit (.int .u8 12), .lit (.int .u8 5), .lit (.int .u8 63), .lit (.int .u8 55), .lit (.int .u8 48), .lit (.int .u8 27), .lit (.int .u8 60), .lit (.int .u8 41), .lit (.int .u8 37), .lit (.int .u8 16), .lit (.int .u8 46), .lit (.int .u8 35), .lit (.int .u8 44), .lit (.int .u8 21), .lit (.int .u8 52), .lit (.int .u8 32), .lit (.int .u8 23), .lit (.int .u8 11), .lit (.int .u8 54), .lit (.int .u8 26), .lit (.int .u8 40), .lit (.int .u8 15), .lit (.int .u8 34), .lit (.int .u8 20), .lit (.int .u8 31), .lit (.int .u8 10), .lit (.int .u8 25), .lit (.int .u8 14), .lit (.int .u8 19), .lit (.int .u8 9), .lit (.int .u8 13), .lit (.int .u8 8), .lit (.int .u8 7), .lit (.int .u8 6)]
def laid_internal_strconv_uint64pow10 {H : Type} : DataW H := .agg [.lit (.int .u64 1), .lit (.int .u64 10), .lit (.int .u64 100), .lit (.int .u64 1000), .lit (.int .u64 10000), .lit (.int .u64 100000), .lit (.int .u64 1000000), .lit (.int .u64 10000000), .lit (.int .u64 100000000), .lit (.int .u64 1000000000), .lit (.int .u64 10000000000), .lit (.int .u64 100000000000), .lit (.int .u64 1000000000000), .lit (.int .u64 10000000000000), .lit (.int .u64 100000000000000), .lit (.int .u64 1000000000000000), .lit (.int .u64 10000000000000000), .lit (.int .u64 100000000000000000), .lit (.int .u64 1000000000000000000), .lit (.int .u64 10000000000000000000)]
def laid_errors_errorType {H : Type} : DataW H := .iface "internal/reflectlite.rtype" (.agg [.ptr (.lit (.string [101, 114, 114, 111, 114]))])
def laid_facade_api_ErrEnd {H : Type} : DataW H := .iface "*errors.errorString" (.ptr (.agg [.lit (.string [105, 116, 32, 101, 110, 100, 115, 32, 116, 111, 111, 32, 101, 97, 114, 108, 121])]))
def laid_facade_api_ErrShape {H : Type} : DataW H := .iface "*errors.errorString" (.ptr (.agg [.lit (.string [110, 111, 116, 32, 97, 115, 32, 105, 116, 32, 104, 97, 115, 32, 116, 111, 32, 98, 101])]))
def laid_facade_api_ErrRange {H : Type} : DataW H := .iface "*errors.errorString" (.ptr (.agg [.lit (.string [97, 32, 110, 117, 109, 98, 101, 114, 32, 111, 117, 116, 32, 111, 102, 32, 105, 116, 115, 32, 114, 97, 110, 103, 101])]))
def laid_facade_api_ErrMany {H : Type} : DataW H := .iface "*errors.errorString" (.ptr (.agg [.lit (.string [116, 111, 111, 32, 109, 97, 110, 121])]))
def laid_facade_api_ErrOp {H : Type} : DataW H := .iface "*errors.errorString" (.ptr (.agg [.lit (.string [110, 111, 32, 115, 117, 99, 104, 32, 105, 110, 115, 116, 114, 117, 99, 116, 105, 111, 110])]))
def laid_facade_api_ErrTwice {H : Type} : DataW H := .iface "*errors.errorString" (.ptr (.agg [.lit (.string [116, 104, 101, 114, 101, 32, 105, 115, 32, 111, 110, 101])]))
def laid_facade_api_ErrNone {H : Type} : DataW H := .iface "*errors.errorString" (.ptr (.agg [.lit (.string [116, 104, 101, 114, 101, 32, 105, 115, 32, 110, 111, 110, 101])]))
def laid_facade_api_ErrFar {H : Type} : DataW H := .iface "*errors.errorString" (.ptr (.agg [.lit (.string [116, 111, 111, 32, 102, 97, 114])]))
def laid_facade_api_ErrMap {H : Type} : DataW H := .iface "*errors.errorString" (.ptr (.agg [.lit (.string [110, 111, 116, 32, 97, 115, 32, 116, 104, 101, 32, 99, 111, 100, 101, 39, 115, 32, 109, 97, 112, 32, 104, 97, 115, 32, 105, 116])]))
def laid_facade_api_ErrOwner {H : Type} : DataW H := .iface "*errors.errorString" (.ptr (.agg [.lit (.string [97, 110, 111, 116, 104, 101, 114, 32, 111, 110, 101, 39, 115])]))
def laid_facade_api_ErrType {H : Type} : DataW H := .iface "*errors.errorString" (.ptr (.agg [.lit (.string [97, 32, 102, 114, 97, 109, 101, 32, 111, 102, 32, 97, 110, 111, 116, 104, 101, 114, 32, 107, 105, 110, 100])]))
def laid_facade_api_ErrBusy {H : Type} : DataW H := .iface "*errors.errorString" (.ptr (.agg [.lit (.string [115, 116, 105, 108, 108, 32, 105, 110, 32, 117, 115, 101])]))
def laid_facade_api_ErrFull {H : Type} : DataW H := .iface "*errors.errorString" (.ptr (.agg [.lit (.string [116, 104, 101, 114, 101, 32, 105, 115, 32, 110, 111, 32, 114, 111, 111, 109])]))
def laid_facade_api_ErrState {H : Type} : DataW H := .iface "*errors.errorString" (.ptr (.agg [.lit (.string [110, 111, 116, 32, 97, 115, 32, 105, 116, 32, 105, 115, 32, 110, 111, 119])]))
def laid_facade_api_ErrWord {H : Type} : DataW H := .iface "*errors.errorString" (.ptr (.agg [.lit (.string [110, 111, 32, 115, 117, 99, 104, 32, 119, 111, 114, 100])]))
def laid_facade_api_ErrNumber {H : Type} : DataW H := .iface "*errors.errorString" (.ptr (.agg [.lit (.string [110, 111, 116, 32, 97, 32, 110, 117, 109, 98, 101, 114])]))

/-- 'facadelaw13.LinkMany': WHATEVER THE INPUT: true; the input reads as it did. -/
def linkManySpec : ChangeSpec := { name := "linkMany", fn := fun _ => fun
  | [d1, d2] => { results := [.lit (.bool true)], args := [d1, d2] }
  | _ => none }
def linkManyRow : OpenClaim := { program := "ytacmmedhjebfjaagreatdoor", sum := "8017e5fb07336678b6af23438ee66e829473a3d3ecafb212eb1f8641ebc291a5", func := "facade/facadelaw13.LinkMany", spec := "linkMany", inPlace := ["internal/reflectlite.ValueOf", "(internal/reflectlite.Value).Type", "(internal/reflectlite.Value).IsNil", "internal/reflectlite.TypeOf", "(internal/reflectlite.Value).Elem", "(internal/reflectlite.Value).Set"], unfollowed := true, recurses := true, named := ["facade/api.ErrMany", "facade/api.ErrTwice", "facade/api.ErrNone", "facade/api.ErrShape", "facade/api.ErrMap", "facade/api.ErrOp", "facade/api.ErrRange", "errors.errorType", "internal/strconv.uint64pow10", "math/bits.deBruijn32tab", "math/bits.deBruijn64tab", "facade/api.ErrEnd", "facade/api.ErrFar", "facade/api.ErrOwner", "facade/api.ErrType", "facade/api.ErrBusy", "facade/api.ErrFull", "facade/api.ErrState", "facade/api.ErrWord", "facade/api.ErrNumber"], apart := false, laid := [("math/bits.deBruijn32tab", laid_math_bits_deBruijn32tab), ("math/bits.deBruijn64tab", laid_math_bits_deBruijn64tab), ("internal/strconv.uint64pow10", laid_internal_strconv_uint64pow10), ("errors.errorType", laid_errors_errorType), ("facade/api.ErrEnd", laid_facade_api_ErrEnd), ("facade/api.ErrShape", laid_facade_api_ErrShape), ("facade/api.ErrRange", laid_facade_api_ErrRange), ("facade/api.ErrMany", laid_facade_api_ErrMany), ("facade/api.ErrOp", laid_facade_api_ErrOp), ("facade/api.ErrTwice", laid_facade_api_ErrTwice), ("facade/api.ErrNone", laid_facade_api_ErrNone), ("facade/api.ErrFar", laid_facade_api_ErrFar), ("facade/api.ErrMap", laid_facade_api_ErrMap), ("facade/api.ErrOwner", laid_facade_api_ErrOwner), ("facade/api.ErrType", laid_facade_api_ErrType), ("facade/api.ErrBusy", laid_facade_api_ErrBusy), ("facade/api.ErrFull", laid_facade_api_ErrFull), ("facade/api.ErrState", laid_facade_api_ErrState), ("facade/api.ErrWord", laid_facade_api_ErrWord), ("facade/api.ErrNumber", laid_facade_api_ErrNumber)] }
def LinkManySaid : Prop := linkManyRow.holds Tryz.pinned (OpenSpec.ofChange linkManySpec)

/-- ITS FALSE NEIGHBOUR: 'it returns false'. Refute it at one input. -/
def linkManyWrong : ChangeSpec := { name := "linkMany", fn := fun _ => fun
  | [d1, d2] => { results := [.lit (.bool false)], args := [d1, d2] }
  | _ => none }
def LinkManyWrongFalsely : Prop := linkManyRow.holds Tryz.pinned (OpenSpec.ofChange linkManyWrong)

/-- 'facadelaw13.LinkNames': WHATEVER THE INPUT: true; the input reads as it did. -/
def linkNamesSpec : ChangeSpec := { name := "linkNames", fn := fun _ => fun
  | [d1, d2] => { results := [.lit (.bool true)], args := [d1, d2] }
  | _ => none }
def linkNamesRow : OpenClaim := { program := "ytacmmedhjebfjaagreatdoor", sum := "8017e5fb07336678b6af23438ee66e829473a3d3ecafb212eb1f8641ebc291a5", func := "facade/facadelaw13.LinkNames", spec := "linkNames", inPlace := ["internal/reflectlite.ValueOf", "(internal/reflectlite.Value).Type", "(internal/reflectlite.Value).IsNil", "internal/reflectlite.TypeOf", "(internal/reflectlite.Value).Elem", "(internal/reflectlite.Value).Set"], unfollowed := true, recurses := true, named := ["facade/api.ErrMany", "facade/api.ErrTwice", "facade/api.ErrNone", "facade/api.ErrShape", "facade/api.ErrMap", "facade/api.ErrOp", "facade/api.ErrRange", "errors.errorType", "internal/strconv.uint64pow10", "math/bits.deBruijn32tab", "math/bits.deBruijn64tab", "facade/api.ErrEnd", "facade/api.ErrFar", "facade/api.ErrOwner", "facade/api.ErrType", "facade/api.ErrBusy", "facade/api.ErrFull", "facade/api.ErrState", "facade/api.ErrWord", "facade/api.ErrNumber"], apart := false, laid := [("math/bits.deBruijn32tab", laid_math_bits_deBruijn32tab), ("math/bits.deBruijn64tab", laid_math_bits_deBruijn64tab), ("internal/strconv.uint64pow10", laid_internal_strconv_uint64pow10), ("errors.errorType", laid_errors_errorType), ("facade/api.ErrEnd", laid_facade_api_ErrEnd), ("facade/api.ErrShape", laid_facade_api_ErrShape), ("facade/api.ErrRange", laid_facade_api_ErrRange), ("facade/api.ErrMany", laid_facade_api_ErrMany), ("facade/api.ErrOp", laid_facade_api_ErrOp), ("facade/api.ErrTwice", laid_facade_api_ErrTwice), ("facade/api.ErrNone", laid_facade_api_ErrNone), ("facade/api.ErrFar", laid_facade_api_ErrFar), ("facade/api.ErrMap", laid_facade_api_ErrMap), ("facade/api.ErrOwner", laid_facade_api_ErrOwner), ("facade/api.ErrType", laid_facade_api_ErrType), ("facade/api.ErrBusy", laid_facade_api_ErrBusy), ("facade/api.ErrFull", laid_facade_api_ErrFull), ("facade/api.ErrState", laid_facade_api_ErrState), ("facade/api.ErrWord", laid_facade_api_ErrWord), ("facade/api.ErrNumber", laid_facade_api_ErrNumber)] }
def LinkNamesSaid : Prop := linkNamesRow.holds Tryz.pinned (OpenSpec.ofChange linkNamesSpec)

/-- ITS FALSE NEIGHBOUR: 'it returns false'. Refute it at one input. -/
def linkNamesWrong : ChangeSpec := { name := "linkNames", fn := fun _ => fun
  | [d1, d2] => { results := [.lit (.bool false)], args := [d1, d2] }
  | _ => none }
def LinkNamesWrongFalsely : Prop := linkNamesRow.holds Tryz.pinned (OpenSpec.ofChange linkNamesWrong)

/- THE SECOND FORM. 'bulk': how many values and letters a reading holds, each counted each time it is reached (what is shared counts as often as it is met; a slice's spare places count too). A statement '..UptoSaid' is the law's where the arguments, and the package variables that the reading takes, are together of bulk at most 1048576: NARROWER than '..Said'. Prove '..Said' where nothing that the law and all that it calls make is longer than what came in: it says more and counts as full. Else prove '..UptoSaid'. A law counts once. -/
mutual
def uptoBulk {H : Type} : DataW H → Nat
  | .lit (.string bytes) => bytes.length + 1
  | .lit _ => 1
  | .nil => 1
  | .ptr d => uptoBulk d + 1
  | .slice elems spare => uptoBulkAll elems + uptoBulkAll spare + 1
  | .agg parts => uptoBulkAll parts + 1
  | .iface _ d => uptoBulk d + 1
  | .map entries => uptoBulkEntries entries + 1
  | .held _ => 1
def uptoBulkAll {H : Type} : List (DataW H) → Nat
  | [] => 0
  | d :: r => uptoBulk d + uptoBulkAll r
def uptoBulkEntries {H : Type} : List (Lit × DataW H) → Nat
  | [] => 0
  | x :: r => uptoBulkEntry x + uptoBulkEntries r
def uptoBulkEntry {H : Type} : Lit × DataW H → Nat
  | (.string bytes, d) => bytes.length + uptoBulk d + 1
  | (_, d) => uptoBulk d + 1
 end
def uptoSmall : (H : Type) → List (DataW H) → Bool := fun _ ds => decide (uptoBulkAll ds ≤ 1048576)
def OpenSpec.upto (s : _root_.Go.ChangeSpec) : _root_.Go.OpenSpec := { _root_.Go.OpenSpec.ofChange s with cond := some uptoSmall }

/-- 'facadelaw13.LinkMany', WHERE WHAT IT READS IS OF BULK AT MOST 1048576: true; the input reads as it did. -/
def linkManyUptoRow : OpenClaim := { program := "ytacmmedhjebfjaagreatdoor", sum := "8017e5fb07336678b6af23438ee66e829473a3d3ecafb212eb1f8641ebc291a5", func := "facade/facadelaw13.LinkMany", spec := "linkMany", inPlace := ["internal/reflectlite.ValueOf", "(internal/reflectlite.Value).Type", "(internal/reflectlite.Value).IsNil", "internal/reflectlite.TypeOf", "(internal/reflectlite.Value).Elem", "(internal/reflectlite.Value).Set"], unfollowed := true, recurses := true, named := ["facade/api.ErrMany", "facade/api.ErrTwice", "facade/api.ErrNone", "facade/api.ErrShape", "facade/api.ErrMap", "facade/api.ErrOp", "facade/api.ErrRange", "errors.errorType", "internal/strconv.uint64pow10", "math/bits.deBruijn32tab", "math/bits.deBruijn64tab", "facade/api.ErrEnd", "facade/api.ErrFar", "facade/api.ErrOwner", "facade/api.ErrType", "facade/api.ErrBusy", "facade/api.ErrFull", "facade/api.ErrState", "facade/api.ErrWord", "facade/api.ErrNumber"], apart := false, laid := [("math/bits.deBruijn32tab", laid_math_bits_deBruijn32tab), ("math/bits.deBruijn64tab", laid_math_bits_deBruijn64tab), ("internal/strconv.uint64pow10", laid_internal_strconv_uint64pow10), ("errors.errorType", laid_errors_errorType), ("facade/api.ErrEnd", laid_facade_api_ErrEnd), ("facade/api.ErrShape", laid_facade_api_ErrShape), ("facade/api.ErrRange", laid_facade_api_ErrRange), ("facade/api.ErrMany", laid_facade_api_ErrMany), ("facade/api.ErrOp", laid_facade_api_ErrOp), ("facade/api.ErrTwice", laid_facade_api_ErrTwice), ("facade/api.ErrNone", laid_facade_api_ErrNone), ("facade/api.ErrFar", laid_facade_api_ErrFar), ("facade/api.ErrMap", laid_facade_api_ErrMap), ("facade/api.ErrOwner", laid_facade_api_ErrOwner), ("facade/api.ErrType", laid_facade_api_ErrType), ("facade/api.ErrBusy", laid_facade_api_ErrBusy), ("facade/api.ErrFull", laid_facade_api_ErrFull), ("facade/api.ErrState", laid_facade_api_ErrState), ("facade/api.ErrWord", laid_facade_api_ErrWord), ("facade/api.ErrNumber", laid_facade_api_ErrNumber)], narrowed := true }
def LinkManyUptoSaid : Prop := linkManyUptoRow.holds Tryz.pinned (OpenSpec.upto linkManySpec)

/-- 'facadelaw13.LinkNames', WHERE WHAT IT READS IS OF BULK AT MOST 1048576: true; the input reads as it did. -/
def linkNamesUptoRow : OpenClaim := { program := "ytacmmedhjebfjaagreatdoor", sum := "8017e5fb07336678b6af23438ee66e829473a3d3ecafb212eb1f8641ebc291a5", func := "facade/facadelaw13.LinkNames", spec := "linkNames", inPlace := ["internal/reflectlite.ValueOf", "(internal/reflectlite.Value).Type", "(internal/reflectlite.Value).IsNil", "internal/reflectlite.TypeOf", "(internal/reflectlite.Value).Elem", "(internal/reflectlite.Value).Set"], unfollowed := true, recurses := true, named := ["facade/api.ErrMany", "facade/api.ErrTwice", "facade/api.ErrNone", "facade/api.ErrShape", "facade/api.ErrMap", "facade/api.ErrOp", "facade/api.ErrRange", "errors.errorType", "internal/strconv.uint64pow10", "math/bits.deBruijn32tab", "math/bits.deBruijn64tab", "facade/api.ErrEnd", "facade/api.ErrFar", "facade/api.ErrOwner", "facade/api.ErrType", "facade/api.ErrBusy", "facade/api.ErrFull", "facade/api.ErrState", "facade/api.ErrWord", "facade/api.ErrNumber"], apart := false, laid := [("math/bits.deBruijn32tab", laid_math_bits_deBruijn32tab), ("math/bits.deBruijn64tab", laid_math_bits_deBruijn64tab), ("internal/strconv.uint64pow10", laid_internal_strconv_uint64pow10), ("errors.errorType", laid_errors_errorType), ("facade/api.ErrEnd", laid_facade_api_ErrEnd), ("facade/api.ErrShape", laid_facade_api_ErrShape), ("facade/api.ErrRange", laid_facade_api_ErrRange), ("facade/api.ErrMany", laid_facade_api_ErrMany), ("facade/api.ErrOp", laid_facade_api_ErrOp), ("facade/api.ErrTwice", laid_facade_api_ErrTwice), ("facade/api.ErrNone", laid_facade_api_ErrNone), ("facade/api.ErrFar", laid_facade_api_ErrFar), ("facade/api.ErrMap", laid_facade_api_ErrMap), ("facade/api.ErrOwner", laid_facade_api_ErrOwner), ("facade/api.ErrType", laid_facade_api_ErrType), ("facade/api.ErrBusy", laid_facade_api_ErrBusy), ("facade/api.ErrFull", laid_facade_api_ErrFull), ("facade/api.ErrState", laid_facade_api_ErrState), ("facade/api.ErrWord", laid_facade_api_ErrWord), ("facade/api.ErrNumber", laid_facade_api_ErrNumber)], narrowed := true }
def LinkNamesUptoSaid : Prop := linkNamesUptoRow.holds Tryz.pinned (OpenSpec.upto linkNamesSpec)

end Rows
end Go.Proofs.YtacmmedhjebfjaaGreatDoor
