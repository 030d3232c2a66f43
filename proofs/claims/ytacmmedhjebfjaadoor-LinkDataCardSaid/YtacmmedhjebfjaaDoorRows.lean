/-
  NARROWER THAN 'FOR EVERY INPUT', by the rows' own cells (each row's printed sentence says how): LinkGoes: laid · LinkFar: laid · LinkMaps: laid · LinkOrder: laid · LinkData: laid.
  DERIVED. THE GIVEN ROWS OF THIS SEAT. 5 by the template 'for every input the law returns true; each argument reads behind the call as it read before'; 0 by the template 'total and deterministic' (their statements: YtacmmedhjebfjaaDoorTotals.lean).
  GIVEN WITH THE SEED: the statements are not yours to turn. If you find one false, say at which input.
  Laid BY PROGRAM, IN A SANDBOX (cutbox-rows.mjs): the forced cells as the released guide's own fill.sh prints them over the translation 306a98742185153e… (all of the seat's roots in one cut). By AI agents, Wed Nov 11 2026. No macro, syntax, notation, axiom, sorry.
-/
import Derived.Test.YtacmmedhjebfjaaDoorChecked
import GoSem.Claim
import GoSem.ClaimJoined
import GoSem.ClaimMapViews
import Derived.JoinedTies
import Derived.KernelRfl
namespace Go.Proofs.YtacmmedhjebfjaaDoor
/- THE CELL 'sum', in the pinned program and in every row, IS THE sha256 OF THE DUMP (.gsa) THAT YtacmmedhjebfjaaDoorProg.lean LOADS. Nothing in Lean hashes anything: it is a label: what it is worth is what the hold of that sum in a sandbox is worth. -/
noncomputable def Tryd.pinned : Pinned := { name := "ytacmmedhjebfjaadoor", sum := "306a98742185153e8c52d7b1978b00272a4b1560f4cb0bbd52b7c27d5bfcafe8", checked := Tryd.checked }
namespace Rows
def none {H : Type} : Left H := { results := [], args := [] }

/- WHAT THE LISTED PACKAGE-LEVEL VARIABLES READ AS WHEN THE CALL BEGINS. Each datum BY PROGRAM (the guide's laid-datum.mjs) off the statement by which the dump's own 'gosem.cut.vars' lays the variable. In a bare row this is a premise. The card (YtacmmedhjebfjaaDoorCards.lean) ties it to the program's text. -/
def laid_errors_errorType {H : Type} : DataW H := .iface "internal/reflectlite.rtype" (.agg [.ptr (.lit (.string [101, 114, 114, 111, 114]))])
def laid_facade_api_ErrShape {H : Type} : DataW H := .iface "*errors.errorString" (.ptr (.agg [.lit (.string [110, 111, 116, 32, 97, 115, 32, 105, 116, 32, 104, 97, 115, 32, 116, 111, 32, 98, 101])]))
def laid_facade_api_ErrRange {H : Type} : DataW H := .iface "*errors.errorString" (.ptr (.agg [.lit (.string [97, 32, 110, 117, 109, 98, 101, 114, 32, 111, 117, 116, 32, 111, 102, 32, 105, 116, 115, 32, 114, 97, 110, 103, 101])]))
def laid_facade_api_ErrMany {H : Type} : DataW H := .iface "*errors.errorString" (.ptr (.agg [.lit (.string [116, 111, 111, 32, 109, 97, 110, 121])]))
def laid_facade_api_ErrOp {H : Type} : DataW H := .iface "*errors.errorString" (.ptr (.agg [.lit (.string [110, 111, 32, 115, 117, 99, 104, 32, 105, 110, 115, 116, 114, 117, 99, 116, 105, 111, 110])]))
def laid_facade_api_ErrTwice {H : Type} : DataW H := .iface "*errors.errorString" (.ptr (.agg [.lit (.string [116, 104, 101, 114, 101, 32, 105, 115, 32, 111, 110, 101])]))
def laid_facade_api_ErrNone {H : Type} : DataW H := .iface "*errors.errorString" (.ptr (.agg [.lit (.string [116, 104, 101, 114, 101, 32, 105, 115, 32, 110, 111, 110, 101])]))
def laid_facade_api_ErrMap {H : Type} : DataW H := .iface "*errors.errorString" (.ptr (.agg [.lit (.string [110, 111, 116, 32, 97, 115, 32, 116, 104, 101, 32, 99, 111, 100, 101, 39, 115, 32, 109, 97, 112, 32, 104, 97, 115, 32, 105, 116])]))
def laid_math_bits_deBruijn32tab {H : Type} : DataW H := .agg [.lit (.int .u8 0), .lit (.int .u8 1), .lit (.int .u8 28), .lit (.int .u8 2), .lit (.int .u8 29), .lit (.int .u8 14), .lit (.int .u8 24), .lit (.int .u8 3), .lit (.int .u8 30), .lit (.int .u8 22), .lit (.int .u8 20), .lit (.int .u8 15), .lit (.int .u8 25), .lit (.int .u8 17), .lit (.int .u8 4), .lit (.int .u8 8), .lit (.int .u8 31), .lit (.int .u8 27), .lit (.int .u8 13), .lit (.int .u8 23), .lit (.int .u8 21), .lit (.int .u8 19), .lit (.int .u8 16), .lit (.int .u8 7), .lit (.int .u8 26), .lit (.int .u8 12), .lit (.int .u8 18), .lit (.int .u8 6), .lit (.int .u8 11), .lit (.int .u8 5), .lit (.int .u8 10), .lit (.int .u8 9)]
def laid_math_bits_deBruijn64tab {H : Type} : DataW H := .agg [.lit (.int .u8 0), .lit (.int .u8 1), .lit (.int .u8 56), .lit (.int .u8 2), .lit (.int .u8 57), .lit (.int .u8 49), .lit (.int .u8 28), .lit (.int .u8 3), .lit (.int .u8 61), .lit (.int .u8 58), .lit (.int .u8 42), .lit (.int .u8 50), .lit (.int .u8 38), .lit (.int .u8 29), .lit (.int .u8 17), .lit (.int .u8 4), .lit (.int .u8 62), .lit (.int .u8 47), .lit (.int .u8 59), .lit (.int .u8 36), .lit (.int .u8 45), .lit (.int .u8 43), .lit (.int .u8 51), .lit (.int .u8 22), .lit (.int .u8 53), .lit (.int .u8 39), .lit (.int .u8 33), .lit (.int .u8 30), .lit (.int .u8 24), .lit (.int .u8 18), .lit (.int .u8 12), .lit (.int .u8 5), .lit (.int .u8 63), .lit (.int .u8 55), .lit (.int .u8 48), .lit (.int .u8 27), .lit (.int .u8 60), .lit (.int .u8 41), .lit (.int .u8 37), .lit (.int .u8 16), .lit (.int .u8 46), .lit (.int .u8 35), .lit (.int .u8 44), .lit (.int .u8 21), .lit (.int .u8 52), .lit (.int .u8 32), .lit (.int .u8 23), .lit (.int .u8 11), .lit (.int .u8 54), .lit (.int .u8 26), .lit (.int .u8 40), .lit (.int .u8 15), .lit (.int .u8 34), .lit (.int .u8 20), .lit (.int .u8 31), .lit (.int .u8 10), .lit (.int .u8 25), .lit (.int .u8 14), .lit (.int .u8 19), .lit (.int .u8 9), .lit (.int .u8 13), .lit (.int .u8 8), .lit (.int .u8 7), .lit (.int .u8 6)]
def laid_internal_strconv_uint64pow10 {H : Type} : DataW H := .agg [.lit (.int .u64 1), .lit (.int .u64 10), .lit (.int .u64 100), .lit (.int .u64 1000), .lit (.int .u64 10000), .lit (.int .u64 100000), .lit (.int .u64 1000000), .lit (.int .u64 10000000), .lit (.int .u64 100000000), .lit (.int .u64 1000000000), .lit (.int .u64 10000000000), .lit (.int .u64 100000000000), .lit (.int .u64 1000000000000), .lit (.int .u64 10000000000000), .lit (.int .u64 100000000000000), .lit (.int .u64 1000000000000000), .lit (.int .u64 10000000000000000), .lit (.int .u64 100000000000000000), .lit (.int .u64 1000000000000000000), .lit (.int .u64 10000000000000000000)]

/-- 'facadelaw13.LinkGoes': WHATEVER THE INPUT: true; the input reads as it did. -/
def linkGoesSpec : ChangeSpec := { name := "linkGoes", fn := fun _ => fun
  | [d] => { results := [.lit (.bool true)], args := [d] }
  | _ => none }
def linkGoesRow : OpenClaim := { program := "ytacmmedhjebfjaadoor", sum := "306a98742185153e8c52d7b1978b00272a4b1560f4cb0bbd52b7c27d5bfcafe8", func := "facade/facadelaw13.LinkGoes", spec := "linkGoes", inPlace := ["internal/reflectlite.ValueOf", "(internal/reflectlite.Value).Type", "(internal/reflectlite.Value).IsNil", "internal/reflectlite.TypeOf", "(internal/reflectlite.Value).Elem", "(internal/reflectlite.Value).Set"], unfollowed := true, recurses := true, named := ["facade/api.ErrMany", "facade/api.ErrTwice", "facade/api.ErrNone", "facade/api.ErrShape", "facade/api.ErrMap", "facade/api.ErrOp", "facade/api.ErrRange", "errors.errorType"], apart := false, laid := [("errors.errorType", laid_errors_errorType), ("facade/api.ErrShape", laid_facade_api_ErrShape), ("facade/api.ErrRange", laid_facade_api_ErrRange), ("facade/api.ErrMany", laid_facade_api_ErrMany), ("facade/api.ErrOp", laid_facade_api_ErrOp), ("facade/api.ErrTwice", laid_facade_api_ErrTwice), ("facade/api.ErrNone", laid_facade_api_ErrNone), ("facade/api.ErrMap", laid_facade_api_ErrMap)] }
def LinkGoesSaid : Prop := linkGoesRow.holds Tryd.pinned (OpenSpec.ofChange linkGoesSpec)

/-- ITS FALSE NEIGHBOUR: 'it returns false'. Refute it at one input. -/
def linkGoesWrong : ChangeSpec := { name := "linkGoes", fn := fun _ => fun
  | [d] => { results := [.lit (.bool false)], args := [d] }
  | _ => none }
def LinkGoesWrongFalsely : Prop := linkGoesRow.holds Tryd.pinned (OpenSpec.ofChange linkGoesWrong)

/-- 'facadelaw13.LinkFar': WHATEVER THE INPUT: true; the input reads as it did. -/
def linkFarSpec : ChangeSpec := { name := "linkFar", fn := fun _ => fun
  | [d1, d2] => { results := [.lit (.bool true)], args := [d1, d2] }
  | _ => none }
def linkFarRow : OpenClaim := { program := "ytacmmedhjebfjaadoor", sum := "306a98742185153e8c52d7b1978b00272a4b1560f4cb0bbd52b7c27d5bfcafe8", func := "facade/facadelaw13.LinkFar", spec := "linkFar", inPlace := ["internal/reflectlite.ValueOf", "(internal/reflectlite.Value).Type", "(internal/reflectlite.Value).IsNil", "internal/reflectlite.TypeOf", "(internal/reflectlite.Value).Elem", "(internal/reflectlite.Value).Set"], unfollowed := true, recurses := true, named := ["facade/api.ErrMany", "facade/api.ErrTwice", "facade/api.ErrNone", "facade/api.ErrShape", "facade/api.ErrMap", "facade/api.ErrOp", "facade/api.ErrRange", "errors.errorType"], apart := false, laid := [("errors.errorType", laid_errors_errorType), ("facade/api.ErrShape", laid_facade_api_ErrShape), ("facade/api.ErrRange", laid_facade_api_ErrRange), ("facade/api.ErrMany", laid_facade_api_ErrMany), ("facade/api.ErrOp", laid_facade_api_ErrOp), ("facade/api.ErrTwice", laid_facade_api_ErrTwice), ("facade/api.ErrNone", laid_facade_api_ErrNone), ("facade/api.ErrMap", laid_facade_api_ErrMap)] }
def LinkFarSaid : Prop := linkFarRow.holds Tryd.pinned (OpenSpec.ofChange linkFarSpec)

/-- ITS FALSE NEIGHBOUR: 'it returns false'. Refute it at one input. -/
def linkFarWrong : ChangeSpec := { name := "linkFar", fn := fun _ => fun
  | [d1, d2] => { results := [.lit (.bool false)], args := [d1, d2] }
  | _ => none }
def LinkFarWrongFalsely : Prop := linkFarRow.holds Tryd.pinned (OpenSpec.ofChange linkFarWrong)

/-- 'facadelaw13.LinkMaps': WHATEVER THE INPUT: true; the input reads as it did. -/
def linkMapsSpec : ChangeSpec := { name := "linkMaps", fn := fun _ => fun
  | [d] => { results := [.lit (.bool true)], args := [d] }
  | _ => none }
def linkMapsRow : OpenClaim := { program := "ytacmmedhjebfjaadoor", sum := "306a98742185153e8c52d7b1978b00272a4b1560f4cb0bbd52b7c27d5bfcafe8", func := "facade/facadelaw13.LinkMaps", spec := "linkMaps", inPlace := ["internal/reflectlite.ValueOf", "(internal/reflectlite.Value).Type", "(internal/reflectlite.Value).IsNil", "internal/reflectlite.TypeOf", "(internal/reflectlite.Value).Elem", "(internal/reflectlite.Value).Set"], unfollowed := true, recurses := true, named := ["facade/api.ErrMany", "facade/api.ErrTwice", "facade/api.ErrNone", "facade/api.ErrShape", "facade/api.ErrMap", "facade/api.ErrOp", "facade/api.ErrRange", "errors.errorType"], apart := false, laid := [("errors.errorType", laid_errors_errorType), ("facade/api.ErrShape", laid_facade_api_ErrShape), ("facade/api.ErrRange", laid_facade_api_ErrRange), ("facade/api.ErrMany", laid_facade_api_ErrMany), ("facade/api.ErrOp", laid_facade_api_ErrOp), ("facade/api.ErrTwice", laid_facade_api_ErrTwice), ("facade/api.ErrNone", laid_facade_api_ErrNone), ("facade/api.ErrMap", laid_facade_api_ErrMap)] }
def LinkMapsSaid : Prop := linkMapsRow.holds Tryd.pinned (OpenSpec.ofChange linkMapsSpec)

/-- ITS FALSE NEIGHBOUR: 'it returns false'. Refute it at one input. -/
def linkMapsWrong : ChangeSpec := { name := "linkMaps", fn := fun _ => fun
  | [d] => { results := [.lit (.bool false)], args := [d] }
  | _ => none }
def LinkMapsWrongFalsely : Prop := linkMapsRow.holds Tryd.pinned (OpenSpec.ofChange linkMapsWrong)

/-- 'facadelaw13.LinkOrder': WHATEVER THE INPUT: true; the input reads as it did. -/
def linkOrderSpec : ChangeSpec := { name := "linkOrder", fn := fun _ => fun
  | [d1, d2, d3] => { results := [.lit (.bool true)], args := [d1, d2, d3] }
  | _ => none }
def linkOrderRow : OpenClaim := { program := "ytacmmedhjebfjaadoor", sum := "306a98742185153e8c52d7b1978b00272a4b1560f4cb0bbd52b7c27d5bfcafe8", func := "facade/facadelaw13.LinkOrder", spec := "linkOrder", inPlace := ["internal/reflectlite.ValueOf", "(internal/reflectlite.Value).Type", "(internal/reflectlite.Value).IsNil", "internal/reflectlite.TypeOf", "(internal/reflectlite.Value).Elem", "(internal/reflectlite.Value).Set"], unfollowed := true, recurses := true, named := ["facade/api.ErrMany", "facade/api.ErrTwice", "facade/api.ErrNone", "facade/api.ErrShape", "facade/api.ErrMap", "facade/api.ErrOp", "facade/api.ErrRange", "errors.errorType", "internal/strconv.uint64pow10", "math/bits.deBruijn32tab", "math/bits.deBruijn64tab"], apart := false, laid := [("math/bits.deBruijn32tab", laid_math_bits_deBruijn32tab), ("math/bits.deBruijn64tab", laid_math_bits_deBruijn64tab), ("internal/strconv.uint64pow10", laid_internal_strconv_uint64pow10), ("errors.errorType", laid_errors_errorType), ("facade/api.ErrShape", laid_facade_api_ErrShape), ("facade/api.ErrRange", laid_facade_api_ErrRange), ("facade/api.ErrMany", laid_facade_api_ErrMany), ("facade/api.ErrOp", laid_facade_api_ErrOp), ("facade/api.ErrTwice", laid_facade_api_ErrTwice), ("facade/api.ErrNone", laid_facade_api_ErrNone), ("facade/api.ErrMap", laid_facade_api_ErrMap)] }
def LinkOrderSaid : Prop := linkOrderRow.holds Tryd.pinned (OpenSpec.ofChange linkOrderSpec)

/-- ITS FALSE NEIGHBOUR: 'it returns false'. Refute it at one input. -/
def linkOrderWrong : ChangeSpec := { name := "linkOrder", fn := fun _ => fun
  | [d1, d2, d3] => { results := [.lit (.bool false)], args := [d1, d2, d3] }
  | _ => none }
def LinkOrderWrongFalsely : Prop := linkOrderRow.holds Tryd.pinned (OpenSpec.ofChange linkOrderWrong)

/-- 'facadelaw13.LinkData': WHATEVER THE INPUT: true; the input reads as it did. -/
def linkDataSpec : ChangeSpec := { name := "linkData", fn := fun _ => fun
  | [d1, d2] => { results := [.lit (.bool true)], args := [d1, d2] }
  | _ => none }
def linkDataRow : OpenClaim := { program := "ytacmmedhjebfjaadoor", sum := "306a98742185153e8c52d7b1978b00272a4b1560f4cb0bbd52b7c27d5bfcafe8", func := "facade/facadelaw13.LinkData", spec := "linkData", inPlace := ["internal/reflectlite.ValueOf", "(internal/reflectlite.Value).Type", "(internal/reflectlite.Value).IsNil", "internal/reflectlite.TypeOf", "(internal/reflectlite.Value).Elem", "(internal/reflectlite.Value).Set"], unfollowed := true, recurses := true, named := ["facade/api.ErrMany", "facade/api.ErrTwice", "facade/api.ErrNone", "facade/api.ErrShape", "facade/api.ErrMap", "facade/api.ErrOp", "facade/api.ErrRange", "errors.errorType", "internal/strconv.uint64pow10", "math/bits.deBruijn32tab", "math/bits.deBruijn64tab"], apart := false, laid := [("math/bits.deBruijn32tab", laid_math_bits_deBruijn32tab), ("math/bits.deBruijn64tab", laid_math_bits_deBruijn64tab), ("internal/strconv.uint64pow10", laid_internal_strconv_uint64pow10), ("errors.errorType", laid_errors_errorType), ("facade/api.ErrShape", laid_facade_api_ErrShape), ("facade/api.ErrRange", laid_facade_api_ErrRange), ("facade/api.ErrMany", laid_facade_api_ErrMany), ("facade/api.ErrOp", laid_facade_api_ErrOp), ("facade/api.ErrTwice", laid_facade_api_ErrTwice), ("facade/api.ErrNone", laid_facade_api_ErrNone), ("facade/api.ErrMap", laid_facade_api_ErrMap)] }
def LinkDataSaid : Prop := linkDataRow.holds Tryd.pinned (OpenSpec.ofChange linkDataSpec)

/-- ITS FALSE NEIGHBOUR: 'it returns false'. Refute it at one input. -/
def linkDataWrong : ChangeSpec := { name := "linkData", fn := fun _ => fun
  | [d1, d2] => { results := [.lit (.bool false)], args := [d1, d2] }
  | _ => none }
def LinkDataWrongFalsely : Prop := linkDataRow.holds Tryd.pinned (OpenSpec.ofChange linkDataWrong)

/- THE SECOND FORM. 'bulk': how many values and letters a reading holds, each counted each time it is reached (what is shared counts as often as it is met; a slice's spare places count too). A statement '..UptoSaid' is the law's where the arguments, and the package variables that the reading takes, are together of bulk at most 1048576: NARROWER than '..Said'. Prove '..Said' where nothing that the law and all that it calls make is longer than what came in: it says more and counts as full. Else prove '..UptoSaid'. A law counts once. -/
mutual
def uptoBulk {H : Type} : DataW H → Nat
  | .lit (.string bytes) => bytes.length + 1
  | .lit _ => 1
  | .nil => 1
  | .ptr d => uptoBulk d + 1
  | .slice elems spare => uptoBulkAll elems + uptoBulkAll spare + 1
  | .agg parts => uptoBulkAll parts + 1
  | .iface _ d => uptoBulk d + 1
  | .map entries => uptoBulkEntries entries + 1
  | .held _ => 1
def uptoBulkAll {H : Type} : List (DataW H) → Nat
  | [] => 0
  | d :: r => uptoBulk d + uptoBulkAll r
def uptoBulkEntries {H : Type} : List (Lit × DataW H) → Nat
  | [] => 0
  | x :: r => uptoBulkEntry x + uptoBulkEntries r
def uptoBulkEntry {H : Type} : Lit × DataW H → Nat
  | (.string bytes, d) => bytes.length + uptoBulk d + 1
  | (_, d) => uptoBulk d + 1
 end
def uptoSmall : (H : Type) → List (DataW H) → Bool := fun _ ds => decide (uptoBulkAll ds ≤ 1048576)
def OpenSpec.upto (s : _root_.Go.ChangeSpec) : _root_.Go.OpenSpec := { _root_.Go.OpenSpec.ofChange s with cond := some uptoSmall }

/-- 'facadelaw13.LinkGoes', WHERE WHAT IT READS IS OF BULK AT MOST 1048576: true; the input reads as it did. -/
def linkGoesUptoRow : OpenClaim := { program := "ytacmmedhjebfjaadoor", sum := "306a98742185153e8c52d7b1978b00272a4b1560f4cb0bbd52b7c27d5bfcafe8", func := "facade/facadelaw13.LinkGoes", spec := "linkGoes", inPlace := ["internal/reflectlite.ValueOf", "(internal/reflectlite.Value).Type", "(internal/reflectlite.Value).IsNil", "internal/reflectlite.TypeOf", "(internal/reflectlite.Value).Elem", "(internal/reflectlite.Value).Set"], unfollowed := true, recurses := true, named := ["facade/api.ErrMany", "facade/api.ErrTwice", "facade/api.ErrNone", "facade/api.ErrShape", "facade/api.ErrMap", "facade/api.ErrOp", "facade/api.ErrRange", "errors.errorType"], apart := false, laid := [("errors.errorType", laid_errors_errorType), ("facade/api.ErrShape", laid_facade_api_ErrShape), ("facade/api.ErrRange", laid_facade_api_ErrRange), ("facade/api.ErrMany", laid_facade_api_ErrMany), ("facade/api.ErrOp", laid_facade_api_ErrOp), ("facade/api.ErrTwice", laid_facade_api_ErrTwice), ("facade/api.ErrNone", laid_facade_api_ErrNone), ("facade/api.ErrMap", laid_facade_api_ErrMap)], narrowed := true }
def LinkGoesUptoSaid : Prop := linkGoesUptoRow.holds Tryd.pinned (OpenSpec.upto linkGoesSpec)

/-- 'facadelaw13.LinkFar', WHERE WHAT IT READS IS OF BULK AT MOST 1048576: true; the input reads as it did. -/
def linkFarUptoRow : OpenClaim := { program := "ytacmmedhjebfjaadoor", sum := "306a98742185153e8c52d7b1978b00272a4b1560f4cb0bbd52b7c27d5bfcafe8", func := "facade/facadelaw13.LinkFar", spec := "linkFar", inPlace := ["internal/reflectlite.ValueOf", "(internal/reflectlite.Value).Type", "(internal/reflectlite.Value).IsNil", "internal/reflectlite.TypeOf", "(internal/reflectlite.Value).Elem", "(internal/reflectlite.Value).Set"], unfollowed := true, recurses := true, named := ["facade/api.ErrMany", "facade/api.ErrTwice", "facade/api.ErrNone", "facade/api.ErrShape", "facade/api.ErrMap", "facade/api.ErrOp", "facade/api.ErrRange", "errors.errorType"], apart := false, laid := [("errors.errorType", laid_errors_errorType), ("facade/api.ErrShape", laid_facade_api_ErrShape), ("facade/api.ErrRange", laid_facade_api_ErrRange), ("facade/api.ErrMany", laid_facade_api_ErrMany), ("facade/api.ErrOp", laid_facade_api_ErrOp), ("facade/api.ErrTwice", laid_facade_api_ErrTwice), ("facade/api.ErrNone", laid_facade_api_ErrNone), ("facade/api.ErrMap", laid_facade_api_ErrMap)], narrowed := true }
def LinkFarUptoSaid : Prop := linkFarUptoRow.holds Tryd.pinned (OpenSpec.upto linkFarSpec)

/-- 'facadelaw13.LinkMaps', WHERE WHAT IT READS IS OF BULK AT MOST 1048576: true; the input reads as it did. -/
def linkMapsUptoRow : OpenClaim := { program := "ytacmmedhjebfjaadoor", sum := "306a98742185153e8c52d7b1978b00272a4b1560f4cb0bbd52b7c27d5bfcafe8", func := "facade/facadelaw13.LinkMaps", spec := "linkMaps", inPlace := ["internal/reflectlite.ValueOf", "(internal/reflectlite.Value).Type", "(internal/reflectlite.Value).IsNil", "internal/reflectlite.TypeOf", "(internal/reflectlite.Value).Elem", "(internal/reflectlite.Value).Set"], unfollowed := true, recurses := true, named := ["facade/api.ErrMany", "facade/api.ErrTwice", "facade/api.ErrNone", "facade/api.ErrShape", "facade/api.ErrMap", "facade/api.ErrOp", "facade/api.ErrRange", "errors.errorType"], apart := false, laid := [("errors.errorType", laid_errors_errorType), ("facade/api.ErrShape", laid_facade_api_ErrShape), ("facade/api.ErrRange", laid_facade_api_ErrRange), ("facade/api.ErrMany", laid_facade_api_ErrMany), ("facade/api.ErrOp", laid_facade_api_ErrOp), ("facade/api.ErrTwice", laid_facade_api_ErrTwice), ("facade/api.ErrNone", laid_facade_api_ErrNone), ("facade/api.ErrMap", laid_facade_api_ErrMap)], narrowed := true }
def LinkMapsUptoSaid : Prop := linkMapsUptoRow.holds Tryd.pinned (OpenSpec.upto linkMapsSpec)

/-- 'facadelaw13.LinkOrder', WHERE WHAT IT READS IS OF BULK AT MOST 1048576: true; the input reads as it did. -/
def linkOrderUptoRow : OpenClaim := { program := "ytacmmedhjebfjaadoor", sum := "306a98742185153e8c52d7b1978b00272a4b1560f4cb0bbd52b7c27d5bfcafe8", func := "facade/facadelaw13.LinkOrder", spec := "linkOrder", inPlace := ["internal/reflectlite.ValueOf", "(internal/reflectlite.Value).Type", "(internal/reflectlite.Value).IsNil", "internal/reflectlite.TypeOf", "(internal/reflectlite.Value).Elem", "(internal/reflectlite.Value).Set"], unfollowed := true, recurses := true, named := ["facade/api.ErrMany", "facade/api.ErrTwice", "facade/api.ErrNone", "facade/api.ErrShape", "facade/api.ErrMap", "facade/api.ErrOp", "facade/api.ErrRange", "errors.errorType", "internal/strconv.uint64pow10", "math/bits.deBruijn32tab", "math/bits.deBruijn64tab"], apart := false, laid := [("math/bits.deBruijn32tab", laid_math_bits_deBruijn32tab), ("math/bits.deBruijn64tab", laid_math_bits_deBruijn64tab), ("internal/strconv.uint64pow10", laid_internal_strconv_uint64pow10), ("errors.errorType", laid_errors_errorType), ("facade/api.ErrShape", laid_facade_api_ErrShape), ("facade/api.ErrRange", laid_facade_api_ErrRange), ("facade/api.ErrMany", laid_facade_api_ErrMany), ("facade/api.ErrOp", laid_facade_api_ErrOp), ("facade/api.ErrTwice", laid_facade_api_ErrTwice), ("facade/api.ErrNone", laid_facade_api_ErrNone), ("facade/api.ErrMap", laid_facade_api_ErrMap)], narrowed := true }
def LinkOrderUptoSaid : Prop := linkOrderUptoRow.holds Tryd.pinned (OpenSpec.upto linkOrderSpec)

/-- 'facadelaw13.LinkData', WHERE WHAT IT READS IS OF BULK AT MOST 1048576: true; the input reads as it did. -/
def linkDataUptoRow : OpenClaim := { program := "ytacmmedhjebfjaadoor", sum := "306a98742185153e8c52d7b1978b00272a4b1560f4cb0bbd52b7c27d5bfcafe8", func := "facade/facadelaw13.LinkData", spec := "linkData", inPlace := ["internal/reflectlite.ValueOf", "(internal/reflectlite.Value).Type", "(internal/reflectlite.Value).IsNil", "internal/reflectlite.TypeOf", "(internal/reflectlite.Value).Elem", "(internal/reflectlite.Value).Set"], unfollowed := true, recurses := true, named := ["facade/api.ErrMany", "facade/api.ErrTwice", "facade/api.ErrNone", "facade/api.ErrShape", "facade/api.ErrMap", "facade/api.ErrOp", "facade/api.ErrRange", "errors.errorType", "internal/strconv.uint64pow10", "math/bits.deBruijn32tab", "math/bits.deBruijn64tab"], apart := false, laid := [("math/bits.deBruijn32tab", laid_math_bits_deBruijn32tab), ("math/bits.deBruijn64tab", laid_math_bits_deBruijn64tab), ("internal/strconv.uint64pow10", laid_internal_strconv_uint64pow10), ("errors.errorType", laid_errors_errorType), ("facade/api.ErrShape", laid_facade_api_ErrShape), ("facade/api.ErrRange", laid_facade_api_ErrRange), ("facade/api.ErrMany", laid_facade_api_ErrMany), ("facade/api.ErrOp", laid_facade_api_ErrOp), ("facade/api.ErrTwice", laid_facade_api_ErrTwice), ("facade/api.ErrNone", laid_facade_api_ErrNone), ("facade/api.ErrMap", laid_facade_api_ErrMap)], narrowed := true }
def LinkDataUptoSaid : Prop := linkDataUptoRow.holds Tryd.pinned (OpenSpec.upto linkDataSpec)

end Rows
end Go.Proofs.YtacmmedhjebfjaaDoor
