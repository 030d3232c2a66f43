/-
  NARROWER THAN 'FOR EVERY INPUT', by the rows' own cells (each row's printed sentence says how): SiteFinds: laid · ObjWrong: laid · ObjOwn: laid · RewriteLong: laid · RewriteKeeps: laid · RewriteMarks: laid · RewriteOnce: laid · RewriteSays: laid · ObjBack: laid · ObjBent: laid · ObjLimits: laid · SiteSays: laid · SiteEach: laid.
  DERIVED. THE GIVEN ROWS OF THIS SEAT. 13 by the template 'for every input the law returns true; each argument reads behind the call as it read before'; 0 by the template 'total and deterministic' (their statements: YtbdfibaljoedpaaDoorTotals.lean).
  GIVEN WITH THE SEED: the statements are not yours to turn. If you find one false, say at which input.
  Laid BY PROGRAM, IN A SANDBOX (cutbox-rows.mjs): the forced cells as the released guide's own fill.sh prints them over the translation 0b659246090fe1e6… (all of the seat's roots in one cut). By AI agents, Wed Nov 11 2026. No macro, syntax, notation, axiom, sorry.
-/
import Derived.Test.YtbdfibaljoedpaaDoorChecked
import GoSem.Claim
import GoSem.ClaimJoined
import GoSem.ClaimMapViews
import Derived.JoinedTies
import Derived.KernelRfl
namespace Go.Proofs.YtbdfibaljoedpaaDoor
/- THE CELL 'sum', in the pinned program and in every row, IS THE sha256 OF THE DUMP (.gsa) THAT YtbdfibaljoedpaaDoorProg.lean LOADS. Nothing in Lean hashes anything: it is a label: what it is worth is what the hold of that sum in a sandbox is worth. -/
noncomputable def Tryd.pinned : Pinned := { name := "ytbdfibaljoedpaadoor", sum := "0b659246090fe1e69e90852ca3855fde25ac2900e1da94be32602c421257ba60", checked := Tryd.checked }
namespace Rows
def none {H : Type} : Left H := { results := [], args := [] }

/- WHAT THE LISTED PACKAGE-LEVEL VARIABLES READ AS WHEN THE CALL BEGINS. Each datum BY PROGRAM (the guide's laid-datum.mjs) off the statement by which the dump's own 'gosem.cut.vars' lays the variable. In a bare row this is a premise. The card (YtbdfibaljoedpaaDoorCards.lean) ties it to the program's text. -/
def laid_facade_api_ErrShape {H : Type} : DataW H := .iface "*errors.errorString" (.ptr (.agg [.lit (.string [110, 111, 116, 32, 97, 115, 32, 105, 116, 32, 104, 97, 115, 32, 116, 111, 32, 98, 101])]))
def laid_facade_api_ErrRange {H : Type} : DataW H := .iface "*errors.errorString" (.ptr (.agg [.lit (.string [97, 32, 110, 117, 109, 98, 101, 114, 32, 111, 117, 116, 32, 111, 102, 32, 105, 116, 115, 32, 114, 97, 110, 103, 101])]))
def laid_facade_api_ErrMany {H : Type} : DataW H := .iface "*errors.errorString" (.ptr (.agg [.lit (.string [116, 111, 111, 32, 109, 97, 110, 121])]))
def laid_facade_api_ErrOp {H : Type} : DataW H := .iface "*errors.errorString" (.ptr (.agg [.lit (.string [110, 111, 32, 115, 117, 99, 104, 32, 105, 110, 115, 116, 114, 117, 99, 116, 105, 111, 110])]))
def laid_facade_api_ErrTwice {H : Type} : DataW H := .iface "*errors.errorString" (.ptr (.agg [.lit (.string [116, 104, 101, 114, 101, 32, 105, 115, 32, 111, 110, 101])]))
def laid_facade_api_ErrNone {H : Type} : DataW H := .iface "*errors.errorString" (.ptr (.agg [.lit (.string [116, 104, 101, 114, 101, 32, 105, 115, 32, 110, 111, 110, 101])]))
def laid_facade_api_ErrMap {H : Type} : DataW H := .iface "*errors.errorString" (.ptr (.agg [.lit (.string [110, 111, 116, 32, 97, 115, 32, 116, 104, 101, 32, 99, 111, 100, 101, 39, 115, 32, 109, 97, 112, 32, 104, 97, 115, 32, 105, 116])]))
def laid_facade_api_ErrEnd {H : Type} : DataW H := .iface "*errors.errorString" (.ptr (.agg [.lit (.string [105, 116, 32, 101, 110, 100, 115, 32, 116, 111, 111, 32, 101, 97, 114, 108, 121])]))
def laid_facade_api_ErrFar {H : Type} : DataW H := .iface "*errors.errorString" (.ptr (.agg [.lit (.string [116, 111, 111, 32, 102, 97, 114])]))
def laid_facade_api_ErrOwner {H : Type} : DataW H := .iface "*errors.errorString" (.ptr (.agg [.lit (.string [97, 110, 111, 116, 104, 101, 114, 32, 111, 110, 101, 39, 115])]))
def laid_facade_api_ErrType {H : Type} : DataW H := .iface "*errors.errorString" (.ptr (.agg [.lit (.string [97, 32, 102, 114, 97, 109, 101, 32, 111, 102, 32, 97, 110, 111, 116, 104, 101, 114, 32, 107, 105, 110, 100])]))
def laid_facade_api_ErrBusy {H : Type} : DataW H := .iface "*errors.errorString" (.ptr (.agg [.lit (.string [115, 116, 105, 108, 108, 32, 105, 110, 32, 117, 115, 101])]))
def laid_facade_api_ErrFull {H : Type} : DataW H := .iface "*errors.errorString" (.ptr (.agg [.lit (.string [116, 104, 101, 114, 101, 32, 105, 115, 32, 110, 111, 32, 114, 111, 111, 109])]))
def laid_facade_api_ErrState {H : Type} : DataW H := .iface "*errors.errorString" (.ptr (.agg [.lit (.string [110, 111, 116, 32, 97, 115, 32, 105, 116, 32, 105, 115, 32, 110, 111, 119])]))
def laid_facade_api_ErrWord {H : Type} : DataW H := .iface "*errors.errorString" (.ptr (.agg [.lit (.string [110, 111, 32, 115, 117, 99, 104, 32, 119, 111, 114, 100])]))
def laid_facade_api_ErrNumber {H : Type} : DataW H := .iface "*errors.errorString" (.ptr (.agg [.lit (.string [110, 111, 116, 32, 97, 32, 110, 117, 109, 98, 101, 114])]))
def laid_math_bits_deBruijn32tab {H : Type} : DataW H := .agg [.lit (.int .u8 0), .lit (.int .u8 1), .lit (.int .u8 28), .lit (.int .u8 2), .lit (.int .u8 29), .lit (.int .u8 14), .lit (.int .u8 24), .lit (.int .u8 3), .lit (.int .u8 30), .lit (.int .u8 22), .lit (.int .u8 20), .lit (.int .u8 15), .lit (.int .u8 25), .lit (.int .u8 17), .lit (.int .u8 4), .lit (.int .u8 8), .lit (.int .u8 31), .lit (.int .u8 27), .lit (.int .u8 13), .lit (.int .u8 23), .lit (.int .u8 21), .lit (.int .u8 19), .lit (.int .u8 16), .lit (.int .u8 7), .lit (.int .u8 26), .lit (.int .u8 12), .lit (.int .u8 18), .lit (.int .u8 6), .lit (.int .u8 11), .lit (.int .u8 5), .lit (.int .u8 10), .lit (.int .u8 9)]
def laid_math_bits_deBruijn64tab {H : Type} : DataW H := .agg [.lit (.int .u8 0), .lit (.int .u8 1), .lit (.int .u8 56), .lit (.int .u8 2), .lit (.int .u8 57), .lit (.int .u8 49), .lit (.int .u8 28), .lit (.int .u8 3), .lit (.int .u8 61), .lit (.int .u8 58), .lit (.int .u8 42), .lit (.int .u8 50), .lit (.int .u8 38), .lit (.int .u8 29), .lit (.int .u8 17), .lit (.int .u8 4), .lit (.int .u8 62), .lit (.int .u8 47), .lit (.int .u8 59), .lit (.int .u8 36), .lit (.int .u8 45), .lit (.int .u8 43), .lit (.int .u8 51), .lit (.int .u8 22), .lit (.int .u8 53), .lit (.int .u8 39), .lit (.int .u8 33), .lit (.int .u8 30), .lit (.int .u8 24), .lit (.int .u8 18), .lit (.int .u8 12), .lit (.int .u8 5), .lit (.int .u8 63), .lit (.int .u8 55), .lit (.int .u8 48), .lit (.int .u8 27), .lit (.int .u8 60), .lit (.int .u8 41), .lit (.int .u8 37), .lit (.int .u8 16), .lit (.int .u8 46), .lit (.int .u8 35), .lit (.int .u8 44), .lit (.int .u8 21), .lit (.int .u8 52), .lit (.int .u8 32), .lit (.int .u8 23), .lit (.int .u8 11), .lit (.int .u8 54), .lit (.int .u8 26), .lit (.int .u8 40), .lit (.int .u8 15), .lit (.int .u8 34), .lit (.int .u8 20), .lit (.int .u8 31), .lit (.int .u8 10), .lit (.int .u8 25), .lit (.int .u8 14), .lit (.int .u8 19), .lit (.int .u8 9), .lit (.int .u8 13), .lit (.int .u8 8), .lit (.int .u8 7), .lit (.int .u8 6)]
def laid_internal_strconv_uint64pow10 {H : Type} : DataW H := .agg [.lit (.int .u64 1), .lit (.int .u64 10), .lit (.int .u64 100), .lit (.int .u64 1000), .lit (.int .u64 10000), .lit (.int .u64 100000), .lit (.int .u64 1000000), .lit (.int .u64 10000000), .lit (.int .u64 100000000), .lit (.int .u64 1000000000), .lit (.int .u64 10000000000), .lit (.int .u64 100000000000), .lit (.int .u64 1000000000000), .lit (.int .u64 10000000000000), .lit (.int .u64 100000000000000), .lit (.int .u64 1000000000000000), .lit (.int .u64 10000000000000000), .lit (.int .u64 100000000000000000), .lit (.int .u64 1000000000000000000), .lit (.int .u64 10000000000000000000)]

/-- 'facadelaw10.SiteFinds': WHATEVER THE INPUT: true; the input reads as it did. -/
def siteFindsSpec : ChangeSpec := { name := "siteFinds", fn := fun _ => fun
  | [d] => { results := [.lit (.bool true)], args := [d] }
  | _ => none }
def siteFindsRow : OpenClaim := { program := "ytbdfibaljoedpaadoor", sum := "0b659246090fe1e69e90852ca3855fde25ac2900e1da94be32602c421257ba60", func := "facade/facadelaw10.SiteFinds", spec := "siteFinds", unfollowed := true, recurses := true, named := ["facade/api.ErrMany", "facade/api.ErrMap", "facade/api.ErrOp", "facade/api.ErrRange", "facade/api.ErrTwice", "facade/api.ErrShape", "facade/api.ErrNone"], apart := false, laid := [("facade/api.ErrShape", laid_facade_api_ErrShape), ("facade/api.ErrRange", laid_facade_api_ErrRange), ("facade/api.ErrMany", laid_facade_api_ErrMany), ("facade/api.ErrOp", laid_facade_api_ErrOp), ("facade/api.ErrTwice", laid_facade_api_ErrTwice), ("facade/api.ErrNone", laid_facade_api_ErrNone), ("facade/api.ErrMap", laid_facade_api_ErrMap)] }
def SiteFindsSaid : Prop := siteFindsRow.holds Tryd.pinned (OpenSpec.ofChange siteFindsSpec)

/-- ITS FALSE NEIGHBOUR: 'it returns false'. Refute it at one input. -/
def siteFindsWrong : ChangeSpec := { name := "siteFinds", fn := fun _ => fun
  | [d] => { results := [.lit (.bool false)], args := [d] }
  | _ => none }
def SiteFindsWrongFalsely : Prop := siteFindsRow.holds Tryd.pinned (OpenSpec.ofChange siteFindsWrong)

/-- 'facadelaw9.ObjWrong': WHATEVER THE INPUT: true; the input reads as it did. -/
def objWrongSpec : ChangeSpec := { name := "objWrong", fn := fun _ => fun
  | [d1, d2] => { results := [.lit (.bool true)], args := [d1, d2] }
  | _ => none }
def objWrongRow : OpenClaim := { program := "ytbdfibaljoedpaadoor", sum := "0b659246090fe1e69e90852ca3855fde25ac2900e1da94be32602c421257ba60", func := "facade/facadelaw9.ObjWrong", spec := "objWrong", unfollowed := true, recurses := true, named := ["facade/api.ErrMany", "facade/api.ErrMap", "facade/api.ErrOp", "facade/api.ErrRange", "facade/api.ErrTwice", "facade/api.ErrShape", "facade/api.ErrNone", "facade/api.ErrEnd", "facade/api.ErrFar", "facade/api.ErrOwner", "facade/api.ErrType", "facade/api.ErrBusy", "facade/api.ErrFull", "facade/api.ErrState", "facade/api.ErrWord", "facade/api.ErrNumber"], apart := false, laid := [("facade/api.ErrEnd", laid_facade_api_ErrEnd), ("facade/api.ErrShape", laid_facade_api_ErrShape), ("facade/api.ErrRange", laid_facade_api_ErrRange), ("facade/api.ErrMany", laid_facade_api_ErrMany), ("facade/api.ErrOp", laid_facade_api_ErrOp), ("facade/api.ErrTwice", laid_facade_api_ErrTwice), ("facade/api.ErrNone", laid_facade_api_ErrNone), ("facade/api.ErrFar", laid_facade_api_ErrFar), ("facade/api.ErrMap", laid_facade_api_ErrMap), ("facade/api.ErrOwner", laid_facade_api_ErrOwner), ("facade/api.ErrType", laid_facade_api_ErrType), ("facade/api.ErrBusy", laid_facade_api_ErrBusy), ("facade/api.ErrFull", laid_facade_api_ErrFull), ("facade/api.ErrState", laid_facade_api_ErrState), ("facade/api.ErrWord", laid_facade_api_ErrWord), ("facade/api.ErrNumber", laid_facade_api_ErrNumber)] }
def ObjWrongSaid : Prop := objWrongRow.holds Tryd.pinned (OpenSpec.ofChange objWrongSpec)

/-- ITS FALSE NEIGHBOUR: 'it returns false'. Refute it at one input. -/
def objWrongWrong : ChangeSpec := { name := "objWrong", fn := fun _ => fun
  | [d1, d2] => { results := [.lit (.bool false)], args := [d1, d2] }
  | _ => none }
def ObjWrongWrongFalsely : Prop := objWrongRow.holds Tryd.pinned (OpenSpec.ofChange objWrongWrong)

/-- 'facadelaw9.ObjOwn': WHATEVER THE INPUT: true; the input reads as it did. -/
def objOwnSpec : ChangeSpec := { name := "objOwn", fn := fun _ => fun
  | [d1, d2] => { results := [.lit (.bool true)], args := [d1, d2] }
  | _ => none }
def objOwnRow : OpenClaim := { program := "ytbdfibaljoedpaadoor", sum := "0b659246090fe1e69e90852ca3855fde25ac2900e1da94be32602c421257ba60", func := "facade/facadelaw9.ObjOwn", spec := "objOwn", unfollowed := true, recurses := true, named := ["facade/api.ErrMany", "facade/api.ErrMap", "facade/api.ErrOp", "facade/api.ErrRange", "facade/api.ErrTwice", "facade/api.ErrShape", "facade/api.ErrNone"], apart := false, laid := [("facade/api.ErrShape", laid_facade_api_ErrShape), ("facade/api.ErrRange", laid_facade_api_ErrRange), ("facade/api.ErrMany", laid_facade_api_ErrMany), ("facade/api.ErrOp", laid_facade_api_ErrOp), ("facade/api.ErrTwice", laid_facade_api_ErrTwice), ("facade/api.ErrNone", laid_facade_api_ErrNone), ("facade/api.ErrMap", laid_facade_api_ErrMap)] }
def ObjOwnSaid : Prop := objOwnRow.holds Tryd.pinned (OpenSpec.ofChange objOwnSpec)

/-- ITS FALSE NEIGHBOUR: 'it returns false'. Refute it at one input. -/
def objOwnWrong : ChangeSpec := { name := "objOwn", fn := fun _ => fun
  | [d1, d2] => { results := [.lit (.bool false)], args := [d1, d2] }
  | _ => none }
def ObjOwnWrongFalsely : Prop := objOwnRow.holds Tryd.pinned (OpenSpec.ofChange objOwnWrong)

/-- 'facadelaw11.RewriteLong': WHATEVER THE INPUT: true; the input reads as it did. -/
def rewriteLongSpec : ChangeSpec := { name := "rewriteLong", fn := fun _ => fun
  | [d] => { results := [.lit (.bool true)], args := [d] }
  | _ => none }
def rewriteLongRow : OpenClaim := { program := "ytbdfibaljoedpaadoor", sum := "0b659246090fe1e69e90852ca3855fde25ac2900e1da94be32602c421257ba60", func := "facade/facadelaw11.RewriteLong", spec := "rewriteLong", unfollowed := true, recurses := true, named := ["facade/api.ErrMany", "facade/api.ErrMap", "facade/api.ErrOp", "facade/api.ErrRange", "facade/api.ErrTwice", "facade/api.ErrShape", "facade/api.ErrNone", "facade/api.ErrEnd", "facade/api.ErrFar", "facade/api.ErrOwner", "facade/api.ErrType", "facade/api.ErrBusy", "facade/api.ErrFull", "facade/api.ErrState", "facade/api.ErrWord", "facade/api.ErrNumber"], apart := false, laid := [("facade/api.ErrEnd", laid_facade_api_ErrEnd), ("facade/api.ErrShape", laid_facade_api_ErrShape), ("facade/api.ErrRange", laid_facade_api_ErrRange), ("facade/api.ErrMany", laid_facade_api_ErrMany), ("facade/api.ErrOp", laid_facade_api_ErrOp), ("facade/api.ErrTwice", laid_facade_api_ErrTwice), ("facade/api.ErrNone", laid_facade_api_ErrNone), ("facade/api.ErrFar", laid_facade_api_ErrFar), ("facade/api.ErrMap", laid_facade_api_ErrMap), ("facade/api.ErrOwner", laid_facade_api_ErrOwner), ("facade/api.ErrType", laid_facade_api_ErrType), ("facade/api.ErrBusy", laid_facade_api_ErrBusy), ("facade/api.ErrFull", laid_facade_api_ErrFull), ("facade/api.ErrState", laid_facade_api_ErrState), ("facade/api.ErrWord", laid_facade_api_ErrWord), ("facade/api.ErrNumber", laid_facade_api_ErrNumber)] }
def RewriteLongSaid : Prop := rewriteLongRow.holds Tryd.pinned (OpenSpec.ofChange rewriteLongSpec)

/-- ITS FALSE NEIGHBOUR: 'it returns false'. Refute it at one input. -/
def rewriteLongWrong : ChangeSpec := { name := "rewriteLong", fn := fun _ => fun
  | [d] => { results := [.lit (.bool false)], args := [d] }
  | _ => none }
def RewriteLongWrongFalsely : Prop := rewriteLongRow.holds Tryd.pinned (OpenSpec.ofChange rewriteLongWrong)

/-- 'facadelaw11.RewriteKeeps': WHATEVER THE INPUT: true; the input reads as it did. -/
def rewriteKeepsSpec : ChangeSpec := { name := "rewriteKeeps", fn := fun _ => fun
  | [d] => { results := [.lit (.bool true)], args := [d] }
  | _ => none }
def rewriteKeepsRow : OpenClaim := { program := "ytbdfibaljoedpaadoor", sum := "0b659246090fe1e69e90852ca3855fde25ac2900e1da94be32602c421257ba60", func := "facade/facadelaw11.RewriteKeeps", spec := "rewriteKeeps", unfollowed := true, recurses := true, named := ["facade/api.ErrMany", "facade/api.ErrMap", "facade/api.ErrOp", "facade/api.ErrRange", "facade/api.ErrTwice", "facade/api.ErrShape", "facade/api.ErrNone"], apart := false, laid := [("facade/api.ErrShape", laid_facade_api_ErrShape), ("facade/api.ErrRange", laid_facade_api_ErrRange), ("facade/api.ErrMany", laid_facade_api_ErrMany), ("facade/api.ErrOp", laid_facade_api_ErrOp), ("facade/api.ErrTwice", laid_facade_api_ErrTwice), ("facade/api.ErrNone", laid_facade_api_ErrNone), ("facade/api.ErrMap", laid_facade_api_ErrMap)] }
def RewriteKeepsSaid : Prop := rewriteKeepsRow.holds Tryd.pinned (OpenSpec.ofChange rewriteKeepsSpec)

/-- ITS FALSE NEIGHBOUR: 'it returns false'. Refute it at one input. -/
def rewriteKeepsWrong : ChangeSpec := { name := "rewriteKeeps", fn := fun _ => fun
  | [d] => { results := [.lit (.bool false)], args := [d] }
  | _ => none }
def RewriteKeepsWrongFalsely : Prop := rewriteKeepsRow.holds Tryd.pinned (OpenSpec.ofChange rewriteKeepsWrong)

/-- 'facadelaw11.RewriteMarks': WHATEVER THE INPUT: true; the input reads as it did. -/
def rewriteMarksSpec : ChangeSpec := { name := "rewriteMarks", fn := fun _ => fun
  | [d1, d2, d3, d4] => { results := [.lit (.bool true)], args := [d1, d2, d3, d4] }
  | _ => none }
def rewriteMarksRow : OpenClaim := { program := "ytbdfibaljoedpaadoor", sum := "0b659246090fe1e69e90852ca3855fde25ac2900e1da94be32602c421257ba60", func := "facade/facadelaw11.RewriteMarks", spec := "rewriteMarks", unfollowed := true, recurses := true, named := ["facade/api.ErrMany", "facade/api.ErrMap", "facade/api.ErrOp", "facade/api.ErrRange", "facade/api.ErrTwice", "facade/api.ErrShape", "facade/api.ErrNone"], apart := false, laid := [("facade/api.ErrShape", laid_facade_api_ErrShape), ("facade/api.ErrRange", laid_facade_api_ErrRange), ("facade/api.ErrMany", laid_facade_api_ErrMany), ("facade/api.ErrOp", laid_facade_api_ErrOp), ("facade/api.ErrTwice", laid_facade_api_ErrTwice), ("facade/api.ErrNone", laid_facade_api_ErrNone), ("facade/api.ErrMap", laid_facade_api_ErrMap)] }
def RewriteMarksSaid : Prop := rewriteMarksRow.holds Tryd.pinned (OpenSpec.ofChange rewriteMarksSpec)

/-- ITS FALSE NEIGHBOUR: 'it returns false'. Refute it at one input. -/
def rewriteMarksWrong : ChangeSpec := { name := "rewriteMarks", fn := fun _ => fun
  | [d1, d2, d3, d4] => { results := [.lit (.bool false)], args := [d1, d2, d3, d4] }
  | _ => none }
def RewriteMarksWrongFalsely : Prop := rewriteMarksRow.holds Tryd.pinned (OpenSpec.ofChange rewriteMarksWrong)

/-- 'facadelaw11.RewriteOnce': WHATEVER THE INPUT: true; the input reads as it did. -/
def rewriteOnceSpec : ChangeSpec := { name := "rewriteOnce", fn := fun _ => fun
  | [d] => { results := [.lit (.bool true)], args := [d] }
  | _ => none }
def rewriteOnceRow : OpenClaim := { program := "ytbdfibaljoedpaadoor", sum := "0b659246090fe1e69e90852ca3855fde25ac2900e1da94be32602c421257ba60", func := "facade/facadelaw11.RewriteOnce", spec := "rewriteOnce", unfollowed := true, recurses := true, named := ["facade/api.ErrMany", "facade/api.ErrMap", "facade/api.ErrOp", "facade/api.ErrRange", "facade/api.ErrTwice", "facade/api.ErrShape", "facade/api.ErrNone", "facade/api.ErrEnd", "facade/api.ErrFar", "facade/api.ErrOwner", "facade/api.ErrType", "facade/api.ErrBusy", "facade/api.ErrFull", "facade/api.ErrState", "facade/api.ErrWord", "facade/api.ErrNumber"], apart := false, laid := [("facade/api.ErrEnd", laid_facade_api_ErrEnd), ("facade/api.ErrShape", laid_facade_api_ErrShape), ("facade/api.ErrRange", laid_facade_api_ErrRange), ("facade/api.ErrMany", laid_facade_api_ErrMany), ("facade/api.ErrOp", laid_facade_api_ErrOp), ("facade/api.ErrTwice", laid_facade_api_ErrTwice), ("facade/api.ErrNone", laid_facade_api_ErrNone), ("facade/api.ErrFar", laid_facade_api_ErrFar), ("facade/api.ErrMap", laid_facade_api_ErrMap), ("facade/api.ErrOwner", laid_facade_api_ErrOwner), ("facade/api.ErrType", laid_facade_api_ErrType), ("facade/api.ErrBusy", laid_facade_api_ErrBusy), ("facade/api.ErrFull", laid_facade_api_ErrFull), ("facade/api.ErrState", laid_facade_api_ErrState), ("facade/api.ErrWord", laid_facade_api_ErrWord), ("facade/api.ErrNumber", laid_facade_api_ErrNumber)] }
def RewriteOnceSaid : Prop := rewriteOnceRow.holds Tryd.pinned (OpenSpec.ofChange rewriteOnceSpec)

/-- ITS FALSE NEIGHBOUR: 'it returns false'. Refute it at one input. -/
def rewriteOnceWrong : ChangeSpec := { name := "rewriteOnce", fn := fun _ => fun
  | [d] => { results := [.lit (.bool false)], args := [d] }
  | _ => none }
def RewriteOnceWrongFalsely : Prop := rewriteOnceRow.holds Tryd.pinned (OpenSpec.ofChange rewriteOnceWrong)

/-- 'facadelaw11.RewriteSays': WHATEVER THE INPUT: true; the input reads as it did. -/
def rewriteSaysSpec : ChangeSpec := { name := "rewriteSays", fn := fun _ => fun
  | [d1, d2] => { results := [.lit (.bool true)], args := [d1, d2] }
  | _ => none }
def rewriteSaysRow : OpenClaim := { program := "ytbdfibaljoedpaadoor", sum := "0b659246090fe1e69e90852ca3855fde25ac2900e1da94be32602c421257ba60", func := "facade/facadelaw11.RewriteSays", spec := "rewriteSays", unfollowed := true, recurses := true, named := ["facade/api.ErrMany", "facade/api.ErrMap", "facade/api.ErrOp", "facade/api.ErrRange", "facade/api.ErrTwice", "facade/api.ErrShape", "facade/api.ErrNone", "facade/api.ErrEnd", "facade/api.ErrFar", "facade/api.ErrOwner", "facade/api.ErrType", "facade/api.ErrBusy", "facade/api.ErrFull", "facade/api.ErrState", "facade/api.ErrWord", "facade/api.ErrNumber"], apart := false, laid := [("facade/api.ErrEnd", laid_facade_api_ErrEnd), ("facade/api.ErrShape", laid_facade_api_ErrShape), ("facade/api.ErrRange", laid_facade_api_ErrRange), ("facade/api.ErrMany", laid_facade_api_ErrMany), ("facade/api.ErrOp", laid_facade_api_ErrOp), ("facade/api.ErrTwice", laid_facade_api_ErrTwice), ("facade/api.ErrNone", laid_facade_api_ErrNone), ("facade/api.ErrFar", laid_facade_api_ErrFar), ("facade/api.ErrMap", laid_facade_api_ErrMap), ("facade/api.ErrOwner", laid_facade_api_ErrOwner), ("facade/api.ErrType", laid_facade_api_ErrType), ("facade/api.ErrBusy", laid_facade_api_ErrBusy), ("facade/api.ErrFull", laid_facade_api_ErrFull), ("facade/api.ErrState", laid_facade_api_ErrState), ("facade/api.ErrWord", laid_facade_api_ErrWord), ("facade/api.ErrNumber", laid_facade_api_ErrNumber)] }
def RewriteSaysSaid : Prop := rewriteSaysRow.holds Tryd.pinned (OpenSpec.ofChange rewriteSaysSpec)

/-- ITS FALSE NEIGHBOUR: 'it returns false'. Refute it at one input. -/
def rewriteSaysWrong : ChangeSpec := { name := "rewriteSays", fn := fun _ => fun
  | [d1, d2] => { results := [.lit (.bool false)], args := [d1, d2] }
  | _ => none }
def RewriteSaysWrongFalsely : Prop := rewriteSaysRow.holds Tryd.pinned (OpenSpec.ofChange rewriteSaysWrong)

/-- 'facadelaw9.ObjBack': WHATEVER THE INPUT: true; the input reads as it did. -/
def objBackSpec : ChangeSpec := { name := "objBack", fn := fun _ => fun
  | [d1, d2, d3] => { results := [.lit (.bool true)], args := [d1, d2, d3] }
  | _ => none }
def objBackRow : OpenClaim := { program := "ytbdfibaljoedpaadoor", sum := "0b659246090fe1e69e90852ca3855fde25ac2900e1da94be32602c421257ba60", func := "facade/facadelaw9.ObjBack", spec := "objBack", unfollowed := true, recurses := true, named := ["facade/api.ErrMany", "facade/api.ErrMap", "facade/api.ErrOp", "facade/api.ErrRange", "facade/api.ErrTwice", "facade/api.ErrShape", "facade/api.ErrNone", "facade/api.ErrEnd", "facade/api.ErrFar", "facade/api.ErrOwner", "facade/api.ErrType", "facade/api.ErrBusy", "facade/api.ErrFull", "facade/api.ErrState", "facade/api.ErrWord", "facade/api.ErrNumber"], apart := false, laid := [("facade/api.ErrEnd", laid_facade_api_ErrEnd), ("facade/api.ErrShape", laid_facade_api_ErrShape), ("facade/api.ErrRange", laid_facade_api_ErrRange), ("facade/api.ErrMany", laid_facade_api_ErrMany), ("facade/api.ErrOp", laid_facade_api_ErrOp), ("facade/api.ErrTwice", laid_facade_api_ErrTwice), ("facade/api.ErrNone", laid_facade_api_ErrNone), ("facade/api.ErrFar", laid_facade_api_ErrFar), ("facade/api.ErrMap", laid_facade_api_ErrMap), ("facade/api.ErrOwner", laid_facade_api_ErrOwner), ("facade/api.ErrType", laid_facade_api_ErrType), ("facade/api.ErrBusy", laid_facade_api_ErrBusy), ("facade/api.ErrFull", laid_facade_api_ErrFull), ("facade/api.ErrState", laid_facade_api_ErrState), ("facade/api.ErrWord", laid_facade_api_ErrWord), ("facade/api.ErrNumber", laid_facade_api_ErrNumber)] }
def ObjBackSaid : Prop := objBackRow.holds Tryd.pinned (OpenSpec.ofChange objBackSpec)

/-- ITS FALSE NEIGHBOUR: 'it returns false'. Refute it at one input. -/
def objBackWrong : ChangeSpec := { name := "objBack", fn := fun _ => fun
  | [d1, d2, d3] => { results := [.lit (.bool false)], args := [d1, d2, d3] }
  | _ => none }
def ObjBackWrongFalsely : Prop := objBackRow.holds Tryd.pinned (OpenSpec.ofChange objBackWrong)

/-- 'facadelaw9.ObjBent': WHATEVER THE INPUT: true; the input reads as it did. -/
def objBentSpec : ChangeSpec := { name := "objBent", fn := fun _ => fun
  | [d1, d2, d3] => { results := [.lit (.bool true)], args := [d1, d2, d3] }
  | _ => none }
def objBentRow : OpenClaim := { program := "ytbdfibaljoedpaadoor", sum := "0b659246090fe1e69e90852ca3855fde25ac2900e1da94be32602c421257ba60", func := "facade/facadelaw9.ObjBent", spec := "objBent", unfollowed := true, recurses := true, named := ["facade/api.ErrMany", "facade/api.ErrMap", "facade/api.ErrOp", "facade/api.ErrRange", "facade/api.ErrTwice", "facade/api.ErrShape", "facade/api.ErrNone", "facade/api.ErrEnd", "facade/api.ErrFar", "facade/api.ErrOwner", "facade/api.ErrType", "facade/api.ErrBusy", "facade/api.ErrFull", "facade/api.ErrState", "facade/api.ErrWord", "facade/api.ErrNumber"], apart := false, laid := [("facade/api.ErrEnd", laid_facade_api_ErrEnd), ("facade/api.ErrShape", laid_facade_api_ErrShape), ("facade/api.ErrRange", laid_facade_api_ErrRange), ("facade/api.ErrMany", laid_facade_api_ErrMany), ("facade/api.ErrOp", laid_facade_api_ErrOp), ("facade/api.ErrTwice", laid_facade_api_ErrTwice), ("facade/api.ErrNone", laid_facade_api_ErrNone), ("facade/api.ErrFar", laid_facade_api_ErrFar), ("facade/api.ErrMap", laid_facade_api_ErrMap), ("facade/api.ErrOwner", laid_facade_api_ErrOwner), ("facade/api.ErrType", laid_facade_api_ErrType), ("facade/api.ErrBusy", laid_facade_api_ErrBusy), ("facade/api.ErrFull", laid_facade_api_ErrFull), ("facade/api.ErrState", laid_facade_api_ErrState), ("facade/api.ErrWord", laid_facade_api_ErrWord), ("facade/api.ErrNumber", laid_facade_api_ErrNumber)] }
def ObjBentSaid : Prop := objBentRow.holds Tryd.pinned (OpenSpec.ofChange objBentSpec)

/-- ITS FALSE NEIGHBOUR: 'it returns false'. Refute it at one input. -/
def objBentWrong : ChangeSpec := { name := "objBent", fn := fun _ => fun
  | [d1, d2, d3] => { results := [.lit (.bool false)], args := [d1, d2, d3] }
  | _ => none }
def ObjBentWrongFalsely : Prop := objBentRow.holds Tryd.pinned (OpenSpec.ofChange objBentWrong)

/-- 'facadelaw9.ObjLimits': WHATEVER THE INPUT: true; the input reads as it did. -/
def objLimitsSpec : ChangeSpec := { name := "objLimits", fn := fun _ => fun
  | [d1, d2] => { results := [.lit (.bool true)], args := [d1, d2] }
  | _ => none }
def objLimitsRow : OpenClaim := { program := "ytbdfibaljoedpaadoor", sum := "0b659246090fe1e69e90852ca3855fde25ac2900e1da94be32602c421257ba60", func := "facade/facadelaw9.ObjLimits", spec := "objLimits", unfollowed := true, recurses := true, named := ["facade/api.ErrMany", "facade/api.ErrMap", "facade/api.ErrOp", "facade/api.ErrRange", "facade/api.ErrTwice", "facade/api.ErrShape", "facade/api.ErrNone", "internal/strconv.uint64pow10", "math/bits.deBruijn32tab", "math/bits.deBruijn64tab", "facade/api.ErrEnd", "facade/api.ErrFar", "facade/api.ErrOwner", "facade/api.ErrType", "facade/api.ErrBusy", "facade/api.ErrFull", "facade/api.ErrState", "facade/api.ErrWord", "facade/api.ErrNumber"], apart := false, laid := [("math/bits.deBruijn32tab", laid_math_bits_deBruijn32tab), ("math/bits.deBruijn64tab", laid_math_bits_deBruijn64tab), ("internal/strconv.uint64pow10", laid_internal_strconv_uint64pow10), ("facade/api.ErrEnd", laid_facade_api_ErrEnd), ("facade/api.ErrShape", laid_facade_api_ErrShape), ("facade/api.ErrRange", laid_facade_api_ErrRange), ("facade/api.ErrMany", laid_facade_api_ErrMany), ("facade/api.ErrOp", laid_facade_api_ErrOp), ("facade/api.ErrTwice", laid_facade_api_ErrTwice), ("facade/api.ErrNone", laid_facade_api_ErrNone), ("facade/api.ErrFar", laid_facade_api_ErrFar), ("facade/api.ErrMap", laid_facade_api_ErrMap), ("facade/api.ErrOwner", laid_facade_api_ErrOwner), ("facade/api.ErrType", laid_facade_api_ErrType), ("facade/api.ErrBusy", laid_facade_api_ErrBusy), ("facade/api.ErrFull", laid_facade_api_ErrFull), ("facade/api.ErrState", laid_facade_api_ErrState), ("facade/api.ErrWord", laid_facade_api_ErrWord), ("facade/api.ErrNumber", laid_facade_api_ErrNumber)] }
def ObjLimitsSaid : Prop := objLimitsRow.holds Tryd.pinned (OpenSpec.ofChange objLimitsSpec)

/-- ITS FALSE NEIGHBOUR: 'it returns false'. Refute it at one input. -/
def objLimitsWrong : ChangeSpec := { name := "objLimits", fn := fun _ => fun
  | [d1, d2] => { results := [.lit (.bool false)], args := [d1, d2] }
  | _ => none }
def ObjLimitsWrongFalsely : Prop := objLimitsRow.holds Tryd.pinned (OpenSpec.ofChange objLimitsWrong)

/-- 'facadelaw10.SiteSays': WHATEVER THE INPUT: true; the input reads as it did. -/
def siteSaysSpec : ChangeSpec := { name := "siteSays", fn := fun _ => fun
  | [d] => { results := [.lit (.bool true)], args := [d] }
  | _ => none }
def siteSaysRow : OpenClaim := { program := "ytbdfibaljoedpaadoor", sum := "0b659246090fe1e69e90852ca3855fde25ac2900e1da94be32602c421257ba60", func := "facade/facadelaw10.SiteSays", spec := "siteSays", unfollowed := true, recurses := true, named := ["facade/api.ErrMany", "facade/api.ErrMap", "facade/api.ErrOp", "facade/api.ErrRange", "facade/api.ErrTwice", "facade/api.ErrShape", "facade/api.ErrNone", "internal/strconv.uint64pow10", "math/bits.deBruijn32tab", "math/bits.deBruijn64tab", "facade/api.ErrEnd", "facade/api.ErrFar", "facade/api.ErrOwner", "facade/api.ErrType", "facade/api.ErrBusy", "facade/api.ErrFull", "facade/api.ErrState", "facade/api.ErrWord", "facade/api.ErrNumber"], apart := false, laid := [("math/bits.deBruijn32tab", laid_math_bits_deBruijn32tab), ("math/bits.deBruijn64tab", laid_math_bits_deBruijn64tab), ("internal/strconv.uint64pow10", laid_internal_strconv_uint64pow10), ("facade/api.ErrEnd", laid_facade_api_ErrEnd), ("facade/api.ErrShape", laid_facade_api_ErrShape), ("facade/api.ErrRange", laid_facade_api_ErrRange), ("facade/api.ErrMany", laid_facade_api_ErrMany), ("facade/api.ErrOp", laid_facade_api_ErrOp), ("facade/api.ErrTwice", laid_facade_api_ErrTwice), ("facade/api.ErrNone", laid_facade_api_ErrNone), ("facade/api.ErrFar", laid_facade_api_ErrFar), ("facade/api.ErrMap", laid_facade_api_ErrMap), ("facade/api.ErrOwner", laid_facade_api_ErrOwner), ("facade/api.ErrType", laid_facade_api_ErrType), ("facade/api.ErrBusy", laid_facade_api_ErrBusy), ("facade/api.ErrFull", laid_facade_api_ErrFull), ("facade/api.ErrState", laid_facade_api_ErrState), ("facade/api.ErrWord", laid_facade_api_ErrWord), ("facade/api.ErrNumber", laid_facade_api_ErrNumber)] }
def SiteSaysSaid : Prop := siteSaysRow.holds Tryd.pinned (OpenSpec.ofChange siteSaysSpec)

/-- ITS FALSE NEIGHBOUR: 'it returns false'. Refute it at one input. -/
def siteSaysWrong : ChangeSpec := { name := "siteSays", fn := fun _ => fun
  | [d] => { results := [.lit (.bool false)], args := [d] }
  | _ => none }
def SiteSaysWrongFalsely : Prop := siteSaysRow.holds Tryd.pinned (OpenSpec.ofChange siteSaysWrong)

/-- 'facadelaw10.SiteEach': WHATEVER THE INPUT: true; the input reads as it did. -/
def siteEachSpec : ChangeSpec := { name := "siteEach", fn := fun _ => fun
  | [d1, d2] => { results := [.lit (.bool true)], args := [d1, d2] }
  | _ => none }
def siteEachRow : OpenClaim := { program := "ytbdfibaljoedpaadoor", sum := "0b659246090fe1e69e90852ca3855fde25ac2900e1da94be32602c421257ba60", func := "facade/facadelaw10.SiteEach", spec := "siteEach", unfollowed := true, recurses := true, named := ["facade/api.ErrMany", "facade/api.ErrMap", "facade/api.ErrOp", "facade/api.ErrRange", "facade/api.ErrTwice", "facade/api.ErrShape", "facade/api.ErrNone", "internal/strconv.uint64pow10", "math/bits.deBruijn32tab", "math/bits.deBruijn64tab"], apart := false, laid := [("math/bits.deBruijn32tab", laid_math_bits_deBruijn32tab), ("math/bits.deBruijn64tab", laid_math_bits_deBruijn64tab), ("internal/strconv.uint64pow10", laid_internal_strconv_uint64pow10), ("facade/api.ErrShape", laid_facade_api_ErrShape), ("facade/api.ErrRange", laid_facade_api_ErrRange), ("facade/api.ErrMany", laid_facade_api_ErrMany), ("facade/api.ErrOp", laid_facade_api_ErrOp), ("facade/api.ErrTwice", laid_facade_api_ErrTwice), ("facade/api.ErrNone", laid_facade_api_ErrNone), ("facade/api.ErrMap", laid_facade_api_ErrMap)] }
def SiteEachSaid : Prop := siteEachRow.holds Tryd.pinned (OpenSpec.ofChange siteEachSpec)

/-- ITS FALSE NEIGHBOUR: 'it returns false'. Refute it at one input. -/
def siteEachWrong : ChangeSpec := { name := "siteEach", fn := fun _ => fun
  | [d1, d2] => { results := [.lit (.bool false)], args := [d1, d2] }
  | _ => none }
def SiteEachWrongFalsely : Prop := siteEachRow.holds Tryd.pinned (OpenSpec.ofChange siteEachWrong)

/- THE SECOND FORM. 'bulk': how many values and letters a reading holds, each counted each time it is reached (what is shared counts as often as it is met; a slice's spare places count too). A statement '..UptoSaid' is the law's where the arguments, and the package variables that the reading takes, are together of bulk at most 1048576: NARROWER than '..Said'. Prove '..Said' where nothing that the law and all that it calls make is longer than what came in: it says more and counts as full. Else prove '..UptoSaid'. A law counts once. -/
mutual
def uptoBulk {H : Type} : DataW H → Nat
  | .lit (.string bytes) => bytes.length + 1
  | .lit _ => 1
  | .nil => 1
  | .ptr d => uptoBulk d + 1
  | .slice elems spare => uptoBulkAll elems + uptoBulkAll spare + 1
  | .agg parts => uptoBulkAll parts + 1
  | .iface _ d => uptoBulk d + 1
  | .map entries => uptoBulkEntries entries + 1
  | .held _ => 1
def uptoBulkAll {H : Type} : List (DataW H) → Nat
  | [] => 0
  | d :: r => uptoBulk d + uptoBulkAll r
def uptoBulkEntries {H : Type} : List (Lit × DataW H) → Nat
  | [] => 0
  | x :: r => uptoBulkEntry x + uptoBulkEntries r
def uptoBulkEntry {H : Type} : Lit × DataW H → Nat
  | (.string bytes, d) => bytes.length + uptoBulk d + 1
  | (_, d) => uptoBulk d + 1
 end
def uptoSmall : (H : Type) → List (DataW H) → Bool := fun _ ds => decide (uptoBulkAll ds ≤ 1048576)
def OpenSpec.upto (s : _root_.Go.ChangeSpec) : _root_.Go.OpenSpec := { _root_.Go.OpenSpec.ofChange s with cond := some uptoSmall }

/-- 'facadelaw10.SiteFinds', WHERE WHAT IT READS IS OF BULK AT MOST 1048576: true; the input reads as it did. -/
def siteFindsUptoRow : OpenClaim := { program := "ytbdfibaljoedpaadoor", sum := "0b659246090fe1e69e90852ca3855fde25ac2900e1da94be32602c421257ba60", func := "facade/facadelaw10.SiteFinds", spec := "siteFinds", unfollowed := true, recurses := true, named := ["facade/api.ErrMany", "facade/api.ErrMap", "facade/api.ErrOp", "facade/api.ErrRange", "facade/api.ErrTwice", "facade/api.ErrShape", "facade/api.ErrNone"], apart := false, laid := [("facade/api.ErrShape", laid_facade_api_ErrShape), ("facade/api.ErrRange", laid_facade_api_ErrRange), ("facade/api.ErrMany", laid_facade_api_ErrMany), ("facade/api.ErrOp", laid_facade_api_ErrOp), ("facade/api.ErrTwice", laid_facade_api_ErrTwice), ("facade/api.ErrNone", laid_facade_api_ErrNone), ("facade/api.ErrMap", laid_facade_api_ErrMap)], narrowed := true }
def SiteFindsUptoSaid : Prop := siteFindsUptoRow.holds Tryd.pinned (OpenSpec.upto siteFindsSpec)

/-- 'facadelaw9.ObjWrong', WHERE WHAT IT READS IS OF BULK AT MOST 1048576: true; the input reads as it did. -/
def objWrongUptoRow : OpenClaim := { program := "ytbdfibaljoedpaadoor", sum := "0b659246090fe1e69e90852ca3855fde25ac2900e1da94be32602c421257ba60", func := "facade/facadelaw9.ObjWrong", spec := "objWrong", unfollowed := true, recurses := true, named := ["facade/api.ErrMany", "facade/api.ErrMap", "facade/api.ErrOp", "facade/api.ErrRange", "facade/api.ErrTwice", "facade/api.ErrShape", "facade/api.ErrNone", "facade/api.ErrEnd", "facade/api.ErrFar", "facade/api.ErrOwner", "facade/api.ErrType", "facade/api.ErrBusy", "facade/api.ErrFull", "facade/api.ErrState", "facade/api.ErrWord", "facade/api.ErrNumber"], apart := false, laid := [("facade/api.ErrEnd", laid_facade_api_ErrEnd), ("facade/api.ErrShape", laid_facade_api_ErrShape), ("facade/api.ErrRange", laid_facade_api_ErrRange), ("facade/api.ErrMany", laid_facade_api_ErrMany), ("facade/api.ErrOp", laid_facade_api_ErrOp), ("facade/api.ErrTwice", laid_facade_api_ErrTwice), ("facade/api.ErrNone", laid_facade_api_ErrNone), ("facade/api.ErrFar", laid_facade_api_ErrFar), ("facade/api.ErrMap", laid_facade_api_ErrMap), ("facade/api.ErrOwner", laid_facade_api_ErrOwner), ("facade/api.ErrType", laid_facade_api_ErrType), ("facade/api.ErrBusy", laid_facade_api_ErrBusy), ("facade/api.ErrFull", laid_facade_api_ErrFull), ("facade/api.ErrState", laid_facade_api_ErrState), ("facade/api.ErrWord", laid_facade_api_ErrWord), ("facade/api.ErrNumber", laid_facade_api_ErrNumber)], narrowed := true }
def ObjWrongUptoSaid : Prop := objWrongUptoRow.holds Tryd.pinned (OpenSpec.upto objWrongSpec)

/-- 'facadelaw9.ObjOwn', WHERE WHAT IT READS IS OF BULK AT MOST 1048576: true; the input reads as it did. -/
def objOwnUptoRow : OpenClaim := { program := "ytbdfibaljoedpaadoor", sum := "0b659246090fe1e69e90852ca3855fde25ac2900e1da94be32602c421257ba60", func := "facade/facadelaw9.ObjOwn", spec := "objOwn", unfollowed := true, recurses := true, named := ["facade/api.ErrMany", "facade/api.ErrMap", "facade/api.ErrOp", "facade/api.ErrRange", "facade/api.ErrTwice", "facade/api.ErrShape", "facade/api.ErrNone"], apart := false, laid := [("facade/api.ErrShape", laid_facade_api_ErrShape), ("facade/api.ErrRange", laid_facade_api_ErrRange), ("facade/api.ErrMany", laid_facade_api_ErrMany), ("facade/api.ErrOp", laid_facade_api_ErrOp), ("facade/api.ErrTwice", laid_facade_api_ErrTwice), ("facade/api.ErrNone", laid_facade_api_ErrNone), ("facade/api.ErrMap", laid_facade_api_ErrMap)], narrowed := true }
def ObjOwnUptoSaid : Prop := objOwnUptoRow.holds Tryd.pinned (OpenSpec.upto objOwnSpec)

/-- 'facadelaw11.RewriteLong', WHERE WHAT IT READS IS OF BULK AT MOST 1048576: true; the input reads as it did. -/
def rewriteLongUptoRow : OpenClaim := { program := "ytbdfibaljoedpaadoor", sum := "0b659246090fe1e69e90852ca3855fde25ac2900e1da94be32602c421257ba60", func := "facade/facadelaw11.RewriteLong", spec := "rewriteLong", unfollowed := true, recurses := true, named := ["facade/api.ErrMany", "facade/api.ErrMap", "facade/api.ErrOp", "facade/api.ErrRange", "facade/api.ErrTwice", "facade/api.ErrShape", "facade/api.ErrNone", "facade/api.ErrEnd", "facade/api.ErrFar", "facade/api.ErrOwner", "facade/api.ErrType", "facade/api.ErrBusy", "facade/api.ErrFull", "facade/api.ErrState", "facade/api.ErrWord", "facade/api.ErrNumber"], apart := false, laid := [("facade/api.ErrEnd", laid_facade_api_ErrEnd), ("facade/api.ErrShape", laid_facade_api_ErrShape), ("facade/api.ErrRange", laid_facade_api_ErrRange), ("facade/api.ErrMany", laid_facade_api_ErrMany), ("facade/api.ErrOp", laid_facade_api_ErrOp), ("facade/api.ErrTwice", laid_facade_api_ErrTwice), ("facade/api.ErrNone", laid_facade_api_ErrNone), ("facade/api.ErrFar", laid_facade_api_ErrFar), ("facade/api.ErrMap", laid_facade_api_ErrMap), ("facade/api.ErrOwner", laid_facade_api_ErrOwner), ("facade/api.ErrType", laid_facade_api_ErrType), ("facade/api.ErrBusy", laid_facade_api_ErrBusy), ("facade/api.ErrFull", laid_facade_api_ErrFull), ("facade/api.ErrState", laid_facade_api_ErrState), ("facade/api.ErrWord", laid_facade_api_ErrWord), ("facade/api.ErrNumber", laid_facade_api_ErrNumber)], narrowed := true }
def RewriteLongUptoSaid : Prop := rewriteLongUptoRow.holds Tryd.pinned (OpenSpec.upto rewriteLongSpec)

/-- 'facadelaw11.RewriteKeeps', WHERE WHAT IT READS IS OF BULK AT MOST 1048576: true; the input reads as it did. -/
def rewriteKeepsUptoRow : OpenClaim := { program := "ytbdfibaljoedpaadoor", sum := "0b659246090fe1e69e90852ca3855fde25ac2900e1da94be32602c421257ba60", func := "facade/facadelaw11.RewriteKeeps", spec := "rewriteKeeps", unfollowed := true, recurses := true, named := ["facade/api.ErrMany", "facade/api.ErrMap", "facade/api.ErrOp", "facade/api.ErrRange", "facade/api.ErrTwice", "facade/api.ErrShape", "facade/api.ErrNone"], apart := false, laid := [("facade/api.ErrShape", laid_facade_api_ErrShape), ("facade/api.ErrRange", laid_facade_api_ErrRange), ("facade/api.ErrMany", laid_facade_api_ErrMany), ("facade/api.ErrOp", laid_facade_api_ErrOp), ("facade/api.ErrTwice", laid_facade_api_ErrTwice), ("facade/api.ErrNone", laid_facade_api_ErrNone), ("facade/api.ErrMap", laid_facade_api_ErrMap)], narrowed := true }
def RewriteKeepsUptoSaid : Prop := rewriteKeepsUptoRow.holds Tryd.pinned (OpenSpec.upto rewriteKeepsSpec)

/-- 'facadelaw11.RewriteMarks', WHERE WHAT IT READS IS OF BULK AT MOST 1048576: true; the input reads as it did. -/
def rewriteMarksUptoRow : OpenClaim := { program := "ytbdfibaljoedpaadoor", sum := "0b659246090fe1e69e90852ca3855fde25ac2900e1da94be32602c421257ba60", func := "facade/facadelaw11.RewriteMarks", spec := "rewriteMarks", unfollowed := true, recurses := true, named := ["facade/api.ErrMany", "facade/api.ErrMap", "facade/api.ErrOp", "facade/api.ErrRange", "facade/api.ErrTwice", "facade/api.ErrShape", "facade/api.ErrNone"], apart := false, laid := [("facade/api.ErrShape", laid_facade_api_ErrShape), ("facade/api.ErrRange", laid_facade_api_ErrRange), ("facade/api.ErrMany", laid_facade_api_ErrMany), ("facade/api.ErrOp", laid_facade_api_ErrOp), ("facade/api.ErrTwice", laid_facade_api_ErrTwice), ("facade/api.ErrNone", laid_facade_api_ErrNone), ("facade/api.ErrMap", laid_facade_api_ErrMap)], narrowed := true }
def RewriteMarksUptoSaid : Prop := rewriteMarksUptoRow.holds Tryd.pinned (OpenSpec.upto rewriteMarksSpec)

/-- 'facadelaw11.RewriteOnce', WHERE WHAT IT READS IS OF BULK AT MOST 1048576: true; the input reads as it did. -/
def rewriteOnceUptoRow : OpenClaim := { program := "ytbdfibaljoedpaadoor", sum := "0b659246090fe1e69e90852ca3855fde25ac2900e1da94be32602c421257ba60", func := "facade/facadelaw11.RewriteOnce", spec := "rewriteOnce", unfollowed := true, recurses := true, named := ["facade/api.ErrMany", "facade/api.ErrMap", "facade/api.ErrOp", "facade/api.ErrRange", "facade/api.ErrTwice", "facade/api.ErrShape", "facade/api.ErrNone", "facade/api.ErrEnd", "facade/api.ErrFar", "facade/api.ErrOwner", "facade/api.ErrType", "facade/api.ErrBusy", "facade/api.ErrFull", "facade/api.ErrState", "facade/api.ErrWord", "facade/api.ErrNumber"], apart := false, laid := [("facade/api.ErrEnd", laid_facade_api_ErrEnd), ("facade/api.ErrShape", laid_facade_api_ErrShape), ("facade/api.ErrRange", laid_facade_api_ErrRange), ("facade/api.ErrMany", laid_facade_api_ErrMany), ("facade/api.ErrOp", laid_facade_api_ErrOp), ("facade/api.ErrTwice", laid_facade_api_ErrTwice), ("facade/api.ErrNone", laid_facade_api_ErrNone), ("facade/api.ErrFar", laid_facade_api_ErrFar), ("facade/api.ErrMap", laid_facade_api_ErrMap), ("facade/api.ErrOwner", laid_facade_api_ErrOwner), ("facade/api.ErrType", laid_facade_api_ErrType), ("facade/api.ErrBusy", laid_facade_api_ErrBusy), ("facade/api.ErrFull", laid_facade_api_ErrFull), ("facade/api.ErrState", laid_facade_api_ErrState), ("facade/api.ErrWord", laid_facade_api_ErrWord), ("facade/api.ErrNumber", laid_facade_api_ErrNumber)], narrowed := true }
def RewriteOnceUptoSaid : Prop := rewriteOnceUptoRow.holds Tryd.pinned (OpenSpec.upto rewriteOnceSpec)

/-- 'facadelaw11.RewriteSays', WHERE WHAT IT READS IS OF BULK AT MOST 1048576: true; the input reads as it did. -/
def rewriteSaysUptoRow : OpenClaim := { program := "ytbdfibaljoedpaadoor", sum := "0b659246090fe1e69e90852ca3855fde25ac2900e1da94be32602c421257ba60", func := "facade/facadelaw11.RewriteSays", spec := "rewriteSays", unfollowed := true, recurses := true, named := ["facade/api.ErrMany", "facade/api.ErrMap", "facade/api.ErrOp", "facade/api.ErrRange", "facade/api.ErrTwice", "facade/api.ErrShape", "facade/api.ErrNone", "facade/api.ErrEnd", "facade/api.ErrFar", "facade/api.ErrOwner", "facade/api.ErrType", "facade/api.ErrBusy", "facade/api.ErrFull", "facade/api.ErrState", "facade/api.ErrWord", "facade/api.ErrNumber"], apart := false, laid := [("facade/api.ErrEnd", laid_facade_api_ErrEnd), ("facade/api.ErrShape", laid_facade_api_ErrShape), ("facade/api.ErrRange", laid_facade_api_ErrRange), ("facade/api.ErrMany", laid_facade_api_ErrMany), ("facade/api.ErrOp", laid_facade_api_ErrOp), ("facade/api.ErrTwice", laid_facade_api_ErrTwice), ("facade/api.ErrNone", laid_facade_api_ErrNone), ("facade/api.ErrFar", laid_facade_api_ErrFar), ("facade/api.ErrMap", laid_facade_api_ErrMap), ("facade/api.ErrOwner", laid_facade_api_ErrOwner), ("facade/api.ErrType", laid_facade_api_ErrType), ("facade/api.ErrBusy", laid_facade_api_ErrBusy), ("facade/api.ErrFull", laid_facade_api_ErrFull), ("facade/api.ErrState", laid_facade_api_ErrState), ("facade/api.ErrWord", laid_facade_api_ErrWord), ("facade/api.ErrNumber", laid_facade_api_ErrNumber)], narrowed := true }
def RewriteSaysUptoSaid : Prop := rewriteSaysUptoRow.holds Tryd.pinned (OpenSpec.upto rewriteSaysSpec)

/-- 'facadelaw9.ObjBack', WHERE WHAT IT READS IS OF BULK AT MOST 1048576: true; the input reads as it did. -/
def objBackUptoRow : OpenClaim := { program := "ytbdfibaljoedpaadoor", sum := "0b659246090fe1e69e90852ca3855fde25ac2900e1da94be32602c421257ba60", func := "facade/facadelaw9.ObjBack", spec := "objBack", unfollowed := true, recurses := true, named := ["facade/api.ErrMany", "facade/api.ErrMap", "facade/api.ErrOp", "facade/api.ErrRange", "facade/api.ErrTwice", "facade/api.ErrShape", "facade/api.ErrNone", "facade/api.ErrEnd", "facade/api.ErrFar", "facade/api.ErrOwner", "facade/api.ErrType", "facade/api.ErrBusy", "facade/api.ErrFull", "facade/api.ErrState", "facade/api.ErrWord", "facade/api.ErrNumber"], apart := false, laid := [("facade/api.ErrEnd", laid_facade_api_ErrEnd), ("facade/api.ErrShape", laid_facade_api_ErrShape), ("facade/api.ErrRange", laid_facade_api_ErrRange), ("facade/api.ErrMany", laid_facade_api_ErrMany), ("facade/api.ErrOp", laid_facade_api_ErrOp), ("facade/api.ErrTwice", laid_facade_api_ErrTwice), ("facade/api.ErrNone", laid_facade_api_ErrNone), ("facade/api.ErrFar", laid_facade_api_ErrFar), ("facade/api.ErrMap", laid_facade_api_ErrMap), ("facade/api.ErrOwner", laid_facade_api_ErrOwner), ("facade/api.ErrType", laid_facade_api_ErrType), ("facade/api.ErrBusy", laid_facade_api_ErrBusy), ("facade/api.ErrFull", laid_facade_api_ErrFull), ("facade/api.ErrState", laid_facade_api_ErrState), ("facade/api.ErrWord", laid_facade_api_ErrWord), ("facade/api.ErrNumber", laid_facade_api_ErrNumber)], narrowed := true }
def ObjBackUptoSaid : Prop := objBackUptoRow.holds Tryd.pinned (OpenSpec.upto objBackSpec)

/-- 'facadelaw9.ObjBent', WHERE WHAT IT READS IS OF BULK AT MOST 1048576: true; the input reads as it did. -/
def objBentUptoRow : OpenClaim := { program := "ytbdfibaljoedpaadoor", sum := "0b659246090fe1e69e90852ca3855fde25ac2900e1da94be32602c421257ba60", func := "facade/facadelaw9.ObjBent", spec := "objBent", unfollowed := true, recurses := true, named := ["facade/api.ErrMany", "facade/api.ErrMap", "facade/api.ErrOp", "facade/api.ErrRange", "facade/api.ErrTwice", "facade/api.ErrShape", "facade/api.ErrNone", "facade/api.ErrEnd", "facade/api.ErrFar", "facade/api.ErrOwner", "facade/api.ErrType", "facade/api.ErrBusy", "facade/api.ErrFull", "facade/api.ErrState", "facade/api.ErrWord", "facade/api.ErrNumber"], apart := false, laid := [("facade/api.ErrEnd", laid_facade_api_ErrEnd), ("facade/api.ErrShape", laid_facade_api_ErrShape), ("facade/api.ErrRange", laid_facade_api_ErrRange), ("facade/api.ErrMany", laid_facade_api_ErrMany), ("facade/api.ErrOp", laid_facade_api_ErrOp), ("facade/api.ErrTwice", laid_facade_api_ErrTwice), ("facade/api.ErrNone", laid_facade_api_ErrNone), ("facade/api.ErrFar", laid_facade_api_ErrFar), ("facade/api.ErrMap", laid_facade_api_ErrMap), ("facade/api.ErrOwner", laid_facade_api_ErrOwner), ("facade/api.ErrType", laid_facade_api_ErrType), ("facade/api.ErrBusy", laid_facade_api_ErrBusy), ("facade/api.ErrFull", laid_facade_api_ErrFull), ("facade/api.ErrState", laid_facade_api_ErrState), ("facade/api.ErrWord", laid_facade_api_ErrWord), ("facade/api.ErrNumber", laid_facade_api_ErrNumber)], narrowed := true }
def ObjBentUptoSaid : Prop := objBentUptoRow.holds Tryd.pinned (OpenSpec.upto objBentSpec)

/-- 'facadelaw9.ObjLimits', WHERE WHAT IT READS IS OF BULK AT MOST 1048576: true; the input reads as it did. -/
def objLimitsUptoRow : OpenClaim := { program := "ytbdfibaljoedpaadoor", sum := "0b659246090fe1e69e90852ca3855fde25ac2900e1da94be32602c421257ba60", func := "facade/facadelaw9.ObjLimits", spec := "objLimits", unfollowed := true, recurses := true, named := ["facade/api.ErrMany", "facade/api.ErrMap", "facade/api.ErrOp", "facade/api.ErrRange", "facade/api.ErrTwice", "facade/api.ErrShape", "facade/api.ErrNone", "internal/strconv.uint64pow10", "math/bits.deBruijn32tab", "math/bits.deBruijn64tab", "facade/api.ErrEnd", "facade/api.ErrFar", "facade/api.ErrOwner", "facade/api.ErrType", "facade/api.ErrBusy", "facade/api.ErrFull", "facade/api.ErrState", "facade/api.ErrWord", "facade/api.ErrNumber"], apart := false, laid := [("math/bits.deBruijn32tab", laid_math_bits_deBruijn32tab), ("math/bits.deBruijn64tab", laid_math_bits_deBruijn64tab), ("internal/strconv.uint64pow10", laid_internal_strconv_uint64pow10), ("facade/api.ErrEnd", laid_facade_api_ErrEnd), ("facade/api.ErrShape", laid_facade_api_ErrShape), ("facade/api.ErrRange", laid_facade_api_ErrRange), ("facade/api.ErrMany", laid_facade_api_ErrMany), ("facade/api.ErrOp", laid_facade_api_ErrOp), ("facade/api.ErrTwice", laid_facade_api_ErrTwice), ("facade/api.ErrNone", laid_facade_api_ErrNone), ("facade/api.ErrFar", laid_facade_api_ErrFar), ("facade/api.ErrMap", laid_facade_api_ErrMap), ("facade/api.ErrOwner", laid_facade_api_ErrOwner), ("facade/api.ErrType", laid_facade_api_ErrType), ("facade/api.ErrBusy", laid_facade_api_ErrBusy), ("facade/api.ErrFull", laid_facade_api_ErrFull), ("facade/api.ErrState", laid_facade_api_ErrState), ("facade/api.ErrWord", laid_facade_api_ErrWord), ("facade/api.ErrNumber", laid_facade_api_ErrNumber)], narrowed := true }
def ObjLimitsUptoSaid : Prop := objLimitsUptoRow.holds Tryd.pinned (OpenSpec.upto objLimitsSpec)

/-- 'facadelaw10.SiteSays', WHERE WHAT IT READS IS OF BULK AT MOST 1048576: true; the input reads as it did. -/
def siteSaysUptoRow : OpenClaim := { program := "ytbdfibaljoedpaadoor", sum := "0b659246090fe1e69e90852ca3855fde25ac2900e1da94be32602c421257ba60", func := "facade/facadelaw10.SiteSays", spec := "siteSays", unfollowed := true, recurses := true, named := ["facade/api.ErrMany", "facade/api.ErrMap", "facade/api.ErrOp", "facade/api.ErrRange", "facade/api.ErrTwice", "facade/api.ErrShape", "facade/api.ErrNone", "internal/strconv.uint64pow10", "math/bits.deBruijn32tab", "math/bits.deBruijn64tab", "facade/api.ErrEnd", "facade/api.ErrFar", "facade/api.ErrOwner", "facade/api.ErrType", "facade/api.ErrBusy", "facade/api.ErrFull", "facade/api.ErrState", "facade/api.ErrWord", "facade/api.ErrNumber"], apart := false, laid := [("math/bits.deBruijn32tab", laid_math_bits_deBruijn32tab), ("math/bits.deBruijn64tab", laid_math_bits_deBruijn64tab), ("internal/strconv.uint64pow10", laid_internal_strconv_uint64pow10), ("facade/api.ErrEnd", laid_facade_api_ErrEnd), ("facade/api.ErrShape", laid_facade_api_ErrShape), ("facade/api.ErrRange", laid_facade_api_ErrRange), ("facade/api.ErrMany", laid_facade_api_ErrMany), ("facade/api.ErrOp", laid_facade_api_ErrOp), ("facade/api.ErrTwice", laid_facade_api_ErrTwice), ("facade/api.ErrNone", laid_facade_api_ErrNone), ("facade/api.ErrFar", laid_facade_api_ErrFar), ("facade/api.ErrMap", laid_facade_api_ErrMap), ("facade/api.ErrOwner", laid_facade_api_ErrOwner), ("facade/api.ErrType", laid_facade_api_ErrType), ("facade/api.ErrBusy", laid_facade_api_ErrBusy), ("facade/api.ErrFull", laid_facade_api_ErrFull), ("facade/api.ErrState", laid_facade_api_ErrState), ("facade/api.ErrWord", laid_facade_api_ErrWord), ("facade/api.ErrNumber", laid_facade_api_ErrNumber)], narrowed := true }
def SiteSaysUptoSaid : Prop := siteSaysUptoRow.holds Tryd.pinned (OpenSpec.upto siteSaysSpec)

/-- 'facadelaw10.SiteEach', WHERE WHAT IT READS IS OF BULK AT MOST 1048576: true; the input reads as it did. -/
def siteEachUptoRow : OpenClaim := { program := "ytbdfibaljoedpaadoor", sum := "0b659246090fe1e69e90852ca3855fde25ac2900e1da94be32602c421257ba60", func := "facade/facadelaw10.SiteEach", spec := "siteEach", unfollowed := true, recurses := true, named := ["facade/api.ErrMany", "facade/api.ErrMap", "facade/api.ErrOp", "facade/api.ErrRange", "facade/api.ErrTwice", "facade/api.ErrShape", "facade/api.ErrNone", "internal/strconv.uint64pow10", "math/bits.deBruijn32tab", "math/bits.deBruijn64tab"], apart := false, laid := [("math/bits.deBruijn32tab", laid_math_bits_deBruijn32tab), ("math/bits.deBruijn64tab", laid_math_bits_deBruijn64tab), ("internal/strconv.uint64pow10", laid_internal_strconv_uint64pow10), ("facade/api.ErrShape", laid_facade_api_ErrShape), ("facade/api.ErrRange", laid_facade_api_ErrRange), ("facade/api.ErrMany", laid_facade_api_ErrMany), ("facade/api.ErrOp", laid_facade_api_ErrOp), ("facade/api.ErrTwice", laid_facade_api_ErrTwice), ("facade/api.ErrNone", laid_facade_api_ErrNone), ("facade/api.ErrMap", laid_facade_api_ErrMap)], narrowed := true }
def SiteEachUptoSaid : Prop := siteEachUptoRow.holds Tryd.pinned (OpenSpec.upto siteEachSpec)

end Rows
end Go.Proofs.YtbdfibaljoedpaaDoor
