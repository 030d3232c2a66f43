/-
  NARROWER THAN 'FOR EVERY INPUT', by the rows' own cells (each row's printed sentence says how): CoreFetch: laid · CoreUser: laid · CoreJumps: laid · CoreWords: laid · CoreSays: laid · CoreRuns: laid.
  DERIVED. THE GIVEN ROWS OF THIS SEAT. 6 by the template 'for every input the law returns true; each argument reads behind the call as it read before'; 0 by the template 'total and deterministic' (their statements: YtfbagpbncfapbaaDoorTotals.lean).
  GIVEN WITH THE SEED: the statements are not yours to turn. If you find one false, say at which input.
  Laid BY PROGRAM, IN A SANDBOX (cutbox-rows.mjs): the forced cells as the released guide's own fill.sh prints them over the translation 574c8a6eb18e3c30… (all of the seat's roots in one cut). By AI agents, Wed Nov 11 2026. No macro, syntax, notation, axiom, sorry.
-/
import Derived.Test.YtfbagpbncfapbaaDoorChecked
import GoSem.Claim
import GoSem.ClaimJoined
import GoSem.ClaimMapViews
import Derived.JoinedTies
import Derived.KernelRfl
namespace Go.Proofs.YtfbagpbncfapbaaDoor
/- THE CELL 'sum', in the pinned program and in every row, IS THE sha256 OF THE DUMP (.gsa) THAT YtfbagpbncfapbaaDoorProg.lean LOADS. Nothing in Lean hashes anything: it is a label: what it is worth is what the hold of that sum in a sandbox is worth. -/
noncomputable def Tryd.pinned : Pinned := { name := "ytfbagpbncfapbaadoor", sum := "574c8a6eb18e3c305d6867d69678710a1a1a5d1b5dc775e0ef95484c2900d106", checked := Tryd.checked }
namespace Rows
def none {H : Type} : Left H := { results := [], args := [] }

/- WHAT THE LISTED PACKAGE-LEVEL VARIABLES READ AS WHEN THE CALL BEGINS. Each datum BY PROGRAM (the guide's laid-datum.mjs) off the statement by which the dump's own 'gosem.cut.vars' lays the variable. In a bare row this is a premise. The card (YtfbagpbncfapbaaDoorCards.lean) ties it to the program's text. -/
def laid_facade_api_ErrRange {H : Type} : DataW H := .iface "*errors.errorString" (.ptr (.agg [.lit (.string [97, 32, 110, 117, 109, 98, 101, 114, 32, 111, 117, 116, 32, 111, 102, 32, 105, 116, 115, 32, 114, 97, 110, 103, 101])]))

/-- 'facadelaw7.CoreFetch': WHATEVER THE INPUT: true; the input reads as it did. -/
def coreFetchSpec : ChangeSpec := { name := "coreFetch", fn := fun _ => fun
  | [d1, d2] => { results := [.lit (.bool true)], args := [d1, d2] }
  | _ => none }
def coreFetchRow : OpenClaim := { program := "ytfbagpbncfapbaadoor", sum := "574c8a6eb18e3c305d6867d69678710a1a1a5d1b5dc775e0ef95484c2900d106", func := "facade/facadelaw7.CoreFetch", spec := "coreFetch", unfollowed := true, recurses := true, named := ["facade/api.ErrRange"], apart := false, laid := [("facade/api.ErrRange", laid_facade_api_ErrRange)] }
def CoreFetchSaid : Prop := coreFetchRow.holds Tryd.pinned (OpenSpec.ofChange coreFetchSpec)

/-- ITS FALSE NEIGHBOUR: 'it returns false'. Refute it at one input. -/
def coreFetchWrong : ChangeSpec := { name := "coreFetch", fn := fun _ => fun
  | [d1, d2] => { results := [.lit (.bool false)], args := [d1, d2] }
  | _ => none }
def CoreFetchWrongFalsely : Prop := coreFetchRow.holds Tryd.pinned (OpenSpec.ofChange coreFetchWrong)

/-- 'facadelaw7.CoreUser': WHATEVER THE INPUT: true; the input reads as it did. -/
def coreUserSpec : ChangeSpec := { name := "coreUser", fn := fun _ => fun
  | [d1, d2] => { results := [.lit (.bool true)], args := [d1, d2] }
  | _ => none }
def coreUserRow : OpenClaim := { program := "ytfbagpbncfapbaadoor", sum := "574c8a6eb18e3c305d6867d69678710a1a1a5d1b5dc775e0ef95484c2900d106", func := "facade/facadelaw7.CoreUser", spec := "coreUser", unfollowed := true, recurses := true, named := ["facade/api.ErrRange"], apart := false, laid := [("facade/api.ErrRange", laid_facade_api_ErrRange)] }
def CoreUserSaid : Prop := coreUserRow.holds Tryd.pinned (OpenSpec.ofChange coreUserSpec)

/-- ITS FALSE NEIGHBOUR: 'it returns false'. Refute it at one input. -/
def coreUserWrong : ChangeSpec := { name := "coreUser", fn := fun _ => fun
  | [d1, d2] => { results := [.lit (.bool false)], args := [d1, d2] }
  | _ => none }
def CoreUserWrongFalsely : Prop := coreUserRow.holds Tryd.pinned (OpenSpec.ofChange coreUserWrong)

/-- 'facadelaw7.CoreJumps': WHATEVER THE INPUT: true; the input reads as it did. -/
def coreJumpsSpec : ChangeSpec := { name := "coreJumps", fn := fun _ => fun
  | [d1, d2, d3] => { results := [.lit (.bool true)], args := [d1, d2, d3] }
  | _ => none }
def coreJumpsRow : OpenClaim := { program := "ytfbagpbncfapbaadoor", sum := "574c8a6eb18e3c305d6867d69678710a1a1a5d1b5dc775e0ef95484c2900d106", func := "facade/facadelaw7.CoreJumps", spec := "coreJumps", unfollowed := true, recurses := true, named := ["facade/api.ErrRange"], apart := false, laid := [("facade/api.ErrRange", laid_facade_api_ErrRange)] }
def CoreJumpsSaid : Prop := coreJumpsRow.holds Tryd.pinned (OpenSpec.ofChange coreJumpsSpec)

/-- ITS FALSE NEIGHBOUR: 'it returns false'. Refute it at one input. -/
def coreJumpsWrong : ChangeSpec := { name := "coreJumps", fn := fun _ => fun
  | [d1, d2, d3] => { results := [.lit (.bool false)], args := [d1, d2, d3] }
  | _ => none }
def CoreJumpsWrongFalsely : Prop := coreJumpsRow.holds Tryd.pinned (OpenSpec.ofChange coreJumpsWrong)

/-- 'facadelaw7.CoreWords': WHATEVER THE INPUT: true; the input reads as it did. -/
def coreWordsSpec : ChangeSpec := { name := "coreWords", fn := fun _ => fun
  | [d1, d2, d3] => { results := [.lit (.bool true)], args := [d1, d2, d3] }
  | _ => none }
def coreWordsRow : OpenClaim := { program := "ytfbagpbncfapbaadoor", sum := "574c8a6eb18e3c305d6867d69678710a1a1a5d1b5dc775e0ef95484c2900d106", func := "facade/facadelaw7.CoreWords", spec := "coreWords", unfollowed := true, recurses := true, named := ["facade/api.ErrRange"], apart := false, laid := [("facade/api.ErrRange", laid_facade_api_ErrRange)] }
def CoreWordsSaid : Prop := coreWordsRow.holds Tryd.pinned (OpenSpec.ofChange coreWordsSpec)

/-- ITS FALSE NEIGHBOUR: 'it returns false'. Refute it at one input. -/
def coreWordsWrong : ChangeSpec := { name := "coreWords", fn := fun _ => fun
  | [d1, d2, d3] => { results := [.lit (.bool false)], args := [d1, d2, d3] }
  | _ => none }
def CoreWordsWrongFalsely : Prop := coreWordsRow.holds Tryd.pinned (OpenSpec.ofChange coreWordsWrong)

/-- 'facadelaw7.CoreSays': WHATEVER THE INPUT: true; the input reads as it did. -/
def coreSaysSpec : ChangeSpec := { name := "coreSays", fn := fun _ => fun
  | [d1, d2, d3, d4, d5, d6, d7] => { results := [.lit (.bool true)], args := [d1, d2, d3, d4, d5, d6, d7] }
  | _ => none }
def coreSaysRow : OpenClaim := { program := "ytfbagpbncfapbaadoor", sum := "574c8a6eb18e3c305d6867d69678710a1a1a5d1b5dc775e0ef95484c2900d106", func := "facade/facadelaw7.CoreSays", spec := "coreSays", unfollowed := true, recurses := true, named := ["facade/api.ErrRange"], apart := false, laid := [("facade/api.ErrRange", laid_facade_api_ErrRange)] }
def CoreSaysSaid : Prop := coreSaysRow.holds Tryd.pinned (OpenSpec.ofChange coreSaysSpec)

/-- ITS FALSE NEIGHBOUR: 'it returns false'. Refute it at one input. -/
def coreSaysWrong : ChangeSpec := { name := "coreSays", fn := fun _ => fun
  | [d1, d2, d3, d4, d5, d6, d7] => { results := [.lit (.bool false)], args := [d1, d2, d3, d4, d5, d6, d7] }
  | _ => none }
def CoreSaysWrongFalsely : Prop := coreSaysRow.holds Tryd.pinned (OpenSpec.ofChange coreSaysWrong)

/-- 'facadelaw7.CoreRuns': WHATEVER THE INPUT: true; the input reads as it did. -/
def coreRunsSpec : ChangeSpec := { name := "coreRuns", fn := fun _ => fun
  | [d1, d2, d3, d4] => { results := [.lit (.bool true)], args := [d1, d2, d3, d4] }
  | _ => none }
def coreRunsRow : OpenClaim := { program := "ytfbagpbncfapbaadoor", sum := "574c8a6eb18e3c305d6867d69678710a1a1a5d1b5dc775e0ef95484c2900d106", func := "facade/facadelaw7.CoreRuns", spec := "coreRuns", unfollowed := true, recurses := true, named := ["facade/api.ErrRange"], apart := false, laid := [("facade/api.ErrRange", laid_facade_api_ErrRange)] }
def CoreRunsSaid : Prop := coreRunsRow.holds Tryd.pinned (OpenSpec.ofChange coreRunsSpec)

/-- ITS FALSE NEIGHBOUR: 'it returns false'. Refute it at one input. -/
def coreRunsWrong : ChangeSpec := { name := "coreRuns", fn := fun _ => fun
  | [d1, d2, d3, d4] => { results := [.lit (.bool false)], args := [d1, d2, d3, d4] }
  | _ => none }
def CoreRunsWrongFalsely : Prop := coreRunsRow.holds Tryd.pinned (OpenSpec.ofChange coreRunsWrong)

/- THE SECOND FORM. 'bulk': how many values and letters a reading holds, each counted each time it is reached (what is shared counts as often as it is met; a slice's spare places count too). A statement '..UptoSaid' is the law's where the arguments, and the package variables that the reading takes, are together of bulk at most 1048576: NARROWER than '..Said'. Prove '..Said' where nothing that the law and all that it calls make is longer than what came in: it says more and counts as full. Else prove '..UptoSaid'. A law counts once. -/
mutual
def uptoBulk {H : Type} : DataW H → Nat
  | .lit (.string bytes) => bytes.length + 1
  | .lit _ => 1
  | .nil => 1
  | .ptr d => uptoBulk d + 1
  | .slice elems spare => uptoBulkAll elems + uptoBulkAll spare + 1
  | .agg parts => uptoBulkAll parts + 1
  | .iface _ d => uptoBulk d + 1
  | .map entries => uptoBulkEntries entries + 1
  | .held _ => 1
def uptoBulkAll {H : Type} : List (DataW H) → Nat
  | [] => 0
  | d :: r => uptoBulk d + uptoBulkAll r
def uptoBulkEntries {H : Type} : List (Lit × DataW H) → Nat
  | [] => 0
  | x :: r => uptoBulkEntry x + uptoBulkEntries r
def uptoBulkEntry {H : Type} : Lit × DataW H → Nat
  | (.string bytes, d) => bytes.length + uptoBulk d + 1
  | (_, d) => uptoBulk d + 1
 end
def uptoSmall : (H : Type) → List (DataW H) → Bool := fun _ ds => decide (uptoBulkAll ds ≤ 1048576)
def OpenSpec.upto (s : _root_.Go.ChangeSpec) : _root_.Go.OpenSpec := { _root_.Go.OpenSpec.ofChange s with cond := some uptoSmall }

/-- 'facadelaw7.CoreFetch', WHERE WHAT IT READS IS OF BULK AT MOST 1048576: true; the input reads as it did. -/
def coreFetchUptoRow : OpenClaim := { program := "ytfbagpbncfapbaadoor", sum := "574c8a6eb18e3c305d6867d69678710a1a1a5d1b5dc775e0ef95484c2900d106", func := "facade/facadelaw7.CoreFetch", spec := "coreFetch", unfollowed := true, recurses := true, named := ["facade/api.ErrRange"], apart := false, laid := [("facade/api.ErrRange", laid_facade_api_ErrRange)], narrowed := true }
def CoreFetchUptoSaid : Prop := coreFetchUptoRow.holds Tryd.pinned (OpenSpec.upto coreFetchSpec)

/-- 'facadelaw7.CoreUser', WHERE WHAT IT READS IS OF BULK AT MOST 1048576: true; the input reads as it did. -/
def coreUserUptoRow : OpenClaim := { program := "ytfbagpbncfapbaadoor", sum := "574c8a6eb18e3c305d6867d69678710a1a1a5d1b5dc775e0ef95484c2900d106", func := "facade/facadelaw7.CoreUser", spec := "coreUser", unfollowed := true, recurses := true, named := ["facade/api.ErrRange"], apart := false, laid := [("facade/api.ErrRange", laid_facade_api_ErrRange)], narrowed := true }
def CoreUserUptoSaid : Prop := coreUserUptoRow.holds Tryd.pinned (OpenSpec.upto coreUserSpec)

/-- 'facadelaw7.CoreJumps', WHERE WHAT IT READS IS OF BULK AT MOST 1048576: true; the input reads as it did. -/
def coreJumpsUptoRow : OpenClaim := { program := "ytfbagpbncfapbaadoor", sum := "574c8a6eb18e3c305d6867d69678710a1a1a5d1b5dc775e0ef95484c2900d106", func := "facade/facadelaw7.CoreJumps", spec := "coreJumps", unfollowed := true, recurses := true, named := ["facade/api.ErrRange"], apart := false, laid := [("facade/api.ErrRange", laid_facade_api_ErrRange)], narrowed := true }
def CoreJumpsUptoSaid : Prop := coreJumpsUptoRow.holds Tryd.pinned (OpenSpec.upto coreJumpsSpec)

/-- 'facadelaw7.CoreWords', WHERE WHAT IT READS IS OF BULK AT MOST 1048576: true; the input reads as it did. -/
def coreWordsUptoRow : OpenClaim := { program := "ytfbagpbncfapbaadoor", sum := "574c8a6eb18e3c305d6867d69678710a1a1a5d1b5dc775e0ef95484c2900d106", func := "facade/facadelaw7.CoreWords", spec := "coreWords", unfollowed := true, recurses := true, named := ["facade/api.ErrRange"], apart := false, laid := [("facade/api.ErrRange", laid_facade_api_ErrRange)], narrowed := true }
def CoreWordsUptoSaid : Prop := coreWordsUptoRow.holds Tryd.pinned (OpenSpec.upto coreWordsSpec)

/-- 'facadelaw7.CoreSays', WHERE WHAT IT READS IS OF BULK AT MOST 1048576: true; the input reads as it did. -/
def coreSaysUptoRow : OpenClaim := { program := "ytfbagpbncfapbaadoor", sum := "574c8a6eb18e3c305d6867d69678710a1a1a5d1b5dc775e0ef95484c2900d106", func := "facade/facadelaw7.CoreSays", spec := "coreSays", unfollowed := true, recurses := true, named := ["facade/api.ErrRange"], apart := false, laid := [("facade/api.ErrRange", laid_facade_api_ErrRange)], narrowed := true }
def CoreSaysUptoSaid : Prop := coreSaysUptoRow.holds Tryd.pinned (OpenSpec.upto coreSaysSpec)

/-- 'facadelaw7.CoreRuns', WHERE WHAT IT READS IS OF BULK AT MOST 1048576: true; the input reads as it did. -/
def coreRunsUptoRow : OpenClaim := { program := "ytfbagpbncfapbaadoor", sum := "574c8a6eb18e3c305d6867d69678710a1a1a5d1b5dc775e0ef95484c2900d106", func := "facade/facadelaw7.CoreRuns", spec := "coreRuns", unfollowed := true, recurses := true, named := ["facade/api.ErrRange"], apart := false, laid := [("facade/api.ErrRange", laid_facade_api_ErrRange)], narrowed := true }
def CoreRunsUptoSaid : Prop := coreRunsUptoRow.holds Tryd.pinned (OpenSpec.upto coreRunsSpec)

end Rows
end Go.Proofs.YtfbagpbncfapbaaDoor
