/-
  NARROWER THAN 'FOR EVERY INPUT', by the rows' own cells (each row's printed sentence says how): BareStatus: laid · BareQueue: laid · BareMaps: laid · BareTraps: laid · BareShows: laid · BareCopies: laid.
  DERIVED. THE GIVEN ROWS OF THIS SEAT. 6 by the template 'for every input the law returns true; each argument reads behind the call as it read before'; 0 by the template 'total and deterministic' (their statements: YtpjccdncokamlaaDoorTotals.lean).
  GIVEN WITH THE SEED: the statements are not yours to turn. If you find one false, say at which input.
  Laid BY PROGRAM, IN A SANDBOX (cutbox-rows.mjs): the forced cells as the released guide's own fill.sh prints them over the translation b798f5a000694ebb… (all of the seat's roots in one cut). By AI agents, Wed Nov 11 2026. No macro, syntax, notation, axiom, sorry.
-/
import Derived.Test.YtpjccdncokamlaaDoorChecked
import GoSem.Claim
import GoSem.ClaimJoined
import GoSem.ClaimMapViews
import Derived.JoinedTies
import Derived.KernelRfl
namespace Go.Proofs.YtpjccdncokamlaaDoor
/- THE CELL 'sum', in the pinned program and in every row, IS THE sha256 OF THE DUMP (.gsa) THAT YtpjccdncokamlaaDoorProg.lean LOADS. Nothing in Lean hashes anything: it is a label: what it is worth is what the hold of that sum in a sandbox is worth. -/
noncomputable def Tryd.pinned : Pinned := { name := "ytpjccdncokamlaadoor", sum := "b798f5a000694ebb9a788e100cbe0765048be742152f83ed22bec96d3bd8ac74", checked := Tryd.checked }
namespace Rows
def none {H : Type} : Left H := { results := [], args := [] }

/- WHAT THE LISTED PACKAGE-LEVEL VARIABLES READ AS WHEN THE CALL BEGINS. Each datum BY PROGRAM (the guide's laid-datum.mjs) off the statement by which the dump's own 'gosem.cut.vars' lays the variable. In a bare row this is a premise. The card (YtpjccdncokamlaaDoorCards.lean) ties it to the program's text. -/
def laid_facade_api_ErrRange {H : Type} : DataW H := .iface "*errors.errorString" (.ptr (.agg [.lit (.string [97, 32, 110, 117, 109, 98, 101, 114, 32, 111, 117, 116, 32, 111, 102, 32, 105, 116, 115, 32, 114, 97, 110, 103, 101])]))

/-- 'facadelaw8.BareStatus': WHATEVER THE INPUT: true; the input reads as it did. -/
def bareStatusSpec : ChangeSpec := { name := "bareStatus", fn := fun _ => fun
  | [d] => { results := [.lit (.bool true)], args := [d] }
  | _ => none }
def bareStatusRow : OpenClaim := { program := "ytpjccdncokamlaadoor", sum := "b798f5a000694ebb9a788e100cbe0765048be742152f83ed22bec96d3bd8ac74", func := "facade/facadelaw8.BareStatus", spec := "bareStatus", unfollowed := true, recurses := true, named := ["facade/api.ErrRange"], apart := false, laid := [("facade/api.ErrRange", laid_facade_api_ErrRange)] }
def BareStatusSaid : Prop := bareStatusRow.holds Tryd.pinned (OpenSpec.ofChange bareStatusSpec)

/-- ITS FALSE NEIGHBOUR: 'it returns false'. Refute it at one input. -/
def bareStatusWrong : ChangeSpec := { name := "bareStatus", fn := fun _ => fun
  | [d] => { results := [.lit (.bool false)], args := [d] }
  | _ => none }
def BareStatusWrongFalsely : Prop := bareStatusRow.holds Tryd.pinned (OpenSpec.ofChange bareStatusWrong)

/-- 'facadelaw8.BareQueue': WHATEVER THE INPUT: true; the input reads as it did. -/
def bareQueueSpec : ChangeSpec := { name := "bareQueue", fn := fun _ => fun
  | [d1, d2] => { results := [.lit (.bool true)], args := [d1, d2] }
  | _ => none }
def bareQueueRow : OpenClaim := { program := "ytpjccdncokamlaadoor", sum := "b798f5a000694ebb9a788e100cbe0765048be742152f83ed22bec96d3bd8ac74", func := "facade/facadelaw8.BareQueue", spec := "bareQueue", unfollowed := true, recurses := true, named := ["facade/api.ErrRange"], apart := false, laid := [("facade/api.ErrRange", laid_facade_api_ErrRange)] }
def BareQueueSaid : Prop := bareQueueRow.holds Tryd.pinned (OpenSpec.ofChange bareQueueSpec)

/-- ITS FALSE NEIGHBOUR: 'it returns false'. Refute it at one input. -/
def bareQueueWrong : ChangeSpec := { name := "bareQueue", fn := fun _ => fun
  | [d1, d2] => { results := [.lit (.bool false)], args := [d1, d2] }
  | _ => none }
def BareQueueWrongFalsely : Prop := bareQueueRow.holds Tryd.pinned (OpenSpec.ofChange bareQueueWrong)

/-- 'facadelaw8.BareMaps': WHATEVER THE INPUT: true; the input reads as it did. -/
def bareMapsSpec : ChangeSpec := { name := "bareMaps", fn := fun _ => fun
  | [d1, d2, d3] => { results := [.lit (.bool true)], args := [d1, d2, d3] }
  | _ => none }
def bareMapsRow : OpenClaim := { program := "ytpjccdncokamlaadoor", sum := "b798f5a000694ebb9a788e100cbe0765048be742152f83ed22bec96d3bd8ac74", func := "facade/facadelaw8.BareMaps", spec := "bareMaps", unfollowed := true, recurses := true, named := ["facade/api.ErrRange"], apart := false, laid := [("facade/api.ErrRange", laid_facade_api_ErrRange)] }
def BareMapsSaid : Prop := bareMapsRow.holds Tryd.pinned (OpenSpec.ofChange bareMapsSpec)

/-- ITS FALSE NEIGHBOUR: 'it returns false'. Refute it at one input. -/
def bareMapsWrong : ChangeSpec := { name := "bareMaps", fn := fun _ => fun
  | [d1, d2, d3] => { results := [.lit (.bool false)], args := [d1, d2, d3] }
  | _ => none }
def BareMapsWrongFalsely : Prop := bareMapsRow.holds Tryd.pinned (OpenSpec.ofChange bareMapsWrong)

/-- 'facadelaw8.BareTraps': WHATEVER THE INPUT: true; the input reads as it did. -/
def bareTrapsSpec : ChangeSpec := { name := "bareTraps", fn := fun _ => fun
  | [d1, d2] => { results := [.lit (.bool true)], args := [d1, d2] }
  | _ => none }
def bareTrapsRow : OpenClaim := { program := "ytpjccdncokamlaadoor", sum := "b798f5a000694ebb9a788e100cbe0765048be742152f83ed22bec96d3bd8ac74", func := "facade/facadelaw8.BareTraps", spec := "bareTraps", unfollowed := true, recurses := true, named := ["facade/api.ErrRange"], apart := false, laid := [("facade/api.ErrRange", laid_facade_api_ErrRange)] }
def BareTrapsSaid : Prop := bareTrapsRow.holds Tryd.pinned (OpenSpec.ofChange bareTrapsSpec)

/-- ITS FALSE NEIGHBOUR: 'it returns false'. Refute it at one input. -/
def bareTrapsWrong : ChangeSpec := { name := "bareTraps", fn := fun _ => fun
  | [d1, d2] => { results := [.lit (.bool false)], args := [d1, d2] }
  | _ => none }
def BareTrapsWrongFalsely : Prop := bareTrapsRow.holds Tryd.pinned (OpenSpec.ofChange bareTrapsWrong)

/-- 'facadelaw8.BareShows': WHATEVER THE INPUT: true; the input reads as it did. -/
def bareShowsSpec : ChangeSpec := { name := "bareShows", fn := fun _ => fun
  | [d1, d2] => { results := [.lit (.bool true)], args := [d1, d2] }
  | _ => none }
def bareShowsRow : OpenClaim := { program := "ytpjccdncokamlaadoor", sum := "b798f5a000694ebb9a788e100cbe0765048be742152f83ed22bec96d3bd8ac74", func := "facade/facadelaw8.BareShows", spec := "bareShows", unfollowed := true, recurses := true, named := ["facade/api.ErrRange"], apart := false, laid := [("facade/api.ErrRange", laid_facade_api_ErrRange)] }
def BareShowsSaid : Prop := bareShowsRow.holds Tryd.pinned (OpenSpec.ofChange bareShowsSpec)

/-- ITS FALSE NEIGHBOUR: 'it returns false'. Refute it at one input. -/
def bareShowsWrong : ChangeSpec := { name := "bareShows", fn := fun _ => fun
  | [d1, d2] => { results := [.lit (.bool false)], args := [d1, d2] }
  | _ => none }
def BareShowsWrongFalsely : Prop := bareShowsRow.holds Tryd.pinned (OpenSpec.ofChange bareShowsWrong)

/-- 'facadelaw8.BareCopies': WHATEVER THE INPUT: true; the input reads as it did. -/
def bareCopiesSpec : ChangeSpec := { name := "bareCopies", fn := fun _ => fun
  | [d1, d2, d3] => { results := [.lit (.bool true)], args := [d1, d2, d3] }
  | _ => none }
def bareCopiesRow : OpenClaim := { program := "ytpjccdncokamlaadoor", sum := "b798f5a000694ebb9a788e100cbe0765048be742152f83ed22bec96d3bd8ac74", func := "facade/facadelaw8.BareCopies", spec := "bareCopies", unfollowed := true, recurses := true, named := ["facade/api.ErrRange"], apart := false, laid := [("facade/api.ErrRange", laid_facade_api_ErrRange)] }
def BareCopiesSaid : Prop := bareCopiesRow.holds Tryd.pinned (OpenSpec.ofChange bareCopiesSpec)

/-- ITS FALSE NEIGHBOUR: 'it returns false'. Refute it at one input. -/
def bareCopiesWrong : ChangeSpec := { name := "bareCopies", fn := fun _ => fun
  | [d1, d2, d3] => { results := [.lit (.bool false)], args := [d1, d2, d3] }
  | _ => none }
def BareCopiesWrongFalsely : Prop := bareCopiesRow.holds Tryd.pinned (OpenSpec.ofChange bareCopiesWrong)

/- THE SECOND FORM. 'bulk': how many values and letters a reading holds, each counted each time it is reached (what is shared counts as often as it is met; a slice's spare places count too). A statement '..UptoSaid' is the law's where the arguments, and the package variables that the reading takes, are together of bulk at most 1048576: NARROWER than '..Said'. Prove '..Said' where nothing that the law and all that it calls make is longer than what came in: it says more and counts as full. Else prove '..UptoSaid'. A law counts once. -/
mutual
def uptoBulk {H : Type} : DataW H → Nat
  | .lit (.string bytes) => bytes.length + 1
  | .lit _ => 1
  | .nil => 1
  | .ptr d => uptoBulk d + 1
  | .slice elems spare => uptoBulkAll elems + uptoBulkAll spare + 1
  | .agg parts => uptoBulkAll parts + 1
  | .iface _ d => uptoBulk d + 1
  | .map entries => uptoBulkEntries entries + 1
  | .held _ => 1
def uptoBulkAll {H : Type} : List (DataW H) → Nat
  | [] => 0
  | d :: r => uptoBulk d + uptoBulkAll r
def uptoBulkEntries {H : Type} : List (Lit × DataW H) → Nat
  | [] => 0
  | x :: r => uptoBulkEntry x + uptoBulkEntries r
def uptoBulkEntry {H : Type} : Lit × DataW H → Nat
  | (.string bytes, d) => bytes.length + uptoBulk d + 1
  | (_, d) => uptoBulk d + 1
 end
def uptoSmall : (H : Type) → List (DataW H) → Bool := fun _ ds => decide (uptoBulkAll ds ≤ 1048576)
def OpenSpec.upto (s : _root_.Go.ChangeSpec) : _root_.Go.OpenSpec := { _root_.Go.OpenSpec.ofChange s with cond := some uptoSmall }

/-- 'facadelaw8.BareStatus', WHERE WHAT IT READS IS OF BULK AT MOST 1048576: true; the input reads as it did. -/
def bareStatusUptoRow : OpenClaim := { program := "ytpjccdncokamlaadoor", sum := "b798f5a000694ebb9a788e100cbe0765048be742152f83ed22bec96d3bd8ac74", func := "facade/facadelaw8.BareStatus", spec := "bareStatus", unfollowed := true, recurses := true, named := ["facade/api.ErrRange"], apart := false, laid := [("facade/api.ErrRange", laid_facade_api_ErrRange)], narrowed := true }
def BareStatusUptoSaid : Prop := bareStatusUptoRow.holds Tryd.pinned (OpenSpec.upto bareStatusSpec)

/-- 'facadelaw8.BareQueue', WHERE WHAT IT READS IS OF BULK AT MOST 1048576: true; the input reads as it did. -/
def bareQueueUptoRow : OpenClaim := { program := "ytpjccdncokamlaadoor", sum := "b798f5a000694ebb9a788e100cbe0765048be742152f83ed22bec96d3bd8ac74", func := "facade/facadelaw8.BareQueue", spec := "bareQueue", unfollowed := true, recurses := true, named := ["facade/api.ErrRange"], apart := false, laid := [("facade/api.ErrRange", laid_facade_api_ErrRange)], narrowed := true }
def BareQueueUptoSaid : Prop := bareQueueUptoRow.holds Tryd.pinned (OpenSpec.upto bareQueueSpec)

/-- 'facadelaw8.BareMaps', WHERE WHAT IT READS IS OF BULK AT MOST 1048576: true; the input reads as it did. -/
def bareMapsUptoRow : OpenClaim := { program := "ytpjccdncokamlaadoor", sum := "b798f5a000694ebb9a788e100cbe0765048be742152f83ed22bec96d3bd8ac74", func := "facade/facadelaw8.BareMaps", spec := "bareMaps", unfollowed := true, recurses := true, named := ["facade/api.ErrRange"], apart := false, laid := [("facade/api.ErrRange", laid_facade_api_ErrRange)], narrowed := true }
def BareMapsUptoSaid : Prop := bareMapsUptoRow.holds Tryd.pinned (OpenSpec.upto bareMapsSpec)

/-- 'facadelaw8.BareTraps', WHERE WHAT IT READS IS OF BULK AT MOST 1048576: true; the input reads as it did. -/
def bareTrapsUptoRow : OpenClaim := { program := "ytpjccdncokamlaadoor", sum := "b798f5a000694ebb9a788e100cbe0765048be742152f83ed22bec96d3bd8ac74", func := "facade/facadelaw8.BareTraps", spec := "bareTraps", unfollowed := true, recurses := true, named := ["facade/api.ErrRange"], apart := false, laid := [("facade/api.ErrRange", laid_facade_api_ErrRange)], narrowed := true }
def BareTrapsUptoSaid : Prop := bareTrapsUptoRow.holds Tryd.pinned (OpenSpec.upto bareTrapsSpec)

/-- 'facadelaw8.BareShows', WHERE WHAT IT READS IS OF BULK AT MOST 1048576: true; the input reads as it did. -/
def bareShowsUptoRow : OpenClaim := { program := "ytpjccdncokamlaadoor", sum := "b798f5a000694ebb9a788e100cbe0765048be742152f83ed22bec96d3bd8ac74", func := "facade/facadelaw8.BareShows", spec := "bareShows", unfollowed := true, recurses := true, named := ["facade/api.ErrRange"], apart := false, laid := [("facade/api.ErrRange", laid_facade_api_ErrRange)], narrowed := true }
def BareShowsUptoSaid : Prop := bareShowsUptoRow.holds Tryd.pinned (OpenSpec.upto bareShowsSpec)

/-- 'facadelaw8.BareCopies', WHERE WHAT IT READS IS OF BULK AT MOST 1048576: true; the input reads as it did. -/
def bareCopiesUptoRow : OpenClaim := { program := "ytpjccdncokamlaadoor", sum := "b798f5a000694ebb9a788e100cbe0765048be742152f83ed22bec96d3bd8ac74", func := "facade/facadelaw8.BareCopies", spec := "bareCopies", unfollowed := true, recurses := true, named := ["facade/api.ErrRange"], apart := false, laid := [("facade/api.ErrRange", laid_facade_api_ErrRange)], narrowed := true }
def BareCopiesUptoSaid : Prop := bareCopiesUptoRow.holds Tryd.pinned (OpenSpec.upto bareCopiesSpec)

end Rows
end Go.Proofs.YtpjccdncokamlaaDoor
