/-
  No cell of these rows narrows 'for every input' (looked for: loops, veiled, ifaces, maps, wideKeys, modest, calm, conditions, laid).
  DERIVED. THE GIVEN ROWS OF THIS SEAT. 3 by the template 'for every input the law returns true; each argument reads behind the call as it read before'; 0 by the template 'total and deterministic' (their statements: YtgnaefaibgjjoaaTotals.lean).
  GIVEN WITH THE SEED: the statements are not yours to turn. If you find one false, say at which input.
  Laid BY PROGRAM, IN A SANDBOX (cutbox-rows.mjs): the forced cells as the released guide's own fill.sh prints them over the translation e46577fa226f2381… (all of the seat's roots in one cut). By AI agents, Wed Nov 11 2026. No macro, syntax, notation, axiom, sorry.
-/
import Derived.Test.YtgnaefaibgjjoaaChecked
import GoSem.Claim
import GoSem.ClaimJoined
import GoSem.ClaimMapViews
import Derived.JoinedTies
import Derived.KernelRfl
namespace Go.Proofs.Ytgnaefaibgjjoaa
/- THE CELL 'sum', in the pinned program and in every row, IS THE sha256 OF THE DUMP (.gsa) THAT YtgnaefaibgjjoaaProg.lean LOADS. Nothing in Lean hashes anything: it is a label: what it is worth is what the hold of that sum in a sandbox is worth. -/
noncomputable def Try.pinned : Pinned := { name := "ytgnaefaibgjjoaa", sum := "e46577fa226f2381a3847ca75335ac32992a38ce66d466c601c84eee3baca2ae", checked := Try.checked }
namespace Rows
def none {H : Type} : Left H := { results := [], args := [] }

/-- 'facadelaw1.IsaRegs': WHATEVER THE INPUT: true; the input reads as it did. -/
def isaRegsSpec : ChangeSpec := { name := "isaRegs", fn := fun _ => fun
  | [d1, d2, d3, d4] => { results := [.lit (.bool true)], args := [d1, d2, d3, d4] }
  | _ => none }
def isaRegsRow : OpenClaim := { program := "ytgnaefaibgjjoaa", sum := "e46577fa226f2381a3847ca75335ac32992a38ce66d466c601c84eee3baca2ae", func := "facade/facadelaw1.IsaRegs", spec := "isaRegs", unfollowed := true, recurses := true, apart := false }
def IsaRegsSaid : Prop := isaRegsRow.holds Try.pinned (OpenSpec.ofChange isaRegsSpec)

/-- ITS FALSE NEIGHBOUR: 'it returns false'. Refute it at one input. -/
def isaRegsWrong : ChangeSpec := { name := "isaRegs", fn := fun _ => fun
  | [d1, d2, d3, d4] => { results := [.lit (.bool false)], args := [d1, d2, d3, d4] }
  | _ => none }
def IsaRegsWrongFalsely : Prop := isaRegsRow.holds Try.pinned (OpenSpec.ofChange isaRegsWrong)

/-- 'facadelaw1.IsaImm': WHATEVER THE INPUT: true; the input reads as it did. -/
def isaImmSpec : ChangeSpec := { name := "isaImm", fn := fun _ => fun
  | [d1, d2] => { results := [.lit (.bool true)], args := [d1, d2] }
  | _ => none }
def isaImmRow : OpenClaim := { program := "ytgnaefaibgjjoaa", sum := "e46577fa226f2381a3847ca75335ac32992a38ce66d466c601c84eee3baca2ae", func := "facade/facadelaw1.IsaImm", spec := "isaImm", unfollowed := true, recurses := true, apart := false }
def IsaImmSaid : Prop := isaImmRow.holds Try.pinned (OpenSpec.ofChange isaImmSpec)

/-- ITS FALSE NEIGHBOUR: 'it returns false'. Refute it at one input. -/
def isaImmWrong : ChangeSpec := { name := "isaImm", fn := fun _ => fun
  | [d1, d2] => { results := [.lit (.bool false)], args := [d1, d2] }
  | _ => none }
def IsaImmWrongFalsely : Prop := isaImmRow.holds Try.pinned (OpenSpec.ofChange isaImmWrong)

/-- 'facadelaw1.IsaClasses': WHATEVER THE INPUT: true; the input reads as it did. -/
def isaClassesSpec : ChangeSpec := { name := "isaClasses", fn := fun _ => fun
  | [d1, d2, d3] => { results := [.lit (.bool true)], args := [d1, d2, d3] }
  | _ => none }
def isaClassesRow : OpenClaim := { program := "ytgnaefaibgjjoaa", sum := "e46577fa226f2381a3847ca75335ac32992a38ce66d466c601c84eee3baca2ae", func := "facade/facadelaw1.IsaClasses", spec := "isaClasses", unfollowed := true, recurses := true, apart := false }
def IsaClassesSaid : Prop := isaClassesRow.holds Try.pinned (OpenSpec.ofChange isaClassesSpec)

/-- ITS FALSE NEIGHBOUR: 'it returns false'. Refute it at one input. -/
def isaClassesWrong : ChangeSpec := { name := "isaClasses", fn := fun _ => fun
  | [d1, d2, d3] => { results := [.lit (.bool false)], args := [d1, d2, d3] }
  | _ => none }
def IsaClassesWrongFalsely : Prop := isaClassesRow.holds Try.pinned (OpenSpec.ofChange isaClassesWrong)

/- THE SECOND FORM. 'bulk': how many values and letters a reading holds, each counted each time it is reached (what is shared counts as often as it is met; a slice's spare places count too). A statement '..UptoSaid' is the law's where the arguments, and the package variables that the reading takes, are together of bulk at most 1048576: NARROWER than '..Said'. Prove '..Said' where nothing that the law and all that it calls make is longer than what came in: it says more and counts as full. Else prove '..UptoSaid'. A law counts once. -/
mutual
def uptoBulk {H : Type} : DataW H → Nat
  | .lit (.string bytes) => bytes.length + 1
  | .lit _ => 1
  | .nil => 1
  | .ptr d => uptoBulk d + 1
  | .slice elems spare => uptoBulkAll elems + uptoBulkAll spare + 1
  | .agg parts => uptoBulkAll parts + 1
  | .iface _ d => uptoBulk d + 1
  | .map entries => uptoBulkEntries entries + 1
  | .held _ => 1
def uptoBulkAll {H : Type} : List (DataW H) → Nat
  | [] => 0
  | d :: r => uptoBulk d + uptoBulkAll r
def uptoBulkEntries {H : Type} : List (Lit × DataW H) → Nat
  | [] => 0
  | x :: r => uptoBulkEntry x + uptoBulkEntries r
def uptoBulkEntry {H : Type} : Lit × DataW H → Nat
  | (.string bytes, d) => bytes.length + uptoBulk d + 1
  | (_, d) => uptoBulk d + 1
 end
def uptoSmall : (H : Type) → List (DataW H) → Bool := fun _ ds => decide (uptoBulkAll ds ≤ 1048576)
def OpenSpec.upto (s : _root_.Go.ChangeSpec) : _root_.Go.OpenSpec := { _root_.Go.OpenSpec.ofChange s with cond := some uptoSmall }

/-- 'facadelaw1.IsaRegs', WHERE WHAT IT READS IS OF BULK AT MOST 1048576: true; the input reads as it did. -/
def isaRegsUptoRow : OpenClaim := { program := "ytgnaefaibgjjoaa", sum := "e46577fa226f2381a3847ca75335ac32992a38ce66d466c601c84eee3baca2ae", func := "facade/facadelaw1.IsaRegs", spec := "isaRegs", unfollowed := true, recurses := true, apart := false, narrowed := true }
def IsaRegsUptoSaid : Prop := isaRegsUptoRow.holds Try.pinned (OpenSpec.upto isaRegsSpec)

/-- 'facadelaw1.IsaImm', WHERE WHAT IT READS IS OF BULK AT MOST 1048576: true; the input reads as it did. -/
def isaImmUptoRow : OpenClaim := { program := "ytgnaefaibgjjoaa", sum := "e46577fa226f2381a3847ca75335ac32992a38ce66d466c601c84eee3baca2ae", func := "facade/facadelaw1.IsaImm", spec := "isaImm", unfollowed := true, recurses := true, apart := false, narrowed := true }
def IsaImmUptoSaid : Prop := isaImmUptoRow.holds Try.pinned (OpenSpec.upto isaImmSpec)

/-- 'facadelaw1.IsaClasses', WHERE WHAT IT READS IS OF BULK AT MOST 1048576: true; the input reads as it did. -/
def isaClassesUptoRow : OpenClaim := { program := "ytgnaefaibgjjoaa", sum := "e46577fa226f2381a3847ca75335ac32992a38ce66d466c601c84eee3baca2ae", func := "facade/facadelaw1.IsaClasses", spec := "isaClasses", unfollowed := true, recurses := true, apart := false, narrowed := true }
def IsaClassesUptoSaid : Prop := isaClassesUptoRow.holds Try.pinned (OpenSpec.upto isaClassesSpec)

end Rows
end Go.Proofs.Ytgnaefaibgjjoaa
