/-
  DERIVED. GIVEN WITH THE SEED: THE CARDS: each row of YtacmmedhjebfjaaGreatDoorRows.lean that lists a variable, with what it lists TIED to the program's text (the seventh form; the later family's looks); each row that meets fmt, with fmt's text TOLD by the authors' own Lean function (tested against real Go, not proved from fmt's source: count such statements apart). THE CARD IS WHAT COUNTS. Prove the row's statement (the work); the ties are given (YtacmmedhjebfjaaGreatDoorTie.lean); close each card by the builder's one call (the guide's Derived/Test/ToyasCard.lean, 'card_holds'). Laid BY PROGRAM, IN A SANDBOX (cutbox-door.mjs). By AI agents, Wed Nov 11 2026. No macro, syntax, notation, axiom, sorry.
-/
import Derived.Test.YtacmmedhjebfjaaGreatDoorRows
import GoSem.ClaimSeven
namespace Go.Proofs.YtacmmedhjebfjaaGreatDoor
namespace Rows

/-- THE TIED CARD OF 'facadelaw13.LinkMany'. -/
def linkManyCard : Claim7 := { stood := { row := linkManyRow, standIns := [], harness := (true, "4e430bb43c6f3a2dba40b0b6d9f939e23cbb02ac38c2e3a151569411d2404fef"), looks := true }, kinds := [], alts := [], laidByText := true, laidKinds := [.data, .data, .data, .handle, .sentinel, .sentinel, .sentinel, .sentinel, .sentinel, .sentinel, .sentinel, .sentinel, .sentinel, .sentinel, .sentinel, .sentinel, .sentinel, .sentinel, .sentinel, .sentinel], laidTests := true, laidLooks := .later }
def LinkManyCardSaid : Prop := Claim7.holds Tryz.pinned (.plain (OpenSpec.ofChange linkManySpec)) linkManyCard

/-- THE TIED CARD OF 'facadelaw13.LinkNames'. -/
def linkNamesCard : Claim7 := { stood := { row := linkNamesRow, standIns := [], harness := (true, "4e430bb43c6f3a2dba40b0b6d9f939e23cbb02ac38c2e3a151569411d2404fef"), looks := true }, kinds := [], alts := [], laidByText := true, laidKinds := [.data, .data, .data, .handle, .sentinel, .sentinel, .sentinel, .sentinel, .sentinel, .sentinel, .sentinel, .sentinel, .sentinel, .sentinel, .sentinel, .sentinel, .sentinel, .sentinel, .sentinel, .sentinel], laidTests := true, laidLooks := .later }
def LinkNamesCardSaid : Prop := Claim7.holds Tryz.pinned (.plain (OpenSpec.ofChange linkNamesSpec)) linkNamesCard

/-- THE SECOND FORM's CARD OF 'facadelaw13.LinkMany'. -/
def linkManyUptoCard : Claim7 := { stood := { row := linkManyUptoRow, standIns := [], harness := (true, "4e430bb43c6f3a2dba40b0b6d9f939e23cbb02ac38c2e3a151569411d2404fef"), looks := true }, kinds := [], alts := [], laidByText := true, laidKinds := [.data, .data, .data, .handle, .sentinel, .sentinel, .sentinel, .sentinel, .sentinel, .sentinel, .sentinel, .sentinel, .sentinel, .sentinel, .sentinel, .sentinel, .sentinel, .sentinel, .sentinel, .sentinel], laidTests := true, laidLooks := .later }
def LinkManyUptoCardSaid : Prop := Claim7.holds Tryz.pinned (.plain (OpenSpec.upto linkManySpec)) linkManyUptoCard

/-- THE SECOND FORM's CARD OF 'facadelaw13.LinkNames'. -/
def linkNamesUptoCard : Claim7 := { stood := { row := linkNamesUptoRow, standIns := [], harness := (true, "4e430bb43c6f3a2dba40b0b6d9f939e23cbb02ac38c2e3a151569411d2404fef"), looks := true }, kinds := [], alts := [], laidByText := true, laidKinds := [.data, .data, .data, .handle, .sentinel, .sentinel, .sentinel, .sentinel, .sentinel, .sentinel, .sentinel, .sentinel, .sentinel, .sentinel, .sentinel, .sentinel, .sentinel, .sentinel, .sentinel, .sentinel], laidTests := true, laidLooks := .later }
def LinkNamesUptoCardSaid : Prop := Claim7.holds Tryz.pinned (.plain (OpenSpec.upto linkNamesSpec)) linkNamesUptoCard
end Rows
end Go.Proofs.YtacmmedhjebfjaaGreatDoor
