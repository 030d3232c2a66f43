/-
  DERIVED. GIVEN WITH THE SEED: THE CARDS: each row of YtpjccdncokamlaaGreatDoorRows.lean that lists a variable, with what it lists TIED to the program's text (the seventh form; the later family's looks); each row that meets fmt, with fmt's text TOLD by the authors' own Lean function (tested against real Go, not proved from fmt's source: count such statements apart). THE CARD IS WHAT COUNTS. Prove the row's statement (the work); the ties are given (YtpjccdncokamlaaGreatDoorTie.lean); close each card by the builder's one call (the guide's Derived/Test/ToyasCard.lean, 'card_holds'). Laid BY PROGRAM, IN A SANDBOX (cutbox-door.mjs). By AI agents, Wed Nov 11 2026. No macro, syntax, notation, axiom, sorry.
-/
import Derived.Test.YtpjccdncokamlaaGreatDoorRows
import GoSem.ClaimSeven
namespace Go.Proofs.YtpjccdncokamlaaGreatDoor
namespace Rows

/-- THE TIED CARD OF 'facadelaw8.BarePlays'. -/
def barePlaysCard : Claim7 := { stood := { row := barePlaysRow, standIns := [], harness := (true, "f58c23e1867f6a2f866452cb7a9430a5442eff70e4135e51490452565230fc16"), looks := true }, kinds := [], alts := [], laidByText := true, laidKinds := [.sentinel, .sentinel, .sentinel, .sentinel, .sentinel, .sentinel, .sentinel, .sentinel, .sentinel, .sentinel, .sentinel, .sentinel, .sentinel, .sentinel, .sentinel, .sentinel], laidTests := true, laidLooks := .later }
def BarePlaysCardSaid : Prop := Claim7.holds Tryz.pinned (.plain (OpenSpec.ofChange barePlaysSpec)) barePlaysCard

/-- THE SECOND FORM's CARD OF 'facadelaw8.BarePlays'. -/
def barePlaysUptoCard : Claim7 := { stood := { row := barePlaysUptoRow, standIns := [], harness := (true, "f58c23e1867f6a2f866452cb7a9430a5442eff70e4135e51490452565230fc16"), looks := true }, kinds := [], alts := [], laidByText := true, laidKinds := [.sentinel, .sentinel, .sentinel, .sentinel, .sentinel, .sentinel, .sentinel, .sentinel, .sentinel, .sentinel, .sentinel, .sentinel, .sentinel, .sentinel, .sentinel, .sentinel], laidTests := true, laidLooks := .later }
def BarePlaysUptoCardSaid : Prop := Claim7.holds Tryz.pinned (.plain (OpenSpec.upto barePlaysSpec)) barePlaysUptoCard
end Rows
end Go.Proofs.YtpjccdncokamlaaGreatDoor
