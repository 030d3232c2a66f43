/-
  DERIVED. GIVEN WITH THE SEED: THE CARDS: each row of YtacmmedhjebfjaaDoorRows.lean that lists a variable, with what it lists TIED to the program's text (the seventh form; the later family's looks); each row that meets fmt, with fmt's text TOLD by the authors' own Lean function (tested against real Go, not proved from fmt's source: count such statements apart). THE CARD IS WHAT COUNTS. Prove the row's statement (the work); the ties are given (YtacmmedhjebfjaaDoorTie.lean); close each card by the builder's one call (the guide's Derived/Test/ToyasCard.lean, 'card_holds'). Laid BY PROGRAM, IN A SANDBOX (cutbox-door.mjs). By AI agents, Wed Nov 11 2026. No macro, syntax, notation, axiom, sorry.
-/
import Derived.Test.YtacmmedhjebfjaaDoorRows
import GoSem.ClaimSeven
namespace Go.Proofs.YtacmmedhjebfjaaDoor
namespace Rows

/-- THE TIED CARD OF 'facadelaw13.LinkGoes'. -/
def linkGoesCard : Claim7 := { stood := { row := linkGoesRow, standIns := [], harness := (true, "5a9579c659dd0d71a6ef37b62756d31cc8b246ea73811af86623cd16d9980ed1"), looks := true }, kinds := [], alts := [], laidByText := true, laidKinds := [.handle, .sentinel, .sentinel, .sentinel, .sentinel, .sentinel, .sentinel, .sentinel], laidTests := true, laidLooks := .later }
def LinkGoesCardSaid : Prop := Claim7.holds Tryd.pinned (.plain (OpenSpec.ofChange linkGoesSpec)) linkGoesCard

/-- THE TIED CARD OF 'facadelaw13.LinkFar'. -/
def linkFarCard : Claim7 := { stood := { row := linkFarRow, standIns := [], harness := (true, "5a9579c659dd0d71a6ef37b62756d31cc8b246ea73811af86623cd16d9980ed1"), looks := true }, kinds := [], alts := [], laidByText := true, laidKinds := [.handle, .sentinel, .sentinel, .sentinel, .sentinel, .sentinel, .sentinel, .sentinel], laidTests := true, laidLooks := .later }
def LinkFarCardSaid : Prop := Claim7.holds Tryd.pinned (.plain (OpenSpec.ofChange linkFarSpec)) linkFarCard

/-- THE TIED CARD OF 'facadelaw13.LinkMaps'. -/
def linkMapsCard : Claim7 := { stood := { row := linkMapsRow, standIns := [], harness := (true, "5a9579c659dd0d71a6ef37b62756d31cc8b246ea73811af86623cd16d9980ed1"), looks := true }, kinds := [], alts := [], laidByText := true, laidKinds := [.handle, .sentinel, .sentinel, .sentinel, .sentinel, .sentinel, .sentinel, .sentinel], laidTests := true, laidLooks := .later }
def LinkMapsCardSaid : Prop := Claim7.holds Tryd.pinned (.plain (OpenSpec.ofChange linkMapsSpec)) linkMapsCard

/-- THE TIED CARD OF 'facadelaw13.LinkOrder'. -/
def linkOrderCard : Claim7 := { stood := { row := linkOrderRow, standIns := [], harness := (true, "5a9579c659dd0d71a6ef37b62756d31cc8b246ea73811af86623cd16d9980ed1"), looks := true }, kinds := [], alts := [], laidByText := true, laidKinds := [.data, .data, .data, .handle, .sentinel, .sentinel, .sentinel, .sentinel, .sentinel, .sentinel, .sentinel], laidTests := true, laidLooks := .later }
def LinkOrderCardSaid : Prop := Claim7.holds Tryd.pinned (.plain (OpenSpec.ofChange linkOrderSpec)) linkOrderCard

/-- THE TIED CARD OF 'facadelaw13.LinkData'. -/
def linkDataCard : Claim7 := { stood := { row := linkDataRow, standIns := [], harness := (true, "5a9579c659dd0d71a6ef37b62756d31cc8b246ea73811af86623cd16d9980ed1"), looks := true }, kinds := [], alts := [], laidByText := true, laidKinds := [.data, .data, .data, .handle, .sentinel, .sentinel, .sentinel, .sentinel, .sentinel, .sentinel, .sentinel], laidTests := true, laidLooks := .later }
def LinkDataCardSaid : Prop := Claim7.holds Tryd.pinned (.plain (OpenSpec.ofChange linkDataSpec)) linkDataCard

/-- THE SECOND FORM's CARD OF 'facadelaw13.LinkGoes'. -/
def linkGoesUptoCard : Claim7 := { stood := { row := linkGoesUptoRow, standIns := [], harness := (true, "5a9579c659dd0d71a6ef37b62756d31cc8b246ea73811af86623cd16d9980ed1"), looks := true }, kinds := [], alts := [], laidByText := true, laidKinds := [.handle, .sentinel, .sentinel, .sentinel, .sentinel, .sentinel, .sentinel, .sentinel], laidTests := true, laidLooks := .later }
def LinkGoesUptoCardSaid : Prop := Claim7.holds Tryd.pinned (.plain (OpenSpec.upto linkGoesSpec)) linkGoesUptoCard

/-- THE SECOND FORM's CARD OF 'facadelaw13.LinkFar'. -/
def linkFarUptoCard : Claim7 := { stood := { row := linkFarUptoRow, standIns := [], harness := (true, "5a9579c659dd0d71a6ef37b62756d31cc8b246ea73811af86623cd16d9980ed1"), looks := true }, kinds := [], alts := [], laidByText := true, laidKinds := [.handle, .sentinel, .sentinel, .sentinel, .sentinel, .sentinel, .sentinel, .sentinel], laidTests := true, laidLooks := .later }
def LinkFarUptoCardSaid : Prop := Claim7.holds Tryd.pinned (.plain (OpenSpec.upto linkFarSpec)) linkFarUptoCard

/-- THE SECOND FORM's CARD OF 'facadelaw13.LinkMaps'. -/
def linkMapsUptoCard : Claim7 := { stood := { row := linkMapsUptoRow, standIns := [], harness := (true, "5a9579c659dd0d71a6ef37b62756d31cc8b246ea73811af86623cd16d9980ed1"), looks := true }, kinds := [], alts := [], laidByText := true, laidKinds := [.handle, .sentinel, .sentinel, .sentinel, .sentinel, .sentinel, .sentinel, .sentinel], laidTests := true, laidLooks := .later }
def LinkMapsUptoCardSaid : Prop := Claim7.holds Tryd.pinned (.plain (OpenSpec.upto linkMapsSpec)) linkMapsUptoCard

/-- THE SECOND FORM's CARD OF 'facadelaw13.LinkOrder'. -/
def linkOrderUptoCard : Claim7 := { stood := { row := linkOrderUptoRow, standIns := [], harness := (true, "5a9579c659dd0d71a6ef37b62756d31cc8b246ea73811af86623cd16d9980ed1"), looks := true }, kinds := [], alts := [], laidByText := true, laidKinds := [.data, .data, .data, .handle, .sentinel, .sentinel, .sentinel, .sentinel, .sentinel, .sentinel, .sentinel], laidTests := true, laidLooks := .later }
def LinkOrderUptoCardSaid : Prop := Claim7.holds Tryd.pinned (.plain (OpenSpec.upto linkOrderSpec)) linkOrderUptoCard

/-- THE SECOND FORM's CARD OF 'facadelaw13.LinkData'. -/
def linkDataUptoCard : Claim7 := { stood := { row := linkDataUptoRow, standIns := [], harness := (true, "5a9579c659dd0d71a6ef37b62756d31cc8b246ea73811af86623cd16d9980ed1"), looks := true }, kinds := [], alts := [], laidByText := true, laidKinds := [.data, .data, .data, .handle, .sentinel, .sentinel, .sentinel, .sentinel, .sentinel, .sentinel, .sentinel], laidTests := true, laidLooks := .later }
def LinkDataUptoCardSaid : Prop := Claim7.holds Tryd.pinned (.plain (OpenSpec.upto linkDataSpec)) linkDataUptoCard
end Rows
end Go.Proofs.YtacmmedhjebfjaaDoor
