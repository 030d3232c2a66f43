/-
  DERIVED. GIVEN WITH THE SEED: THE CARDS: each row of YtpjccdncokamlaaDoorRows.lean that lists a variable, with what it lists TIED to the program's text (the seventh form; the later family's looks); each row that meets fmt, with fmt's text TOLD by the authors' own Lean function (tested against real Go, not proved from fmt's source: count such statements apart). THE CARD IS WHAT COUNTS. Prove the row's statement (the work); the ties are given (YtpjccdncokamlaaDoorTie.lean); close each card by the builder's one call (the guide's Derived/Test/ToyasCard.lean, 'card_holds'). Laid BY PROGRAM, IN A SANDBOX (cutbox-door.mjs). By AI agents, Wed Nov 11 2026. No macro, syntax, notation, axiom, sorry.
-/
import Derived.Test.YtpjccdncokamlaaDoorRows
import GoSem.ClaimSeven
namespace Go.Proofs.YtpjccdncokamlaaDoor
namespace Rows

/-- THE TIED CARD OF 'facadelaw8.BareStatus'. -/
def bareStatusCard : Claim7 := { stood := { row := bareStatusRow, standIns := [], harness := (true, "2240b76f5c717f06660e6d9749359334b457a378d2241611cf83f321bf552739"), looks := false }, kinds := [], alts := [], laidByText := true, laidKinds := [.sentinel], laidTests := true, laidLooks := .later }
def BareStatusCardSaid : Prop := Claim7.holds Tryd.pinned (.plain (OpenSpec.ofChange bareStatusSpec)) bareStatusCard

/-- THE TIED CARD OF 'facadelaw8.BareQueue'. -/
def bareQueueCard : Claim7 := { stood := { row := bareQueueRow, standIns := [], harness := (true, "2240b76f5c717f06660e6d9749359334b457a378d2241611cf83f321bf552739"), looks := false }, kinds := [], alts := [], laidByText := true, laidKinds := [.sentinel], laidTests := true, laidLooks := .later }
def BareQueueCardSaid : Prop := Claim7.holds Tryd.pinned (.plain (OpenSpec.ofChange bareQueueSpec)) bareQueueCard

/-- THE TIED CARD OF 'facadelaw8.BareMaps'. -/
def bareMapsCard : Claim7 := { stood := { row := bareMapsRow, standIns := [], harness := (true, "2240b76f5c717f06660e6d9749359334b457a378d2241611cf83f321bf552739"), looks := false }, kinds := [], alts := [], laidByText := true, laidKinds := [.sentinel], laidTests := true, laidLooks := .later }
def BareMapsCardSaid : Prop := Claim7.holds Tryd.pinned (.plain (OpenSpec.ofChange bareMapsSpec)) bareMapsCard

/-- THE TIED CARD OF 'facadelaw8.BareTraps'. -/
def bareTrapsCard : Claim7 := { stood := { row := bareTrapsRow, standIns := [], harness := (true, "2240b76f5c717f06660e6d9749359334b457a378d2241611cf83f321bf552739"), looks := false }, kinds := [], alts := [], laidByText := true, laidKinds := [.sentinel], laidTests := true, laidLooks := .later }
def BareTrapsCardSaid : Prop := Claim7.holds Tryd.pinned (.plain (OpenSpec.ofChange bareTrapsSpec)) bareTrapsCard

/-- THE TIED CARD OF 'facadelaw8.BareShows'. -/
def bareShowsCard : Claim7 := { stood := { row := bareShowsRow, standIns := [], harness := (true, "2240b76f5c717f06660e6d9749359334b457a378d2241611cf83f321bf552739"), looks := false }, kinds := [], alts := [], laidByText := true, laidKinds := [.sentinel], laidTests := true, laidLooks := .later }
def BareShowsCardSaid : Prop := Claim7.holds Tryd.pinned (.plain (OpenSpec.ofChange bareShowsSpec)) bareShowsCard

/-- THE TIED CARD OF 'facadelaw8.BareCopies'. -/
def bareCopiesCard : Claim7 := { stood := { row := bareCopiesRow, standIns := [], harness := (true, "2240b76f5c717f06660e6d9749359334b457a378d2241611cf83f321bf552739"), looks := false }, kinds := [], alts := [], laidByText := true, laidKinds := [.sentinel], laidTests := true, laidLooks := .later }
def BareCopiesCardSaid : Prop := Claim7.holds Tryd.pinned (.plain (OpenSpec.ofChange bareCopiesSpec)) bareCopiesCard

/-- THE SECOND FORM's CARD OF 'facadelaw8.BareStatus'. -/
def bareStatusUptoCard : Claim7 := { stood := { row := bareStatusUptoRow, standIns := [], harness := (true, "2240b76f5c717f06660e6d9749359334b457a378d2241611cf83f321bf552739"), looks := false }, kinds := [], alts := [], laidByText := true, laidKinds := [.sentinel], laidTests := true, laidLooks := .later }
def BareStatusUptoCardSaid : Prop := Claim7.holds Tryd.pinned (.plain (OpenSpec.upto bareStatusSpec)) bareStatusUptoCard

/-- THE SECOND FORM's CARD OF 'facadelaw8.BareQueue'. -/
def bareQueueUptoCard : Claim7 := { stood := { row := bareQueueUptoRow, standIns := [], harness := (true, "2240b76f5c717f06660e6d9749359334b457a378d2241611cf83f321bf552739"), looks := false }, kinds := [], alts := [], laidByText := true, laidKinds := [.sentinel], laidTests := true, laidLooks := .later }
def BareQueueUptoCardSaid : Prop := Claim7.holds Tryd.pinned (.plain (OpenSpec.upto bareQueueSpec)) bareQueueUptoCard

/-- THE SECOND FORM's CARD OF 'facadelaw8.BareMaps'. -/
def bareMapsUptoCard : Claim7 := { stood := { row := bareMapsUptoRow, standIns := [], harness := (true, "2240b76f5c717f06660e6d9749359334b457a378d2241611cf83f321bf552739"), looks := false }, kinds := [], alts := [], laidByText := true, laidKinds := [.sentinel], laidTests := true, laidLooks := .later }
def BareMapsUptoCardSaid : Prop := Claim7.holds Tryd.pinned (.plain (OpenSpec.upto bareMapsSpec)) bareMapsUptoCard

/-- THE SECOND FORM's CARD OF 'facadelaw8.BareTraps'. -/
def bareTrapsUptoCard : Claim7 := { stood := { row := bareTrapsUptoRow, standIns := [], harness := (true, "2240b76f5c717f06660e6d9749359334b457a378d2241611cf83f321bf552739"), looks := false }, kinds := [], alts := [], laidByText := true, laidKinds := [.sentinel], laidTests := true, laidLooks := .later }
def BareTrapsUptoCardSaid : Prop := Claim7.holds Tryd.pinned (.plain (OpenSpec.upto bareTrapsSpec)) bareTrapsUptoCard

/-- THE SECOND FORM's CARD OF 'facadelaw8.BareShows'. -/
def bareShowsUptoCard : Claim7 := { stood := { row := bareShowsUptoRow, standIns := [], harness := (true, "2240b76f5c717f06660e6d9749359334b457a378d2241611cf83f321bf552739"), looks := false }, kinds := [], alts := [], laidByText := true, laidKinds := [.sentinel], laidTests := true, laidLooks := .later }
def BareShowsUptoCardSaid : Prop := Claim7.holds Tryd.pinned (.plain (OpenSpec.upto bareShowsSpec)) bareShowsUptoCard

/-- THE SECOND FORM's CARD OF 'facadelaw8.BareCopies'. -/
def bareCopiesUptoCard : Claim7 := { stood := { row := bareCopiesUptoRow, standIns := [], harness := (true, "2240b76f5c717f06660e6d9749359334b457a378d2241611cf83f321bf552739"), looks := false }, kinds := [], alts := [], laidByText := true, laidKinds := [.sentinel], laidTests := true, laidLooks := .later }
def BareCopiesUptoCardSaid : Prop := Claim7.holds Tryd.pinned (.plain (OpenSpec.upto bareCopiesSpec)) bareCopiesUptoCard
end Rows
end Go.Proofs.YtpjccdncokamlaaDoor
