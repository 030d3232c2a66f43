/-
  DERIVED. GIVEN WITH THE SEED: THE CARDS: each row of YtfbagpbncfapbaaDoorRows.lean that lists a variable, with what it lists TIED to the program's text (the seventh form; the later family's looks); each row that meets fmt, with fmt's text TOLD by the authors' own Lean function (tested against real Go, not proved from fmt's source: count such statements apart). THE CARD IS WHAT COUNTS. Prove the row's statement (the work); the ties are given (YtfbagpbncfapbaaDoorTie.lean); close each card by the builder's one call (the guide's Derived/Test/ToyasCard.lean, 'card_holds'). Laid BY PROGRAM, IN A SANDBOX (cutbox-door.mjs). By AI agents, Wed Nov 11 2026. No macro, syntax, notation, axiom, sorry.
-/
import Derived.Test.YtfbagpbncfapbaaDoorRows
import GoSem.ClaimSeven
namespace Go.Proofs.YtfbagpbncfapbaaDoor
namespace Rows

/-- THE TIED CARD OF 'facadelaw7.CoreFetch'. -/
def coreFetchCard : Claim7 := { stood := { row := coreFetchRow, standIns := [], harness := (true, "07a52dbef71c53c994666739e499ce07b00b9994286044e81afcceb588e8090c"), looks := false }, kinds := [], alts := [], laidByText := true, laidKinds := [.sentinel], laidTests := true, laidLooks := .later }
def CoreFetchCardSaid : Prop := Claim7.holds Tryd.pinned (.plain (OpenSpec.ofChange coreFetchSpec)) coreFetchCard

/-- THE TIED CARD OF 'facadelaw7.CoreUser'. -/
def coreUserCard : Claim7 := { stood := { row := coreUserRow, standIns := [], harness := (true, "07a52dbef71c53c994666739e499ce07b00b9994286044e81afcceb588e8090c"), looks := false }, kinds := [], alts := [], laidByText := true, laidKinds := [.sentinel], laidTests := true, laidLooks := .later }
def CoreUserCardSaid : Prop := Claim7.holds Tryd.pinned (.plain (OpenSpec.ofChange coreUserSpec)) coreUserCard

/-- THE TIED CARD OF 'facadelaw7.CoreJumps'. -/
def coreJumpsCard : Claim7 := { stood := { row := coreJumpsRow, standIns := [], harness := (true, "07a52dbef71c53c994666739e499ce07b00b9994286044e81afcceb588e8090c"), looks := false }, kinds := [], alts := [], laidByText := true, laidKinds := [.sentinel], laidTests := true, laidLooks := .later }
def CoreJumpsCardSaid : Prop := Claim7.holds Tryd.pinned (.plain (OpenSpec.ofChange coreJumpsSpec)) coreJumpsCard

/-- THE TIED CARD OF 'facadelaw7.CoreWords'. -/
def coreWordsCard : Claim7 := { stood := { row := coreWordsRow, standIns := [], harness := (true, "07a52dbef71c53c994666739e499ce07b00b9994286044e81afcceb588e8090c"), looks := false }, kinds := [], alts := [], laidByText := true, laidKinds := [.sentinel], laidTests := true, laidLooks := .later }
def CoreWordsCardSaid : Prop := Claim7.holds Tryd.pinned (.plain (OpenSpec.ofChange coreWordsSpec)) coreWordsCard

/-- THE TIED CARD OF 'facadelaw7.CoreSays'. -/
def coreSaysCard : Claim7 := { stood := { row := coreSaysRow, standIns := [], harness := (true, "07a52dbef71c53c994666739e499ce07b00b9994286044e81afcceb588e8090c"), looks := false }, kinds := [], alts := [], laidByText := true, laidKinds := [.sentinel], laidTests := true, laidLooks := .later }
def CoreSaysCardSaid : Prop := Claim7.holds Tryd.pinned (.plain (OpenSpec.ofChange coreSaysSpec)) coreSaysCard

/-- THE TIED CARD OF 'facadelaw7.CoreRuns'. -/
def coreRunsCard : Claim7 := { stood := { row := coreRunsRow, standIns := [], harness := (true, "07a52dbef71c53c994666739e499ce07b00b9994286044e81afcceb588e8090c"), looks := false }, kinds := [], alts := [], laidByText := true, laidKinds := [.sentinel], laidTests := true, laidLooks := .later }
def CoreRunsCardSaid : Prop := Claim7.holds Tryd.pinned (.plain (OpenSpec.ofChange coreRunsSpec)) coreRunsCard

/-- THE SECOND FORM's CARD OF 'facadelaw7.CoreFetch'. -/
def coreFetchUptoCard : Claim7 := { stood := { row := coreFetchUptoRow, standIns := [], harness := (true, "07a52dbef71c53c994666739e499ce07b00b9994286044e81afcceb588e8090c"), looks := false }, kinds := [], alts := [], laidByText := true, laidKinds := [.sentinel], laidTests := true, laidLooks := .later }
def CoreFetchUptoCardSaid : Prop := Claim7.holds Tryd.pinned (.plain (OpenSpec.upto coreFetchSpec)) coreFetchUptoCard

/-- THE SECOND FORM's CARD OF 'facadelaw7.CoreUser'. -/
def coreUserUptoCard : Claim7 := { stood := { row := coreUserUptoRow, standIns := [], harness := (true, "07a52dbef71c53c994666739e499ce07b00b9994286044e81afcceb588e8090c"), looks := false }, kinds := [], alts := [], laidByText := true, laidKinds := [.sentinel], laidTests := true, laidLooks := .later }
def CoreUserUptoCardSaid : Prop := Claim7.holds Tryd.pinned (.plain (OpenSpec.upto coreUserSpec)) coreUserUptoCard

/-- THE SECOND FORM's CARD OF 'facadelaw7.CoreJumps'. -/
def coreJumpsUptoCard : Claim7 := { stood := { row := coreJumpsUptoRow, standIns := [], harness := (true, "07a52dbef71c53c994666739e499ce07b00b9994286044e81afcceb588e8090c"), looks := false }, kinds := [], alts := [], laidByText := true, laidKinds := [.sentinel], laidTests := true, laidLooks := .later }
def CoreJumpsUptoCardSaid : Prop := Claim7.holds Tryd.pinned (.plain (OpenSpec.upto coreJumpsSpec)) coreJumpsUptoCard

/-- THE SECOND FORM's CARD OF 'facadelaw7.CoreWords'. -/
def coreWordsUptoCard : Claim7 := { stood := { row := coreWordsUptoRow, standIns := [], harness := (true, "07a52dbef71c53c994666739e499ce07b00b9994286044e81afcceb588e8090c"), looks := false }, kinds := [], alts := [], laidByText := true, laidKinds := [.sentinel], laidTests := true, laidLooks := .later }
def CoreWordsUptoCardSaid : Prop := Claim7.holds Tryd.pinned (.plain (OpenSpec.upto coreWordsSpec)) coreWordsUptoCard

/-- THE SECOND FORM's CARD OF 'facadelaw7.CoreSays'. -/
def coreSaysUptoCard : Claim7 := { stood := { row := coreSaysUptoRow, standIns := [], harness := (true, "07a52dbef71c53c994666739e499ce07b00b9994286044e81afcceb588e8090c"), looks := false }, kinds := [], alts := [], laidByText := true, laidKinds := [.sentinel], laidTests := true, laidLooks := .later }
def CoreSaysUptoCardSaid : Prop := Claim7.holds Tryd.pinned (.plain (OpenSpec.upto coreSaysSpec)) coreSaysUptoCard

/-- THE SECOND FORM's CARD OF 'facadelaw7.CoreRuns'. -/
def coreRunsUptoCard : Claim7 := { stood := { row := coreRunsUptoRow, standIns := [], harness := (true, "07a52dbef71c53c994666739e499ce07b00b9994286044e81afcceb588e8090c"), looks := false }, kinds := [], alts := [], laidByText := true, laidKinds := [.sentinel], laidTests := true, laidLooks := .later }
def CoreRunsUptoCardSaid : Prop := Claim7.holds Tryd.pinned (.plain (OpenSpec.upto coreRunsSpec)) coreRunsUptoCard
end Rows
end Go.Proofs.YtfbagpbncfapbaaDoor
