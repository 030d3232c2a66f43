/-
  DERIVED. GIVEN WITH THE SEED: THE CARDS: each row of YtceebkojjmmjmaaDoorRows.lean that lists a variable, with what it lists TIED to the program's text (the seventh form; the later family's looks); each row that meets fmt, with fmt's text TOLD by the authors' own Lean function (tested against real Go, not proved from fmt's source: count such statements apart). THE CARD IS WHAT COUNTS. Prove the row's statement (the work); the ties are given (YtceebkojjmmjmaaDoorTie.lean); close each card by the builder's one call (the guide's Derived/Test/ToyasCard.lean, 'card_holds'). Laid BY PROGRAM, IN A SANDBOX (cutbox-door.mjs). By AI agents, Wed Nov 11 2026. No macro, syntax, notation, axiom, sorry.
-/
import Derived.Test.YtceebkojjmmjmaaDoorRows
import GoSem.ClaimSeven
namespace Go.Proofs.YtceebkojjmmjmaaDoor
namespace Rows

/-- THE TIED CARD OF 'facadelaw1.IsaBack'. -/
def isaBackCard : Claim7 := { stood := { row := isaBackRow, standIns := [], harness := (true, "6bc59ee436fa30e401ef11ef26719d0bae35cfca6198135b58f428566811a5ac"), looks := true }, kinds := [], alts := [], laidByText := true, laidKinds := [.data, .data, .data], laidTests := true, laidLooks := .later }
def IsaBackCardSaid : Prop := Claim7.holds Tryd.pinned (.plain (OpenSpec.ofChange isaBackSpec)) isaBackCard

/-- THE TIED CARD OF 'facadelaw1.IsaSays'. -/
def isaSaysCard : Claim7 := { stood := { row := isaSaysRow, standIns := [], harness := (true, "6bc59ee436fa30e401ef11ef26719d0bae35cfca6198135b58f428566811a5ac"), looks := true }, kinds := [], alts := [], laidByText := true, laidKinds := [.data, .data, .data], laidTests := true, laidLooks := .later }
def IsaSaysCardSaid : Prop := Claim7.holds Tryd.pinned (.plain (OpenSpec.ofChange isaSaysSpec)) isaSaysCard

/-- THE TIED CARD OF 'facadelaw9.ObjBack'. -/
def objBackCard : Claim7 := { stood := { row := objBackRow, standIns := [], harness := (true, "6bc59ee436fa30e401ef11ef26719d0bae35cfca6198135b58f428566811a5ac"), looks := true }, kinds := [], alts := [], laidByText := true, laidKinds := [.sentinel, .sentinel, .sentinel, .sentinel, .sentinel, .sentinel, .sentinel, .sentinel, .sentinel, .sentinel, .sentinel, .sentinel, .sentinel, .sentinel, .sentinel, .sentinel], laidTests := true, laidLooks := .later }
def ObjBackCardSaid : Prop := Claim7.holds Tryd.pinned (.plain (OpenSpec.ofChange objBackSpec)) objBackCard

/-- THE TIED CARD OF 'facadelaw9.ObjBent'. -/
def objBentCard : Claim7 := { stood := { row := objBentRow, standIns := [], harness := (true, "6bc59ee436fa30e401ef11ef26719d0bae35cfca6198135b58f428566811a5ac"), looks := true }, kinds := [], alts := [], laidByText := true, laidKinds := [.sentinel, .sentinel, .sentinel, .sentinel, .sentinel, .sentinel, .sentinel, .sentinel, .sentinel, .sentinel, .sentinel, .sentinel, .sentinel, .sentinel, .sentinel, .sentinel], laidTests := true, laidLooks := .later }
def ObjBentCardSaid : Prop := Claim7.holds Tryd.pinned (.plain (OpenSpec.ofChange objBentSpec)) objBentCard

/-- THE TIED CARD OF 'facadelaw9.ObjLimits'. -/
def objLimitsCard : Claim7 := { stood := { row := objLimitsRow, standIns := [], harness := (true, "6bc59ee436fa30e401ef11ef26719d0bae35cfca6198135b58f428566811a5ac"), looks := true }, kinds := [], alts := [], laidByText := true, laidKinds := [.data, .data, .data, .sentinel, .sentinel, .sentinel, .sentinel, .sentinel, .sentinel, .sentinel, .sentinel, .sentinel, .sentinel, .sentinel, .sentinel, .sentinel, .sentinel, .sentinel, .sentinel], laidTests := true, laidLooks := .later }
def ObjLimitsCardSaid : Prop := Claim7.holds Tryd.pinned (.plain (OpenSpec.ofChange objLimitsSpec)) objLimitsCard

/-- THE TIED CARD OF 'facadelaw10.SiteSays'. -/
def siteSaysCard : Claim7 := { stood := { row := siteSaysRow, standIns := [], harness := (true, "6bc59ee436fa30e401ef11ef26719d0bae35cfca6198135b58f428566811a5ac"), looks := true }, kinds := [], alts := [], laidByText := true, laidKinds := [.data, .data, .data, .sentinel, .sentinel, .sentinel, .sentinel, .sentinel, .sentinel, .sentinel, .sentinel, .sentinel, .sentinel, .sentinel, .sentinel, .sentinel, .sentinel, .sentinel, .sentinel], laidTests := true, laidLooks := .later }
def SiteSaysCardSaid : Prop := Claim7.holds Tryd.pinned (.plain (OpenSpec.ofChange siteSaysSpec)) siteSaysCard

/-- THE TIED CARD OF 'facadelaw10.SiteEach'. -/
def siteEachCard : Claim7 := { stood := { row := siteEachRow, standIns := [], harness := (true, "6bc59ee436fa30e401ef11ef26719d0bae35cfca6198135b58f428566811a5ac"), looks := true }, kinds := [], alts := [], laidByText := true, laidKinds := [.data, .data, .data, .sentinel, .sentinel, .sentinel, .sentinel, .sentinel, .sentinel, .sentinel], laidTests := true, laidLooks := .later }
def SiteEachCardSaid : Prop := Claim7.holds Tryd.pinned (.plain (OpenSpec.ofChange siteEachSpec)) siteEachCard

/-- THE SECOND FORM's CARD OF 'facadelaw1.IsaBack'. -/
def isaBackUptoCard : Claim7 := { stood := { row := isaBackUptoRow, standIns := [], harness := (true, "6bc59ee436fa30e401ef11ef26719d0bae35cfca6198135b58f428566811a5ac"), looks := true }, kinds := [], alts := [], laidByText := true, laidKinds := [.data, .data, .data], laidTests := true, laidLooks := .later }
def IsaBackUptoCardSaid : Prop := Claim7.holds Tryd.pinned (.plain (OpenSpec.upto isaBackSpec)) isaBackUptoCard

/-- THE SECOND FORM's CARD OF 'facadelaw1.IsaSays'. -/
def isaSaysUptoCard : Claim7 := { stood := { row := isaSaysUptoRow, standIns := [], harness := (true, "6bc59ee436fa30e401ef11ef26719d0bae35cfca6198135b58f428566811a5ac"), looks := true }, kinds := [], alts := [], laidByText := true, laidKinds := [.data, .data, .data], laidTests := true, laidLooks := .later }
def IsaSaysUptoCardSaid : Prop := Claim7.holds Tryd.pinned (.plain (OpenSpec.upto isaSaysSpec)) isaSaysUptoCard

/-- THE SECOND FORM's CARD OF 'facadelaw9.ObjBack'. -/
def objBackUptoCard : Claim7 := { stood := { row := objBackUptoRow, standIns := [], harness := (true, "6bc59ee436fa30e401ef11ef26719d0bae35cfca6198135b58f428566811a5ac"), looks := true }, kinds := [], alts := [], laidByText := true, laidKinds := [.sentinel, .sentinel, .sentinel, .sentinel, .sentinel, .sentinel, .sentinel, .sentinel, .sentinel, .sentinel, .sentinel, .sentinel, .sentinel, .sentinel, .sentinel, .sentinel], laidTests := true, laidLooks := .later }
def ObjBackUptoCardSaid : Prop := Claim7.holds Tryd.pinned (.plain (OpenSpec.upto objBackSpec)) objBackUptoCard

/-- THE SECOND FORM's CARD OF 'facadelaw9.ObjBent'. -/
def objBentUptoCard : Claim7 := { stood := { row := objBentUptoRow, standIns := [], harness := (true, "6bc59ee436fa30e401ef11ef26719d0bae35cfca6198135b58f428566811a5ac"), looks := true }, kinds := [], alts := [], laidByText := true, laidKinds := [.sentinel, .sentinel, .sentinel, .sentinel, .sentinel, .sentinel, .sentinel, .sentinel, .sentinel, .sentinel, .sentinel, .sentinel, .sentinel, .sentinel, .sentinel, .sentinel], laidTests := true, laidLooks := .later }
def ObjBentUptoCardSaid : Prop := Claim7.holds Tryd.pinned (.plain (OpenSpec.upto objBentSpec)) objBentUptoCard

/-- THE SECOND FORM's CARD OF 'facadelaw9.ObjLimits'. -/
def objLimitsUptoCard : Claim7 := { stood := { row := objLimitsUptoRow, standIns := [], harness := (true, "6bc59ee436fa30e401ef11ef26719d0bae35cfca6198135b58f428566811a5ac"), looks := true }, kinds := [], alts := [], laidByText := true, laidKinds := [.data, .data, .data, .sentinel, .sentinel, .sentinel, .sentinel, .sentinel, .sentinel, .sentinel, .sentinel, .sentinel, .sentinel, .sentinel, .sentinel, .sentinel, .sentinel, .sentinel, .sentinel], laidTests := true, laidLooks := .later }
def ObjLimitsUptoCardSaid : Prop := Claim7.holds Tryd.pinned (.plain (OpenSpec.upto objLimitsSpec)) objLimitsUptoCard

/-- THE SECOND FORM's CARD OF 'facadelaw10.SiteSays'. -/
def siteSaysUptoCard : Claim7 := { stood := { row := siteSaysUptoRow, standIns := [], harness := (true, "6bc59ee436fa30e401ef11ef26719d0bae35cfca6198135b58f428566811a5ac"), looks := true }, kinds := [], alts := [], laidByText := true, laidKinds := [.data, .data, .data, .sentinel, .sentinel, .sentinel, .sentinel, .sentinel, .sentinel, .sentinel, .sentinel, .sentinel, .sentinel, .sentinel, .sentinel, .sentinel, .sentinel, .sentinel, .sentinel], laidTests := true, laidLooks := .later }
def SiteSaysUptoCardSaid : Prop := Claim7.holds Tryd.pinned (.plain (OpenSpec.upto siteSaysSpec)) siteSaysUptoCard

/-- THE SECOND FORM's CARD OF 'facadelaw10.SiteEach'. -/
def siteEachUptoCard : Claim7 := { stood := { row := siteEachUptoRow, standIns := [], harness := (true, "6bc59ee436fa30e401ef11ef26719d0bae35cfca6198135b58f428566811a5ac"), looks := true }, kinds := [], alts := [], laidByText := true, laidKinds := [.data, .data, .data, .sentinel, .sentinel, .sentinel, .sentinel, .sentinel, .sentinel, .sentinel], laidTests := true, laidLooks := .later }
def SiteEachUptoCardSaid : Prop := Claim7.holds Tryd.pinned (.plain (OpenSpec.upto siteEachSpec)) siteEachUptoCard
end Rows
end Go.Proofs.YtceebkojjmmjmaaDoor
