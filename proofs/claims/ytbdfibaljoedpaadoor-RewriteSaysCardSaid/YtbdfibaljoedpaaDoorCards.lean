/-
  DERIVED. GIVEN WITH THE SEED: THE CARDS: each row of YtbdfibaljoedpaaDoorRows.lean that lists a variable, with what it lists TIED to the program's text (the seventh form; the later family's looks); each row that meets fmt, with fmt's text TOLD by the authors' own Lean function (tested against real Go, not proved from fmt's source: count such statements apart). THE CARD IS WHAT COUNTS. Prove the row's statement (the work); the ties are given (YtbdfibaljoedpaaDoorTie.lean); close each card by the builder's one call (the guide's Derived/Test/ToyasCard.lean, 'card_holds'). Laid BY PROGRAM, IN A SANDBOX (cutbox-door.mjs). By AI agents, Wed Nov 11 2026. No macro, syntax, notation, axiom, sorry.
-/
import Derived.Test.YtbdfibaljoedpaaDoorRows
import GoSem.ClaimSeven
namespace Go.Proofs.YtbdfibaljoedpaaDoor
namespace Rows

/-- THE TIED CARD OF 'facadelaw10.SiteFinds'. -/
def siteFindsCard : Claim7 := { stood := { row := siteFindsRow, standIns := [], harness := (true, "61a8febd62a127204d2d5cee8873fe1dc5d77530d4658f6bb7a9f24dc898b0e5"), looks := true }, kinds := [], alts := [], laidByText := true, laidKinds := [.sentinel, .sentinel, .sentinel, .sentinel, .sentinel, .sentinel, .sentinel], laidTests := true, laidLooks := .later }
def SiteFindsCardSaid : Prop := Claim7.holds Tryd.pinned (.plain (OpenSpec.ofChange siteFindsSpec)) siteFindsCard

/-- THE TIED CARD OF 'facadelaw9.ObjWrong'. -/
def objWrongCard : Claim7 := { stood := { row := objWrongRow, standIns := [], harness := (true, "61a8febd62a127204d2d5cee8873fe1dc5d77530d4658f6bb7a9f24dc898b0e5"), looks := true }, kinds := [], alts := [], laidByText := true, laidKinds := [.sentinel, .sentinel, .sentinel, .sentinel, .sentinel, .sentinel, .sentinel, .sentinel, .sentinel, .sentinel, .sentinel, .sentinel, .sentinel, .sentinel, .sentinel, .sentinel], laidTests := true, laidLooks := .later }
def ObjWrongCardSaid : Prop := Claim7.holds Tryd.pinned (.plain (OpenSpec.ofChange objWrongSpec)) objWrongCard

/-- THE TIED CARD OF 'facadelaw9.ObjOwn'. -/
def objOwnCard : Claim7 := { stood := { row := objOwnRow, standIns := [], harness := (true, "61a8febd62a127204d2d5cee8873fe1dc5d77530d4658f6bb7a9f24dc898b0e5"), looks := true }, kinds := [], alts := [], laidByText := true, laidKinds := [.sentinel, .sentinel, .sentinel, .sentinel, .sentinel, .sentinel, .sentinel], laidTests := true, laidLooks := .later }
def ObjOwnCardSaid : Prop := Claim7.holds Tryd.pinned (.plain (OpenSpec.ofChange objOwnSpec)) objOwnCard

/-- THE TIED CARD OF 'facadelaw11.RewriteLong'. -/
def rewriteLongCard : Claim7 := { stood := { row := rewriteLongRow, standIns := [], harness := (true, "61a8febd62a127204d2d5cee8873fe1dc5d77530d4658f6bb7a9f24dc898b0e5"), looks := true }, kinds := [], alts := [], laidByText := true, laidKinds := [.sentinel, .sentinel, .sentinel, .sentinel, .sentinel, .sentinel, .sentinel, .sentinel, .sentinel, .sentinel, .sentinel, .sentinel, .sentinel, .sentinel, .sentinel, .sentinel], laidTests := true, laidLooks := .later }
def RewriteLongCardSaid : Prop := Claim7.holds Tryd.pinned (.plain (OpenSpec.ofChange rewriteLongSpec)) rewriteLongCard

/-- THE TIED CARD OF 'facadelaw11.RewriteKeeps'. -/
def rewriteKeepsCard : Claim7 := { stood := { row := rewriteKeepsRow, standIns := [], harness := (true, "61a8febd62a127204d2d5cee8873fe1dc5d77530d4658f6bb7a9f24dc898b0e5"), looks := true }, kinds := [], alts := [], laidByText := true, laidKinds := [.sentinel, .sentinel, .sentinel, .sentinel, .sentinel, .sentinel, .sentinel], laidTests := true, laidLooks := .later }
def RewriteKeepsCardSaid : Prop := Claim7.holds Tryd.pinned (.plain (OpenSpec.ofChange rewriteKeepsSpec)) rewriteKeepsCard

/-- THE TIED CARD OF 'facadelaw11.RewriteMarks'. -/
def rewriteMarksCard : Claim7 := { stood := { row := rewriteMarksRow, standIns := [], harness := (true, "61a8febd62a127204d2d5cee8873fe1dc5d77530d4658f6bb7a9f24dc898b0e5"), looks := true }, kinds := [], alts := [], laidByText := true, laidKinds := [.sentinel, .sentinel, .sentinel, .sentinel, .sentinel, .sentinel, .sentinel], laidTests := true, laidLooks := .later }
def RewriteMarksCardSaid : Prop := Claim7.holds Tryd.pinned (.plain (OpenSpec.ofChange rewriteMarksSpec)) rewriteMarksCard

/-- THE TIED CARD OF 'facadelaw11.RewriteOnce'. -/
def rewriteOnceCard : Claim7 := { stood := { row := rewriteOnceRow, standIns := [], harness := (true, "61a8febd62a127204d2d5cee8873fe1dc5d77530d4658f6bb7a9f24dc898b0e5"), looks := true }, kinds := [], alts := [], laidByText := true, laidKinds := [.sentinel, .sentinel, .sentinel, .sentinel, .sentinel, .sentinel, .sentinel, .sentinel, .sentinel, .sentinel, .sentinel, .sentinel, .sentinel, .sentinel, .sentinel, .sentinel], laidTests := true, laidLooks := .later }
def RewriteOnceCardSaid : Prop := Claim7.holds Tryd.pinned (.plain (OpenSpec.ofChange rewriteOnceSpec)) rewriteOnceCard

/-- THE TIED CARD OF 'facadelaw11.RewriteSays'. -/
def rewriteSaysCard : Claim7 := { stood := { row := rewriteSaysRow, standIns := [], harness := (true, "61a8febd62a127204d2d5cee8873fe1dc5d77530d4658f6bb7a9f24dc898b0e5"), looks := true }, kinds := [], alts := [], laidByText := true, laidKinds := [.sentinel, .sentinel, .sentinel, .sentinel, .sentinel, .sentinel, .sentinel, .sentinel, .sentinel, .sentinel, .sentinel, .sentinel, .sentinel, .sentinel, .sentinel, .sentinel], laidTests := true, laidLooks := .later }
def RewriteSaysCardSaid : Prop := Claim7.holds Tryd.pinned (.plain (OpenSpec.ofChange rewriteSaysSpec)) rewriteSaysCard

/-- THE TIED CARD OF 'facadelaw9.ObjBack'. -/
def objBackCard : Claim7 := { stood := { row := objBackRow, standIns := [], harness := (true, "61a8febd62a127204d2d5cee8873fe1dc5d77530d4658f6bb7a9f24dc898b0e5"), looks := true }, kinds := [], alts := [], laidByText := true, laidKinds := [.sentinel, .sentinel, .sentinel, .sentinel, .sentinel, .sentinel, .sentinel, .sentinel, .sentinel, .sentinel, .sentinel, .sentinel, .sentinel, .sentinel, .sentinel, .sentinel], laidTests := true, laidLooks := .later }
def ObjBackCardSaid : Prop := Claim7.holds Tryd.pinned (.plain (OpenSpec.ofChange objBackSpec)) objBackCard

/-- THE TIED CARD OF 'facadelaw9.ObjBent'. -/
def objBentCard : Claim7 := { stood := { row := objBentRow, standIns := [], harness := (true, "61a8febd62a127204d2d5cee8873fe1dc5d77530d4658f6bb7a9f24dc898b0e5"), looks := true }, kinds := [], alts := [], laidByText := true, laidKinds := [.sentinel, .sentinel, .sentinel, .sentinel, .sentinel, .sentinel, .sentinel, .sentinel, .sentinel, .sentinel, .sentinel, .sentinel, .sentinel, .sentinel, .sentinel, .sentinel], laidTests := true, laidLooks := .later }
def ObjBentCardSaid : Prop := Claim7.holds Tryd.pinned (.plain (OpenSpec.ofChange objBentSpec)) objBentCard

/-- THE TIED CARD OF 'facadelaw9.ObjLimits'. -/
def objLimitsCard : Claim7 := { stood := { row := objLimitsRow, standIns := [], harness := (true, "61a8febd62a127204d2d5cee8873fe1dc5d77530d4658f6bb7a9f24dc898b0e5"), looks := true }, kinds := [], alts := [], laidByText := true, laidKinds := [.data, .data, .data, .sentinel, .sentinel, .sentinel, .sentinel, .sentinel, .sentinel, .sentinel, .sentinel, .sentinel, .sentinel, .sentinel, .sentinel, .sentinel, .sentinel, .sentinel, .sentinel], laidTests := true, laidLooks := .later }
def ObjLimitsCardSaid : Prop := Claim7.holds Tryd.pinned (.plain (OpenSpec.ofChange objLimitsSpec)) objLimitsCard

/-- THE TIED CARD OF 'facadelaw10.SiteSays'. -/
def siteSaysCard : Claim7 := { stood := { row := siteSaysRow, standIns := [], harness := (true, "61a8febd62a127204d2d5cee8873fe1dc5d77530d4658f6bb7a9f24dc898b0e5"), looks := true }, kinds := [], alts := [], laidByText := true, laidKinds := [.data, .data, .data, .sentinel, .sentinel, .sentinel, .sentinel, .sentinel, .sentinel, .sentinel, .sentinel, .sentinel, .sentinel, .sentinel, .sentinel, .sentinel, .sentinel, .sentinel, .sentinel], laidTests := true, laidLooks := .later }
def SiteSaysCardSaid : Prop := Claim7.holds Tryd.pinned (.plain (OpenSpec.ofChange siteSaysSpec)) siteSaysCard

/-- THE TIED CARD OF 'facadelaw10.SiteEach'. -/
def siteEachCard : Claim7 := { stood := { row := siteEachRow, standIns := [], harness := (true, "61a8febd62a127204d2d5cee8873fe1dc5d77530d4658f6bb7a9f24dc898b0e5"), looks := true }, kinds := [], alts := [], laidByText := true, laidKinds := [.data, .data, .data, .sentinel, .sentinel, .sentinel, .sentinel, .sentinel, .sentinel, .sentinel], laidTests := true, laidLooks := .later }
def SiteEachCardSaid : Prop := Claim7.holds Tryd.pinned (.plain (OpenSpec.ofChange siteEachSpec)) siteEachCard

/-- THE SECOND FORM's CARD OF 'facadelaw10.SiteFinds'. -/
def siteFindsUptoCard : Claim7 := { stood := { row := siteFindsUptoRow, standIns := [], harness := (true, "61a8febd62a127204d2d5cee8873fe1dc5d77530d4658f6bb7a9f24dc898b0e5"), looks := true }, kinds := [], alts := [], laidByText := true, laidKinds := [.sentinel, .sentinel, .sentinel, .sentinel, .sentinel, .sentinel, .sentinel], laidTests := true, laidLooks := .later }
def SiteFindsUptoCardSaid : Prop := Claim7.holds Tryd.pinned (.plain (OpenSpec.upto siteFindsSpec)) siteFindsUptoCard

/-- THE SECOND FORM's CARD OF 'facadelaw9.ObjWrong'. -/
def objWrongUptoCard : Claim7 := { stood := { row := objWrongUptoRow, standIns := [], harness := (true, "61a8febd62a127204d2d5cee8873fe1dc5d77530d4658f6bb7a9f24dc898b0e5"), looks := true }, kinds := [], alts := [], laidByText := true, laidKinds := [.sentinel, .sentinel, .sentinel, .sentinel, .sentinel, .sentinel, .sentinel, .sentinel, .sentinel, .sentinel, .sentinel, .sentinel, .sentinel, .sentinel, .sentinel, .sentinel], laidTests := true, laidLooks := .later }
def ObjWrongUptoCardSaid : Prop := Claim7.holds Tryd.pinned (.plain (OpenSpec.upto objWrongSpec)) objWrongUptoCard

/-- THE SECOND FORM's CARD OF 'facadelaw9.ObjOwn'. -/
def objOwnUptoCard : Claim7 := { stood := { row := objOwnUptoRow, standIns := [], harness := (true, "61a8febd62a127204d2d5cee8873fe1dc5d77530d4658f6bb7a9f24dc898b0e5"), looks := true }, kinds := [], alts := [], laidByText := true, laidKinds := [.sentinel, .sentinel, .sentinel, .sentinel, .sentinel, .sentinel, .sentinel], laidTests := true, laidLooks := .later }
def ObjOwnUptoCardSaid : Prop := Claim7.holds Tryd.pinned (.plain (OpenSpec.upto objOwnSpec)) objOwnUptoCard

/-- THE SECOND FORM's CARD OF 'facadelaw11.RewriteLong'. -/
def rewriteLongUptoCard : Claim7 := { stood := { row := rewriteLongUptoRow, standIns := [], harness := (true, "61a8febd62a127204d2d5cee8873fe1dc5d77530d4658f6bb7a9f24dc898b0e5"), looks := true }, kinds := [], alts := [], laidByText := true, laidKinds := [.sentinel, .sentinel, .sentinel, .sentinel, .sentinel, .sentinel, .sentinel, .sentinel, .sentinel, .sentinel, .sentinel, .sentinel, .sentinel, .sentinel, .sentinel, .sentinel], laidTests := true, laidLooks := .later }
def RewriteLongUptoCardSaid : Prop := Claim7.holds Tryd.pinned (.plain (OpenSpec.upto rewriteLongSpec)) rewriteLongUptoCard

/-- THE SECOND FORM's CARD OF 'facadelaw11.RewriteKeeps'. -/
def rewriteKeepsUptoCard : Claim7 := { stood := { row := rewriteKeepsUptoRow, standIns := [], harness := (true, "61a8febd62a127204d2d5cee8873fe1dc5d77530d4658f6bb7a9f24dc898b0e5"), looks := true }, kinds := [], alts := [], laidByText := true, laidKinds := [.sentinel, .sentinel, .sentinel, .sentinel, .sentinel, .sentinel, .sentinel], laidTests := true, laidLooks := .later }
def RewriteKeepsUptoCardSaid : Prop := Claim7.holds Tryd.pinned (.plain (OpenSpec.upto rewriteKeepsSpec)) rewriteKeepsUptoCard

/-- THE SECOND FORM's CARD OF 'facadelaw11.RewriteMarks'. -/
def rewriteMarksUptoCard : Claim7 := { stood := { row := rewriteMarksUptoRow, standIns := [], harness := (true, "61a8febd62a127204d2d5cee8873fe1dc5d77530d4658f6bb7a9f24dc898b0e5"), looks := true }, kinds := [], alts := [], laidByText := true, laidKinds := [.sentinel, .sentinel, .sentinel, .sentinel, .sentinel, .sentinel, .sentinel], laidTests := true, laidLooks := .later }
def RewriteMarksUptoCardSaid : Prop := Claim7.holds Tryd.pinned (.plain (OpenSpec.upto rewriteMarksSpec)) rewriteMarksUptoCard

/-- THE SECOND FORM's CARD OF 'facadelaw11.RewriteOnce'. -/
def rewriteOnceUptoCard : Claim7 := { stood := { row := rewriteOnceUptoRow, standIns := [], harness := (true, "61a8febd62a127204d2d5cee8873fe1dc5d77530d4658f6bb7a9f24dc898b0e5"), looks := true }, kinds := [], alts := [], laidByText := true, laidKinds := [.sentinel, .sentinel, .sentinel, .sentinel, .sentinel, .sentinel, .sentinel, .sentinel, .sentinel, .sentinel, .sentinel, .sentinel, .sentinel, .sentinel, .sentinel, .sentinel], laidTests := true, laidLooks := .later }
def RewriteOnceUptoCardSaid : Prop := Claim7.holds Tryd.pinned (.plain (OpenSpec.upto rewriteOnceSpec)) rewriteOnceUptoCard

/-- THE SECOND FORM's CARD OF 'facadelaw11.RewriteSays'. -/
def rewriteSaysUptoCard : Claim7 := { stood := { row := rewriteSaysUptoRow, standIns := [], harness := (true, "61a8febd62a127204d2d5cee8873fe1dc5d77530d4658f6bb7a9f24dc898b0e5"), looks := true }, kinds := [], alts := [], laidByText := true, laidKinds := [.sentinel, .sentinel, .sentinel, .sentinel, .sentinel, .sentinel, .sentinel, .sentinel, .sentinel, .sentinel, .sentinel, .sentinel, .sentinel, .sentinel, .sentinel, .sentinel], laidTests := true, laidLooks := .later }
def RewriteSaysUptoCardSaid : Prop := Claim7.holds Tryd.pinned (.plain (OpenSpec.upto rewriteSaysSpec)) rewriteSaysUptoCard

/-- THE SECOND FORM's CARD OF 'facadelaw9.ObjBack'. -/
def objBackUptoCard : Claim7 := { stood := { row := objBackUptoRow, standIns := [], harness := (true, "61a8febd62a127204d2d5cee8873fe1dc5d77530d4658f6bb7a9f24dc898b0e5"), looks := true }, kinds := [], alts := [], laidByText := true, laidKinds := [.sentinel, .sentinel, .sentinel, .sentinel, .sentinel, .sentinel, .sentinel, .sentinel, .sentinel, .sentinel, .sentinel, .sentinel, .sentinel, .sentinel, .sentinel, .sentinel], laidTests := true, laidLooks := .later }
def ObjBackUptoCardSaid : Prop := Claim7.holds Tryd.pinned (.plain (OpenSpec.upto objBackSpec)) objBackUptoCard

/-- THE SECOND FORM's CARD OF 'facadelaw9.ObjBent'. -/
def objBentUptoCard : Claim7 := { stood := { row := objBentUptoRow, standIns := [], harness := (true, "61a8febd62a127204d2d5cee8873fe1dc5d77530d4658f6bb7a9f24dc898b0e5"), looks := true }, kinds := [], alts := [], laidByText := true, laidKinds := [.sentinel, .sentinel, .sentinel, .sentinel, .sentinel, .sentinel, .sentinel, .sentinel, .sentinel, .sentinel, .sentinel, .sentinel, .sentinel, .sentinel, .sentinel, .sentinel], laidTests := true, laidLooks := .later }
def ObjBentUptoCardSaid : Prop := Claim7.holds Tryd.pinned (.plain (OpenSpec.upto objBentSpec)) objBentUptoCard

/-- THE SECOND FORM's CARD OF 'facadelaw9.ObjLimits'. -/
def objLimitsUptoCard : Claim7 := { stood := { row := objLimitsUptoRow, standIns := [], harness := (true, "61a8febd62a127204d2d5cee8873fe1dc5d77530d4658f6bb7a9f24dc898b0e5"), looks := true }, kinds := [], alts := [], laidByText := true, laidKinds := [.data, .data, .data, .sentinel, .sentinel, .sentinel, .sentinel, .sentinel, .sentinel, .sentinel, .sentinel, .sentinel, .sentinel, .sentinel, .sentinel, .sentinel, .sentinel, .sentinel, .sentinel], laidTests := true, laidLooks := .later }
def ObjLimitsUptoCardSaid : Prop := Claim7.holds Tryd.pinned (.plain (OpenSpec.upto objLimitsSpec)) objLimitsUptoCard

/-- THE SECOND FORM's CARD OF 'facadelaw10.SiteSays'. -/
def siteSaysUptoCard : Claim7 := { stood := { row := siteSaysUptoRow, standIns := [], harness := (true, "61a8febd62a127204d2d5cee8873fe1dc5d77530d4658f6bb7a9f24dc898b0e5"), looks := true }, kinds := [], alts := [], laidByText := true, laidKinds := [.data, .data, .data, .sentinel, .sentinel, .sentinel, .sentinel, .sentinel, .sentinel, .sentinel, .sentinel, .sentinel, .sentinel, .sentinel, .sentinel, .sentinel, .sentinel, .sentinel, .sentinel], laidTests := true, laidLooks := .later }
def SiteSaysUptoCardSaid : Prop := Claim7.holds Tryd.pinned (.plain (OpenSpec.upto siteSaysSpec)) siteSaysUptoCard

/-- THE SECOND FORM's CARD OF 'facadelaw10.SiteEach'. -/
def siteEachUptoCard : Claim7 := { stood := { row := siteEachUptoRow, standIns := [], harness := (true, "61a8febd62a127204d2d5cee8873fe1dc5d77530d4658f6bb7a9f24dc898b0e5"), looks := true }, kinds := [], alts := [], laidByText := true, laidKinds := [.data, .data, .data, .sentinel, .sentinel, .sentinel, .sentinel, .sentinel, .sentinel, .sentinel], laidTests := true, laidLooks := .later }
def SiteEachUptoCardSaid : Prop := Claim7.holds Tryd.pinned (.plain (OpenSpec.upto siteEachSpec)) siteEachUptoCard
end Rows
end Go.Proofs.YtbdfibaljoedpaaDoor
