/-
  DERIVED. GIVEN WITH THE SEED: THE CARDS: each row of YtmccdopagidfnaaDoorRows.lean that lists a variable, with what it lists TIED to the program's text (the seventh form; the later family's looks); each row that meets fmt, with fmt's text TOLD by the authors' own Lean function (tested against real Go, not proved from fmt's source: count such statements apart). THE CARD IS WHAT COUNTS. Prove the row's statement (the work); the ties are given (YtmccdopagidfnaaDoorTie.lean); close each card by the builder's one call (the guide's Derived/Test/ToyasCard.lean, 'card_holds'). Laid BY PROGRAM, IN A SANDBOX (cutbox-door.mjs). By AI agents, Wed Nov 11 2026. No macro, syntax, notation, axiom, sorry.
-/
import Derived.Test.YtmccdopagidfnaaDoorRows
import GoSem.ClaimSeven
namespace Go.Proofs.YtmccdopagidfnaaDoor
namespace Rows

/-- THE TIED CARD OF 'shalelaw01.FailTexts'. -/
def failTextsCard : Claim7 := { stood := { row := failTextsRow, standIns := [], harness := (true, "c28ba93441ca09cfa6e96acba68bba4a6ef29f40726fb41c852b764d04853ee9"), looks := true }, kinds := [], alts := [], laidByText := true, laidKinds := [.handle], laidTests := true, laidLooks := .later }
def FailTextsCardSaid : Prop := Claim7.holds Tryd.pinned (.plain (OpenSpec.ofChange failTextsSpec)) failTextsCard

/-- THE TIED CARD OF 'shalelaw01.FailTrails'. -/
def failTrailsCard : Claim7 := { stood := { row := failTrailsRow, standIns := [], harness := (true, "c28ba93441ca09cfa6e96acba68bba4a6ef29f40726fb41c852b764d04853ee9"), looks := true }, kinds := [], alts := [], laidByText := true, laidKinds := [.handle], laidTests := true, laidLooks := .later }
def FailTrailsCardSaid : Prop := Claim7.holds Tryd.pinned (.plain (OpenSpec.ofChange failTrailsSpec)) failTrailsCard

/-- THE TIED CARD OF 'shalelaw01.FailCodes'. -/
def failCodesCard : Claim7 := { stood := { row := failCodesRow, standIns := [], harness := (true, "c28ba93441ca09cfa6e96acba68bba4a6ef29f40726fb41c852b764d04853ee9"), looks := true }, kinds := [], alts := [], laidByText := true, laidKinds := [.handle], laidTests := true, laidLooks := .later }
def FailCodesCardSaid : Prop := Claim7.holds Tryd.pinned (.plain (OpenSpec.ofChange failCodesSpec)) failCodesCard

/-- THE TIED CARD OF 'shalelaw01.FailUnlike'. -/
def failUnlikeCard : Claim7 := { stood := { row := failUnlikeRow, standIns := [], harness := (true, "c28ba93441ca09cfa6e96acba68bba4a6ef29f40726fb41c852b764d04853ee9"), looks := true }, kinds := [], alts := [], laidByText := true, laidKinds := [.handle], laidTests := true, laidLooks := .later }
def FailUnlikeCardSaid : Prop := Claim7.holds Tryd.pinned (.plain (OpenSpec.ofChange failUnlikeSpec)) failUnlikeCard

/-- THE SECOND FORM's CARD OF 'shalelaw01.FailTexts'. -/
def failTextsUptoCard : Claim7 := { stood := { row := failTextsUptoRow, standIns := [], harness := (true, "c28ba93441ca09cfa6e96acba68bba4a6ef29f40726fb41c852b764d04853ee9"), looks := true }, kinds := [], alts := [], laidByText := true, laidKinds := [.handle], laidTests := true, laidLooks := .later }
def FailTextsUptoCardSaid : Prop := Claim7.holds Tryd.pinned (.plain (OpenSpec.upto failTextsSpec)) failTextsUptoCard

/-- THE SECOND FORM's CARD OF 'shalelaw01.FailTrails'. -/
def failTrailsUptoCard : Claim7 := { stood := { row := failTrailsUptoRow, standIns := [], harness := (true, "c28ba93441ca09cfa6e96acba68bba4a6ef29f40726fb41c852b764d04853ee9"), looks := true }, kinds := [], alts := [], laidByText := true, laidKinds := [.handle], laidTests := true, laidLooks := .later }
def FailTrailsUptoCardSaid : Prop := Claim7.holds Tryd.pinned (.plain (OpenSpec.upto failTrailsSpec)) failTrailsUptoCard

/-- THE SECOND FORM's CARD OF 'shalelaw01.FailCodes'. -/
def failCodesUptoCard : Claim7 := { stood := { row := failCodesUptoRow, standIns := [], harness := (true, "c28ba93441ca09cfa6e96acba68bba4a6ef29f40726fb41c852b764d04853ee9"), looks := true }, kinds := [], alts := [], laidByText := true, laidKinds := [.handle], laidTests := true, laidLooks := .later }
def FailCodesUptoCardSaid : Prop := Claim7.holds Tryd.pinned (.plain (OpenSpec.upto failCodesSpec)) failCodesUptoCard

/-- THE SECOND FORM's CARD OF 'shalelaw01.FailUnlike'. -/
def failUnlikeUptoCard : Claim7 := { stood := { row := failUnlikeUptoRow, standIns := [], harness := (true, "c28ba93441ca09cfa6e96acba68bba4a6ef29f40726fb41c852b764d04853ee9"), looks := true }, kinds := [], alts := [], laidByText := true, laidKinds := [.handle], laidTests := true, laidLooks := .later }
def FailUnlikeUptoCardSaid : Prop := Claim7.holds Tryd.pinned (.plain (OpenSpec.upto failUnlikeSpec)) failUnlikeUptoCard
end Rows
end Go.Proofs.YtmccdopagidfnaaDoor
