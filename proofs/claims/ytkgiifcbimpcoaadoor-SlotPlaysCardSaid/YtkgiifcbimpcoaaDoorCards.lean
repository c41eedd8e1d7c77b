/-
  DERIVED. GIVEN WITH THE SEED: THE CARDS: each row of YtkgiifcbimpcoaaDoorRows.lean that lists a variable, with what it lists TIED to the program's text (the seventh form; the later family's looks); each row that meets fmt, with fmt's text TOLD by the authors' own Lean function (tested against real Go, not proved from fmt's source: count such statements apart). THE CARD IS WHAT COUNTS. Prove the row's statement (the work); the ties are given (YtkgiifcbimpcoaaDoorTie.lean); close each card by the builder's one call (the guide's Derived/Test/ToyasCard.lean, 'card_holds'). Laid BY PROGRAM, IN A SANDBOX (cutbox-door.mjs). By AI agents, Wed Nov 11 2026. No macro, syntax, notation, axiom, sorry.
-/
import Derived.Test.YtkgiifcbimpcoaaDoorRows
import GoSem.ClaimSeven
namespace Go.Proofs.YtkgiifcbimpcoaaDoor
namespace Rows

/-- THE TIED CARD OF 'shalelaw19.SlotBack'. -/
def slotBackCard : Claim7 := { stood := { row := slotBackRow, standIns := [], harness := (true, "c514008e72a5516d929f34fa5683d1e3970a9fc2f726be8b25cd9fc1bc22d017"), looks := true }, kinds := [], alts := [], laidByText := true, laidKinds := [.handle], laidTests := true, laidLooks := .later }
def SlotBackCardSaid : Prop := Claim7.holds Tryd.pinned (.plain (OpenSpec.ofChange slotBackSpec)) slotBackCard

/-- THE TIED CARD OF 'shalelaw19.SlotPlays'. -/
def slotPlaysCard : Claim7 := { stood := { row := slotPlaysRow, standIns := [], harness := (true, "c514008e72a5516d929f34fa5683d1e3970a9fc2f726be8b25cd9fc1bc22d017"), looks := true }, kinds := [], alts := [], laidByText := true, laidKinds := [.handle], laidTests := true, laidLooks := .later }
def SlotPlaysCardSaid : Prop := Claim7.holds Tryd.pinned (.plain (OpenSpec.ofChange slotPlaysSpec)) slotPlaysCard

/-- THE TIED CARD OF 'shalelaw19.SlotBest'. -/
def slotBestCard : Claim7 := { stood := { row := slotBestRow, standIns := [], harness := (true, "c514008e72a5516d929f34fa5683d1e3970a9fc2f726be8b25cd9fc1bc22d017"), looks := true }, kinds := [], alts := [], laidByText := true, laidKinds := [.handle], laidTests := true, laidLooks := .later }
def SlotBestCardSaid : Prop := Claim7.holds Tryd.pinned (.plain (OpenSpec.ofChange slotBestSpec)) slotBestCard

/-- THE TIED CARD OF 'shalelaw19.SlotGreater'. -/
def slotGreaterCard : Claim7 := { stood := { row := slotGreaterRow, standIns := [], harness := (true, "c514008e72a5516d929f34fa5683d1e3970a9fc2f726be8b25cd9fc1bc22d017"), looks := true }, kinds := [], alts := [], laidByText := true, laidKinds := [.handle], laidTests := true, laidLooks := .later }
def SlotGreaterCardSaid : Prop := Claim7.holds Tryd.pinned (.plain (OpenSpec.ofChange slotGreaterSpec)) slotGreaterCard

/-- THE TIED CARD OF 'shalelaw19.SlotUnlike'. -/
def slotUnlikeCard : Claim7 := { stood := { row := slotUnlikeRow, standIns := [], harness := (true, "c514008e72a5516d929f34fa5683d1e3970a9fc2f726be8b25cd9fc1bc22d017"), looks := true }, kinds := [], alts := [], laidByText := true, laidKinds := [.handle], laidTests := true, laidLooks := .later }
def SlotUnlikeCardSaid : Prop := Claim7.holds Tryd.pinned (.plain (OpenSpec.ofChange slotUnlikeSpec)) slotUnlikeCard

/-- THE TIED CARD OF 'shalelaw19.SlotSwitches'. -/
def slotSwitchesCard : Claim7 := { stood := { row := slotSwitchesRow, standIns := [], harness := (true, "c514008e72a5516d929f34fa5683d1e3970a9fc2f726be8b25cd9fc1bc22d017"), looks := true }, kinds := [], alts := [], laidByText := true, laidKinds := [.handle], laidTests := true, laidLooks := .later }
def SlotSwitchesCardSaid : Prop := Claim7.holds Tryd.pinned (.plain (OpenSpec.ofChange slotSwitchesSpec)) slotSwitchesCard

/-- THE SECOND FORM's CARD OF 'shalelaw19.SlotBack'. -/
def slotBackUptoCard : Claim7 := { stood := { row := slotBackUptoRow, standIns := [], harness := (true, "c514008e72a5516d929f34fa5683d1e3970a9fc2f726be8b25cd9fc1bc22d017"), looks := true }, kinds := [], alts := [], laidByText := true, laidKinds := [.handle], laidTests := true, laidLooks := .later }
def SlotBackUptoCardSaid : Prop := Claim7.holds Tryd.pinned (.plain (OpenSpec.upto slotBackSpec)) slotBackUptoCard

/-- THE SECOND FORM's CARD OF 'shalelaw19.SlotPlays'. -/
def slotPlaysUptoCard : Claim7 := { stood := { row := slotPlaysUptoRow, standIns := [], harness := (true, "c514008e72a5516d929f34fa5683d1e3970a9fc2f726be8b25cd9fc1bc22d017"), looks := true }, kinds := [], alts := [], laidByText := true, laidKinds := [.handle], laidTests := true, laidLooks := .later }
def SlotPlaysUptoCardSaid : Prop := Claim7.holds Tryd.pinned (.plain (OpenSpec.upto slotPlaysSpec)) slotPlaysUptoCard

/-- THE SECOND FORM's CARD OF 'shalelaw19.SlotBest'. -/
def slotBestUptoCard : Claim7 := { stood := { row := slotBestUptoRow, standIns := [], harness := (true, "c514008e72a5516d929f34fa5683d1e3970a9fc2f726be8b25cd9fc1bc22d017"), looks := true }, kinds := [], alts := [], laidByText := true, laidKinds := [.handle], laidTests := true, laidLooks := .later }
def SlotBestUptoCardSaid : Prop := Claim7.holds Tryd.pinned (.plain (OpenSpec.upto slotBestSpec)) slotBestUptoCard

/-- THE SECOND FORM's CARD OF 'shalelaw19.SlotGreater'. -/
def slotGreaterUptoCard : Claim7 := { stood := { row := slotGreaterUptoRow, standIns := [], harness := (true, "c514008e72a5516d929f34fa5683d1e3970a9fc2f726be8b25cd9fc1bc22d017"), looks := true }, kinds := [], alts := [], laidByText := true, laidKinds := [.handle], laidTests := true, laidLooks := .later }
def SlotGreaterUptoCardSaid : Prop := Claim7.holds Tryd.pinned (.plain (OpenSpec.upto slotGreaterSpec)) slotGreaterUptoCard

/-- THE SECOND FORM's CARD OF 'shalelaw19.SlotUnlike'. -/
def slotUnlikeUptoCard : Claim7 := { stood := { row := slotUnlikeUptoRow, standIns := [], harness := (true, "c514008e72a5516d929f34fa5683d1e3970a9fc2f726be8b25cd9fc1bc22d017"), looks := true }, kinds := [], alts := [], laidByText := true, laidKinds := [.handle], laidTests := true, laidLooks := .later }
def SlotUnlikeUptoCardSaid : Prop := Claim7.holds Tryd.pinned (.plain (OpenSpec.upto slotUnlikeSpec)) slotUnlikeUptoCard

/-- THE SECOND FORM's CARD OF 'shalelaw19.SlotSwitches'. -/
def slotSwitchesUptoCard : Claim7 := { stood := { row := slotSwitchesUptoRow, standIns := [], harness := (true, "c514008e72a5516d929f34fa5683d1e3970a9fc2f726be8b25cd9fc1bc22d017"), looks := true }, kinds := [], alts := [], laidByText := true, laidKinds := [.handle], laidTests := true, laidLooks := .later }
def SlotSwitchesUptoCardSaid : Prop := Claim7.holds Tryd.pinned (.plain (OpenSpec.upto slotSwitchesSpec)) slotSwitchesUptoCard
end Rows
end Go.Proofs.YtkgiifcbimpcoaaDoor
