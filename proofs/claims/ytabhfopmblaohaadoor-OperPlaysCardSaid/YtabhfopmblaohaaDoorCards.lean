/-
  DERIVED. GIVEN WITH THE SEED: THE CARDS: each row of YtabhfopmblaohaaDoorRows.lean that lists a variable, with what it lists TIED to the program's text (the seventh form; the later family's looks); each row that meets fmt, with fmt's text TOLD by the authors' own Lean function (tested against real Go, not proved from fmt's source: count such statements apart). THE CARD IS WHAT COUNTS. Prove the row's statement (the work); the ties are given (YtabhfopmblaohaaDoorTie.lean); close each card by the builder's one call (the guide's Derived/Test/ToyasCard.lean, 'card_holds'). Laid BY PROGRAM, IN A SANDBOX (cutbox-door.mjs). By AI agents, Wed Nov 11 2026. No macro, syntax, notation, axiom, sorry.
-/
import Derived.Test.YtabhfopmblaohaaDoorRows
import GoSem.ClaimSeven
namespace Go.Proofs.YtabhfopmblaohaaDoor
namespace Rows

/-- THE TIED CARD OF 'shalelaw18.OperUnlike'. -/
def operUnlikeCard : Claim7 := { stood := { row := operUnlikeRow, standIns := [], harness := (true, "61c74b2247518fb033d334c0acfd53674c584ac683ce96c4ed4e690b9b0c5481"), looks := true }, kinds := [], alts := [], laidByText := true, laidKinds := [.handle], laidTests := true, laidLooks := .later }
def OperUnlikeCardSaid : Prop := Claim7.holds Tryd.pinned (.plain (OpenSpec.ofChange operUnlikeSpec)) operUnlikeCard

/-- THE TIED CARD OF 'shalelaw18.OperPlays'. -/
def operPlaysCard : Claim7 := { stood := { row := operPlaysRow, standIns := [], harness := (true, "61c74b2247518fb033d334c0acfd53674c584ac683ce96c4ed4e690b9b0c5481"), looks := true }, kinds := [], alts := [], laidByText := true, laidKinds := [.handle], laidTests := true, laidLooks := .later }
def OperPlaysCardSaid : Prop := Claim7.holds Tryd.pinned (.plain (OpenSpec.ofChange operPlaysSpec)) operPlaysCard

/-- THE TIED CARD OF 'shalelaw18.OperBack'. -/
def operBackCard : Claim7 := { stood := { row := operBackRow, standIns := [], harness := (true, "61c74b2247518fb033d334c0acfd53674c584ac683ce96c4ed4e690b9b0c5481"), looks := true }, kinds := [], alts := [], laidByText := true, laidKinds := [.handle], laidTests := true, laidLooks := .later }
def OperBackCardSaid : Prop := Claim7.holds Tryd.pinned (.plain (OpenSpec.ofChange operBackSpec)) operBackCard

/-- THE TIED CARD OF 'shalelaw18.OperOnly'. -/
def operOnlyCard : Claim7 := { stood := { row := operOnlyRow, standIns := [], harness := (true, "61c74b2247518fb033d334c0acfd53674c584ac683ce96c4ed4e690b9b0c5481"), looks := true }, kinds := [], alts := [], laidByText := true, laidKinds := [.handle], laidTests := true, laidLooks := .later }
def OperOnlyCardSaid : Prop := Claim7.holds Tryd.pinned (.plain (OpenSpec.ofChange operOnlySpec)) operOnlyCard

/-- THE TIED CARD OF 'shalelaw18.OperSpoilt'. -/
def operSpoiltCard : Claim7 := { stood := { row := operSpoiltRow, standIns := [], harness := (true, "61c74b2247518fb033d334c0acfd53674c584ac683ce96c4ed4e690b9b0c5481"), looks := true }, kinds := [], alts := [], laidByText := true, laidKinds := [.handle], laidTests := true, laidLooks := .later }
def OperSpoiltCardSaid : Prop := Claim7.holds Tryd.pinned (.plain (OpenSpec.ofChange operSpoiltSpec)) operSpoiltCard

/-- THE SECOND FORM's CARD OF 'shalelaw18.OperUnlike'. -/
def operUnlikeUptoCard : Claim7 := { stood := { row := operUnlikeUptoRow, standIns := [], harness := (true, "61c74b2247518fb033d334c0acfd53674c584ac683ce96c4ed4e690b9b0c5481"), looks := true }, kinds := [], alts := [], laidByText := true, laidKinds := [.handle], laidTests := true, laidLooks := .later }
def OperUnlikeUptoCardSaid : Prop := Claim7.holds Tryd.pinned (.plain (OpenSpec.upto operUnlikeSpec)) operUnlikeUptoCard

/-- THE SECOND FORM's CARD OF 'shalelaw18.OperPlays'. -/
def operPlaysUptoCard : Claim7 := { stood := { row := operPlaysUptoRow, standIns := [], harness := (true, "61c74b2247518fb033d334c0acfd53674c584ac683ce96c4ed4e690b9b0c5481"), looks := true }, kinds := [], alts := [], laidByText := true, laidKinds := [.handle], laidTests := true, laidLooks := .later }
def OperPlaysUptoCardSaid : Prop := Claim7.holds Tryd.pinned (.plain (OpenSpec.upto operPlaysSpec)) operPlaysUptoCard

/-- THE SECOND FORM's CARD OF 'shalelaw18.OperBack'. -/
def operBackUptoCard : Claim7 := { stood := { row := operBackUptoRow, standIns := [], harness := (true, "61c74b2247518fb033d334c0acfd53674c584ac683ce96c4ed4e690b9b0c5481"), looks := true }, kinds := [], alts := [], laidByText := true, laidKinds := [.handle], laidTests := true, laidLooks := .later }
def OperBackUptoCardSaid : Prop := Claim7.holds Tryd.pinned (.plain (OpenSpec.upto operBackSpec)) operBackUptoCard

/-- THE SECOND FORM's CARD OF 'shalelaw18.OperOnly'. -/
def operOnlyUptoCard : Claim7 := { stood := { row := operOnlyUptoRow, standIns := [], harness := (true, "61c74b2247518fb033d334c0acfd53674c584ac683ce96c4ed4e690b9b0c5481"), looks := true }, kinds := [], alts := [], laidByText := true, laidKinds := [.handle], laidTests := true, laidLooks := .later }
def OperOnlyUptoCardSaid : Prop := Claim7.holds Tryd.pinned (.plain (OpenSpec.upto operOnlySpec)) operOnlyUptoCard

/-- THE SECOND FORM's CARD OF 'shalelaw18.OperSpoilt'. -/
def operSpoiltUptoCard : Claim7 := { stood := { row := operSpoiltUptoRow, standIns := [], harness := (true, "61c74b2247518fb033d334c0acfd53674c584ac683ce96c4ed4e690b9b0c5481"), looks := true }, kinds := [], alts := [], laidByText := true, laidKinds := [.handle], laidTests := true, laidLooks := .later }
def OperSpoiltUptoCardSaid : Prop := Claim7.holds Tryd.pinned (.plain (OpenSpec.upto operSpoiltSpec)) operSpoiltUptoCard
end Rows
end Go.Proofs.YtabhfopmblaohaaDoor
