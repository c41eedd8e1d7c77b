/-
  DERIVED. GIVEN WITH THE SEED: THE CARDS: each row of YtpijilfkmkdghaaDoorRows.lean that lists a variable, with what it lists TIED to the program's text (the seventh form; the later family's looks); each row that meets fmt, with fmt's text TOLD by the authors' own Lean function (tested against real Go, not proved from fmt's source: count such statements apart). THE CARD IS WHAT COUNTS. Prove the row's statement (the work); the ties are given (YtpijilfkmkdghaaDoorTie.lean); close each card by the builder's one call (the guide's Derived/Test/ToyasCard.lean, 'card_holds'). Laid BY PROGRAM, IN A SANDBOX (cutbox-door.mjs). By AI agents, Wed Nov 11 2026. No macro, syntax, notation, axiom, sorry.
-/
import Derived.Test.YtpijilfkmkdghaaDoorRows
import GoSem.ClaimSeven
namespace Go.Proofs.YtpijilfkmkdghaaDoor
namespace Rows

/-- THE TIED CARD OF 'shalelaw20.ManiUses'. -/
def maniUsesCard : Claim7 := { stood := { row := maniUsesRow, standIns := [], harness := (true, "68e92a2ef6ab97849d4a0fdf72940191383d18ec1243654172e4bb14ea5d2684"), looks := true }, kinds := [], alts := [], laidByText := true, laidKinds := [.handle], laidTests := true, laidLooks := .later }
def ManiUsesCardSaid : Prop := Claim7.holds Tryd.pinned (.plain (OpenSpec.ofChange maniUsesSpec)) maniUsesCard

/-- THE TIED CARD OF 'shalelaw20.ManiDrops'. -/
def maniDropsCard : Claim7 := { stood := { row := maniDropsRow, standIns := [], harness := (true, "68e92a2ef6ab97849d4a0fdf72940191383d18ec1243654172e4bb14ea5d2684"), looks := true }, kinds := [], alts := [], laidByText := true, laidKinds := [.handle], laidTests := true, laidLooks := .later }
def ManiDropsCardSaid : Prop := Claim7.holds Tryd.pinned (.plain (OpenSpec.ofChange maniDropsSpec)) maniDropsCard

/-- THE TIED CARD OF 'shalelaw20.ManiBack'. -/
def maniBackCard : Claim7 := { stood := { row := maniBackRow, standIns := [], harness := (true, "68e92a2ef6ab97849d4a0fdf72940191383d18ec1243654172e4bb14ea5d2684"), looks := true }, kinds := [], alts := [], laidByText := true, laidKinds := [.handle], laidTests := true, laidLooks := .later }
def ManiBackCardSaid : Prop := Claim7.holds Tryd.pinned (.plain (OpenSpec.ofChange maniBackSpec)) maniBackCard

/-- THE TIED CARD OF 'shalelaw20.ManiReads'. -/
def maniReadsCard : Claim7 := { stood := { row := maniReadsRow, standIns := [], harness := (true, "68e92a2ef6ab97849d4a0fdf72940191383d18ec1243654172e4bb14ea5d2684"), looks := true }, kinds := [], alts := [], laidByText := true, laidKinds := [.handle], laidTests := true, laidLooks := .later }
def ManiReadsCardSaid : Prop := Claim7.holds Tryd.pinned (.plain (OpenSpec.ofChange maniReadsSpec)) maniReadsCard

/-- THE SECOND FORM's CARD OF 'shalelaw20.ManiUses'. -/
def maniUsesUptoCard : Claim7 := { stood := { row := maniUsesUptoRow, standIns := [], harness := (true, "68e92a2ef6ab97849d4a0fdf72940191383d18ec1243654172e4bb14ea5d2684"), looks := true }, kinds := [], alts := [], laidByText := true, laidKinds := [.handle], laidTests := true, laidLooks := .later }
def ManiUsesUptoCardSaid : Prop := Claim7.holds Tryd.pinned (.plain (OpenSpec.upto maniUsesSpec)) maniUsesUptoCard

/-- THE SECOND FORM's CARD OF 'shalelaw20.ManiDrops'. -/
def maniDropsUptoCard : Claim7 := { stood := { row := maniDropsUptoRow, standIns := [], harness := (true, "68e92a2ef6ab97849d4a0fdf72940191383d18ec1243654172e4bb14ea5d2684"), looks := true }, kinds := [], alts := [], laidByText := true, laidKinds := [.handle], laidTests := true, laidLooks := .later }
def ManiDropsUptoCardSaid : Prop := Claim7.holds Tryd.pinned (.plain (OpenSpec.upto maniDropsSpec)) maniDropsUptoCard

/-- THE SECOND FORM's CARD OF 'shalelaw20.ManiBack'. -/
def maniBackUptoCard : Claim7 := { stood := { row := maniBackUptoRow, standIns := [], harness := (true, "68e92a2ef6ab97849d4a0fdf72940191383d18ec1243654172e4bb14ea5d2684"), looks := true }, kinds := [], alts := [], laidByText := true, laidKinds := [.handle], laidTests := true, laidLooks := .later }
def ManiBackUptoCardSaid : Prop := Claim7.holds Tryd.pinned (.plain (OpenSpec.upto maniBackSpec)) maniBackUptoCard

/-- THE SECOND FORM's CARD OF 'shalelaw20.ManiReads'. -/
def maniReadsUptoCard : Claim7 := { stood := { row := maniReadsUptoRow, standIns := [], harness := (true, "68e92a2ef6ab97849d4a0fdf72940191383d18ec1243654172e4bb14ea5d2684"), looks := true }, kinds := [], alts := [], laidByText := true, laidKinds := [.handle], laidTests := true, laidLooks := .later }
def ManiReadsUptoCardSaid : Prop := Claim7.holds Tryd.pinned (.plain (OpenSpec.upto maniReadsSpec)) maniReadsUptoCard
end Rows
end Go.Proofs.YtpijilfkmkdghaaDoor
