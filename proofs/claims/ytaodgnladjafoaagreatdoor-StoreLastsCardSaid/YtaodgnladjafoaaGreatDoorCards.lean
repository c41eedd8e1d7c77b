/-
  DERIVED. GIVEN WITH THE SEED: THE CARDS: each row of YtaodgnladjafoaaGreatDoorRows.lean that lists a variable, with what it lists TIED to the program's text (the seventh form; the later family's looks); each row that meets fmt, with fmt's text TOLD by the authors' own Lean function (tested against real Go, not proved from fmt's source: count such statements apart). THE CARD IS WHAT COUNTS. Prove the row's statement (the work); the ties are given (YtaodgnladjafoaaGreatDoorTie.lean); close each card by the builder's one call (the guide's Derived/Test/ToyasCard.lean, 'card_holds'). Laid BY PROGRAM, IN A SANDBOX (cutbox-door.mjs). By AI agents, Wed Nov 11 2026. No macro, syntax, notation, axiom, sorry.
-/
import Derived.Test.YtaodgnladjafoaaGreatDoorRows
import GoSem.ClaimSeven
namespace Go.Proofs.YtaodgnladjafoaaGreatDoor
namespace Rows

/-- THE TIED CARD OF 'shalelaw21.StoreAgain'. -/
def storeAgainCard : Claim7 := { stood := { row := storeAgainRow, standIns := [], harness := (true, "59802eca3396678a9a81adc8870156958ea0e4f1e726ceda494cbc2267e43806"), looks := true }, kinds := [], alts := [], laidByText := true, laidKinds := [.handle], laidTests := true, laidLooks := .later }
def StoreAgainCardSaid : Prop := Claim7.holds Tryz.pinned (.plain (OpenSpec.ofChange storeAgainSpec)) storeAgainCard

/-- THE TIED CARD OF 'shalelaw21.StoreTorn'. -/
def storeTornCard : Claim7 := { stood := { row := storeTornRow, standIns := [], harness := (true, "59802eca3396678a9a81adc8870156958ea0e4f1e726ceda494cbc2267e43806"), looks := true }, kinds := [], alts := [], laidByText := true, laidKinds := [.handle], laidTests := true, laidLooks := .later }
def StoreTornCardSaid : Prop := Claim7.holds Tryz.pinned (.plain (OpenSpec.ofChange storeTornSpec)) storeTornCard

/-- THE TIED CARD OF 'shalelaw21.StoreAny'. -/
def storeAnyCard : Claim7 := { stood := { row := storeAnyRow, standIns := [], harness := (true, "59802eca3396678a9a81adc8870156958ea0e4f1e726ceda494cbc2267e43806"), looks := true }, kinds := [], alts := [], laidByText := true, laidKinds := [.handle], laidTests := true, laidLooks := .later }
def StoreAnyCardSaid : Prop := Claim7.holds Tryz.pinned (.plain (OpenSpec.ofChange storeAnySpec)) storeAnyCard

/-- THE TIED CARD OF 'shalelaw21.StoreLasts'. -/
def storeLastsCard : Claim7 := { stood := { row := storeLastsRow, standIns := [], harness := (true, "59802eca3396678a9a81adc8870156958ea0e4f1e726ceda494cbc2267e43806"), looks := true }, kinds := [], alts := [], laidByText := true, laidKinds := [.handle], laidTests := true, laidLooks := .later }
def StoreLastsCardSaid : Prop := Claim7.holds Tryz.pinned (.plain (OpenSpec.ofChange storeLastsSpec)) storeLastsCard

/-- THE SECOND FORM's CARD OF 'shalelaw21.StoreAgain'. -/
def storeAgainUptoCard : Claim7 := { stood := { row := storeAgainUptoRow, standIns := [], harness := (true, "59802eca3396678a9a81adc8870156958ea0e4f1e726ceda494cbc2267e43806"), looks := true }, kinds := [], alts := [], laidByText := true, laidKinds := [.handle], laidTests := true, laidLooks := .later }
def StoreAgainUptoCardSaid : Prop := Claim7.holds Tryz.pinned (.plain (OpenSpec.upto storeAgainSpec)) storeAgainUptoCard

/-- THE SECOND FORM's CARD OF 'shalelaw21.StoreTorn'. -/
def storeTornUptoCard : Claim7 := { stood := { row := storeTornUptoRow, standIns := [], harness := (true, "59802eca3396678a9a81adc8870156958ea0e4f1e726ceda494cbc2267e43806"), looks := true }, kinds := [], alts := [], laidByText := true, laidKinds := [.handle], laidTests := true, laidLooks := .later }
def StoreTornUptoCardSaid : Prop := Claim7.holds Tryz.pinned (.plain (OpenSpec.upto storeTornSpec)) storeTornUptoCard

/-- THE SECOND FORM's CARD OF 'shalelaw21.StoreAny'. -/
def storeAnyUptoCard : Claim7 := { stood := { row := storeAnyUptoRow, standIns := [], harness := (true, "59802eca3396678a9a81adc8870156958ea0e4f1e726ceda494cbc2267e43806"), looks := true }, kinds := [], alts := [], laidByText := true, laidKinds := [.handle], laidTests := true, laidLooks := .later }
def StoreAnyUptoCardSaid : Prop := Claim7.holds Tryz.pinned (.plain (OpenSpec.upto storeAnySpec)) storeAnyUptoCard

/-- THE SECOND FORM's CARD OF 'shalelaw21.StoreLasts'. -/
def storeLastsUptoCard : Claim7 := { stood := { row := storeLastsUptoRow, standIns := [], harness := (true, "59802eca3396678a9a81adc8870156958ea0e4f1e726ceda494cbc2267e43806"), looks := true }, kinds := [], alts := [], laidByText := true, laidKinds := [.handle], laidTests := true, laidLooks := .later }
def StoreLastsUptoCardSaid : Prop := Claim7.holds Tryz.pinned (.plain (OpenSpec.upto storeLastsSpec)) storeLastsUptoCard
end Rows
end Go.Proofs.YtaodgnladjafoaaGreatDoor
