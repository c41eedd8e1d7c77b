/-
  DERIVED. GIVEN WITH THE SEED: THE CARDS: each row of YtoanhafbofphgaaDoorRows.lean that lists a variable, with what it lists TIED to the program's text (the seventh form; the later family's looks); each row that meets fmt, with fmt's text TOLD by the authors' own Lean function (tested against real Go, not proved from fmt's source: count such statements apart). THE CARD IS WHAT COUNTS. Prove the row's statement (the work); the ties are given (YtoanhafbofphgaaDoorTie.lean); close each card by the builder's one call (the guide's Derived/Test/ToyasCard.lean, 'card_holds'). Laid BY PROGRAM, IN A SANDBOX (cutbox-door.mjs). By AI agents, Wed Nov 11 2026. No macro, syntax, notation, axiom, sorry.
-/
import Derived.Test.YtoanhafbofphgaaDoorRows
import GoSem.ClaimSeven
namespace Go.Proofs.YtoanhafbofphgaaDoor
namespace Rows

/-- THE TIED CARD OF 'shalelaw05.DiskLast'. -/
def diskLastCard : Claim7 := { stood := { row := diskLastRow, standIns := [], harness := (true, "558283ecc6c512c8cbd39573d3c7bba4c7913c25f5c69e2d813f0e021b9dc86b"), looks := true }, kinds := [], alts := [], laidByText := true, laidKinds := [.handle], laidTests := true, laidLooks := .later }
def DiskLastCardSaid : Prop := Claim7.holds Tryd.pinned (.plain (OpenSpec.ofChange diskLastSpec)) diskLastCard

/-- THE TIED CARD OF 'shalelaw05.DiskFirm'. -/
def diskFirmCard : Claim7 := { stood := { row := diskFirmRow, standIns := [], harness := (true, "558283ecc6c512c8cbd39573d3c7bba4c7913c25f5c69e2d813f0e021b9dc86b"), looks := true }, kinds := [], alts := [], laidByText := true, laidKinds := [.handle], laidTests := true, laidLooks := .later }
def DiskFirmCardSaid : Prop := Claim7.holds Tryd.pinned (.plain (OpenSpec.ofChange diskFirmSpec)) diskFirmCard

/-- THE TIED CARD OF 'shalelaw05.DiskMasks'. -/
def diskMasksCard : Claim7 := { stood := { row := diskMasksRow, standIns := [], harness := (true, "558283ecc6c512c8cbd39573d3c7bba4c7913c25f5c69e2d813f0e021b9dc86b"), looks := true }, kinds := [], alts := [], laidByText := true, laidKinds := [.handle], laidTests := true, laidLooks := .later }
def DiskMasksCardSaid : Prop := Claim7.holds Tryd.pinned (.plain (OpenSpec.ofChange diskMasksSpec)) diskMasksCard

/-- THE TIED CARD OF 'shalelaw05.DiskPlays'. -/
def diskPlaysCard : Claim7 := { stood := { row := diskPlaysRow, standIns := [], harness := (true, "558283ecc6c512c8cbd39573d3c7bba4c7913c25f5c69e2d813f0e021b9dc86b"), looks := true }, kinds := [], alts := [], laidByText := true, laidKinds := [.handle], laidTests := true, laidLooks := .later }
def DiskPlaysCardSaid : Prop := Claim7.holds Tryd.pinned (.plain (OpenSpec.ofChange diskPlaysSpec)) diskPlaysCard

/-- THE TIED CARD OF 'shalelaw05.DiskSpent'. -/
def diskSpentCard : Claim7 := { stood := { row := diskSpentRow, standIns := [], harness := (true, "558283ecc6c512c8cbd39573d3c7bba4c7913c25f5c69e2d813f0e021b9dc86b"), looks := true }, kinds := [], alts := [], laidByText := true, laidKinds := [.handle], laidTests := true, laidLooks := .later }
def DiskSpentCardSaid : Prop := Claim7.holds Tryd.pinned (.plain (OpenSpec.ofChange diskSpentSpec)) diskSpentCard

/-- THE SECOND FORM's CARD OF 'shalelaw05.DiskLast'. -/
def diskLastUptoCard : Claim7 := { stood := { row := diskLastUptoRow, standIns := [], harness := (true, "558283ecc6c512c8cbd39573d3c7bba4c7913c25f5c69e2d813f0e021b9dc86b"), looks := true }, kinds := [], alts := [], laidByText := true, laidKinds := [.handle], laidTests := true, laidLooks := .later }
def DiskLastUptoCardSaid : Prop := Claim7.holds Tryd.pinned (.plain (OpenSpec.upto diskLastSpec)) diskLastUptoCard

/-- THE SECOND FORM's CARD OF 'shalelaw05.DiskFirm'. -/
def diskFirmUptoCard : Claim7 := { stood := { row := diskFirmUptoRow, standIns := [], harness := (true, "558283ecc6c512c8cbd39573d3c7bba4c7913c25f5c69e2d813f0e021b9dc86b"), looks := true }, kinds := [], alts := [], laidByText := true, laidKinds := [.handle], laidTests := true, laidLooks := .later }
def DiskFirmUptoCardSaid : Prop := Claim7.holds Tryd.pinned (.plain (OpenSpec.upto diskFirmSpec)) diskFirmUptoCard

/-- THE SECOND FORM's CARD OF 'shalelaw05.DiskMasks'. -/
def diskMasksUptoCard : Claim7 := { stood := { row := diskMasksUptoRow, standIns := [], harness := (true, "558283ecc6c512c8cbd39573d3c7bba4c7913c25f5c69e2d813f0e021b9dc86b"), looks := true }, kinds := [], alts := [], laidByText := true, laidKinds := [.handle], laidTests := true, laidLooks := .later }
def DiskMasksUptoCardSaid : Prop := Claim7.holds Tryd.pinned (.plain (OpenSpec.upto diskMasksSpec)) diskMasksUptoCard

/-- THE SECOND FORM's CARD OF 'shalelaw05.DiskPlays'. -/
def diskPlaysUptoCard : Claim7 := { stood := { row := diskPlaysUptoRow, standIns := [], harness := (true, "558283ecc6c512c8cbd39573d3c7bba4c7913c25f5c69e2d813f0e021b9dc86b"), looks := true }, kinds := [], alts := [], laidByText := true, laidKinds := [.handle], laidTests := true, laidLooks := .later }
def DiskPlaysUptoCardSaid : Prop := Claim7.holds Tryd.pinned (.plain (OpenSpec.upto diskPlaysSpec)) diskPlaysUptoCard

/-- THE SECOND FORM's CARD OF 'shalelaw05.DiskSpent'. -/
def diskSpentUptoCard : Claim7 := { stood := { row := diskSpentUptoRow, standIns := [], harness := (true, "558283ecc6c512c8cbd39573d3c7bba4c7913c25f5c69e2d813f0e021b9dc86b"), looks := true }, kinds := [], alts := [], laidByText := true, laidKinds := [.handle], laidTests := true, laidLooks := .later }
def DiskSpentUptoCardSaid : Prop := Claim7.holds Tryd.pinned (.plain (OpenSpec.upto diskSpentSpec)) diskSpentUptoCard
end Rows
end Go.Proofs.YtoanhafbofphgaaDoor
