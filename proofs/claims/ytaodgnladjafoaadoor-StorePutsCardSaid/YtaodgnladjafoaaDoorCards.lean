/-
  DERIVED. GIVEN WITH THE SEED: THE CARDS: each row of YtaodgnladjafoaaDoorRows.lean that lists a variable, with what it lists TIED to the program's text (the seventh form; the later family's looks); each row that meets fmt, with fmt's text TOLD by the authors' own Lean function (tested against real Go, not proved from fmt's source: count such statements apart). THE CARD IS WHAT COUNTS. Prove the row's statement (the work); the ties are given (YtaodgnladjafoaaDoorTie.lean); close each card by the builder's one call (the guide's Derived/Test/ToyasCard.lean, 'card_holds'). Laid BY PROGRAM, IN A SANDBOX (cutbox-door.mjs). By AI agents, Wed Nov 11 2026. No macro, syntax, notation, axiom, sorry.
-/
import Derived.Test.YtaodgnladjafoaaDoorRows
import GoSem.ClaimSeven
namespace Go.Proofs.YtaodgnladjafoaaDoor
namespace Rows

/-- THE TIED CARD OF 'shalelaw21.StorePuts'. -/
def storePutsCard : Claim7 := { stood := { row := storePutsRow, standIns := [], harness := (true, "f3e6598ae67ee100648ee327f998b2021cd12c130737be302989802e4f043cec"), looks := true }, kinds := [], alts := [], laidByText := true, laidKinds := [.handle], laidTests := true, laidLooks := .later }
def StorePutsCardSaid : Prop := Claim7.holds Tryd.pinned (.plain (OpenSpec.ofChange storePutsSpec)) storePutsCard

/-- THE TIED CARD OF 'shalelaw21.StoreHolds'. -/
def storeHoldsCard : Claim7 := { stood := { row := storeHoldsRow, standIns := [], harness := (true, "f3e6598ae67ee100648ee327f998b2021cd12c130737be302989802e4f043cec"), looks := true }, kinds := [], alts := [], laidByText := true, laidKinds := [.handle], laidTests := true, laidLooks := .later }
def StoreHoldsCardSaid : Prop := Claim7.holds Tryd.pinned (.plain (OpenSpec.ofChange storeHoldsSpec)) storeHoldsCard

/-- THE SECOND FORM's CARD OF 'shalelaw21.StorePuts'. -/
def storePutsUptoCard : Claim7 := { stood := { row := storePutsUptoRow, standIns := [], harness := (true, "f3e6598ae67ee100648ee327f998b2021cd12c130737be302989802e4f043cec"), looks := true }, kinds := [], alts := [], laidByText := true, laidKinds := [.handle], laidTests := true, laidLooks := .later }
def StorePutsUptoCardSaid : Prop := Claim7.holds Tryd.pinned (.plain (OpenSpec.upto storePutsSpec)) storePutsUptoCard

/-- THE SECOND FORM's CARD OF 'shalelaw21.StoreHolds'. -/
def storeHoldsUptoCard : Claim7 := { stood := { row := storeHoldsUptoRow, standIns := [], harness := (true, "f3e6598ae67ee100648ee327f998b2021cd12c130737be302989802e4f043cec"), looks := true }, kinds := [], alts := [], laidByText := true, laidKinds := [.handle], laidTests := true, laidLooks := .later }
def StoreHoldsUptoCardSaid : Prop := Claim7.holds Tryd.pinned (.plain (OpenSpec.upto storeHoldsSpec)) storeHoldsUptoCard
end Rows
end Go.Proofs.YtaodgnladjafoaaDoor
