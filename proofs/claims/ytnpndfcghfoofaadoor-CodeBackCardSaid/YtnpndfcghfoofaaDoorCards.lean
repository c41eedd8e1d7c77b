/-
  DERIVED. GIVEN WITH THE SEED: THE CARDS: each row of YtnpndfcghfoofaaDoorRows.lean that lists a variable, with what it lists TIED to the program's text (the seventh form; the later family's looks); each row that meets fmt, with fmt's text TOLD by the authors' own Lean function (tested against real Go, not proved from fmt's source: count such statements apart). THE CARD IS WHAT COUNTS. Prove the row's statement (the work); the ties are given (YtnpndfcghfoofaaDoorTie.lean); close each card by the builder's one call (the guide's Derived/Test/ToyasCard.lean, 'card_holds'). Laid BY PROGRAM, IN A SANDBOX (cutbox-door.mjs). By AI agents, Wed Nov 11 2026. No macro, syntax, notation, axiom, sorry.
-/
import Derived.Test.YtnpndfcghfoofaaDoorRows
import GoSem.ClaimSeven
namespace Go.Proofs.YtnpndfcghfoofaaDoor
namespace Rows

/-- THE TIED CARD OF 'shalelaw06.SpaceFills'. -/
def spaceFillsCard : Claim7 := { stood := { row := spaceFillsRow, standIns := [], harness := (true, "84d513f4f57c07edf3cd96707cda8579ccd8f75274a2e45dfe09d4f5f66c8385"), looks := true }, kinds := [], alts := [], laidByText := true, laidKinds := [.handle], laidTests := true, laidLooks := .later }
def SpaceFillsCardSaid : Prop := Claim7.holds Tryd.pinned (.plain (OpenSpec.ofChange spaceFillsSpec)) spaceFillsCard

/-- THE TIED CARD OF 'shalelaw04.CodeBack'. -/
def codeBackCard : Claim7 := { stood := { row := codeBackRow, standIns := [], harness := (true, "84d513f4f57c07edf3cd96707cda8579ccd8f75274a2e45dfe09d4f5f66c8385"), looks := true }, kinds := [], alts := [], laidByText := true, laidKinds := [.handle], laidTests := true, laidLooks := .later }
def CodeBackCardSaid : Prop := Claim7.holds Tryd.pinned (.plain (OpenSpec.ofChange codeBackSpec)) codeBackCard

/-- THE TIED CARD OF 'shalelaw04.CodeLeft'. -/
def codeLeftCard : Claim7 := { stood := { row := codeLeftRow, standIns := [], harness := (true, "84d513f4f57c07edf3cd96707cda8579ccd8f75274a2e45dfe09d4f5f66c8385"), looks := true }, kinds := [], alts := [], laidByText := true, laidKinds := [.handle], laidTests := true, laidLooks := .later }
def CodeLeftCardSaid : Prop := Claim7.holds Tryd.pinned (.plain (OpenSpec.ofChange codeLeftSpec)) codeLeftCard

/-- THE SECOND FORM's CARD OF 'shalelaw06.SpaceFills'. -/
def spaceFillsUptoCard : Claim7 := { stood := { row := spaceFillsUptoRow, standIns := [], harness := (true, "84d513f4f57c07edf3cd96707cda8579ccd8f75274a2e45dfe09d4f5f66c8385"), looks := true }, kinds := [], alts := [], laidByText := true, laidKinds := [.handle], laidTests := true, laidLooks := .later }
def SpaceFillsUptoCardSaid : Prop := Claim7.holds Tryd.pinned (.plain (OpenSpec.upto spaceFillsSpec)) spaceFillsUptoCard

/-- THE SECOND FORM's CARD OF 'shalelaw04.CodeBack'. -/
def codeBackUptoCard : Claim7 := { stood := { row := codeBackUptoRow, standIns := [], harness := (true, "84d513f4f57c07edf3cd96707cda8579ccd8f75274a2e45dfe09d4f5f66c8385"), looks := true }, kinds := [], alts := [], laidByText := true, laidKinds := [.handle], laidTests := true, laidLooks := .later }
def CodeBackUptoCardSaid : Prop := Claim7.holds Tryd.pinned (.plain (OpenSpec.upto codeBackSpec)) codeBackUptoCard

/-- THE SECOND FORM's CARD OF 'shalelaw04.CodeLeft'. -/
def codeLeftUptoCard : Claim7 := { stood := { row := codeLeftUptoRow, standIns := [], harness := (true, "84d513f4f57c07edf3cd96707cda8579ccd8f75274a2e45dfe09d4f5f66c8385"), looks := true }, kinds := [], alts := [], laidByText := true, laidKinds := [.handle], laidTests := true, laidLooks := .later }
def CodeLeftUptoCardSaid : Prop := Claim7.holds Tryd.pinned (.plain (OpenSpec.upto codeLeftSpec)) codeLeftUptoCard
end Rows
end Go.Proofs.YtnpndfcghfoofaaDoor
