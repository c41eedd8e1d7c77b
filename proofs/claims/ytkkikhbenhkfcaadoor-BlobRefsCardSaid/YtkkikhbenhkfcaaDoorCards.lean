/-
  DERIVED. GIVEN WITH THE SEED: THE CARDS: each row of YtkkikhbenhkfcaaDoorRows.lean that lists a variable, with what it lists TIED to the program's text (the seventh form; the later family's looks); each row that meets fmt, with fmt's text TOLD by the authors' own Lean function (tested against real Go, not proved from fmt's source: count such statements apart). THE CARD IS WHAT COUNTS. Prove the row's statement (the work); the ties are given (YtkkikhbenhkfcaaDoorTie.lean); close each card by the builder's one call (the guide's Derived/Test/ToyasCard.lean, 'card_holds'). Laid BY PROGRAM, IN A SANDBOX (cutbox-door.mjs). By AI agents, Wed Nov 11 2026. No macro, syntax, notation, axiom, sorry.
-/
import Derived.Test.YtkkikhbenhkfcaaDoorRows
import GoSem.ClaimSeven
namespace Go.Proofs.YtkkikhbenhkfcaaDoor
namespace Rows

/-- THE TIED CARD OF 'shalelaw07.BlobPlays'. -/
def blobPlaysCard : Claim7 := { stood := { row := blobPlaysRow, standIns := [], harness := (true, "29a6b59b331abc032a32415eb7c0aa732bc221c4c997968d72a0d9babf30a1e4"), looks := true }, kinds := [], alts := [], laidByText := true, laidKinds := [.handle], laidTests := true, laidLooks := .later }
def BlobPlaysCardSaid : Prop := Claim7.holds Tryd.pinned (.plain (OpenSpec.ofChange blobPlaysSpec)) blobPlaysCard

/-- THE TIED CARD OF 'shalelaw07.BlobBack'. -/
def blobBackCard : Claim7 := { stood := { row := blobBackRow, standIns := [], harness := (true, "29a6b59b331abc032a32415eb7c0aa732bc221c4c997968d72a0d9babf30a1e4"), looks := true }, kinds := [], alts := [], laidByText := true, laidKinds := [.handle], laidTests := true, laidLooks := .later }
def BlobBackCardSaid : Prop := Claim7.holds Tryd.pinned (.plain (OpenSpec.ofChange blobBackSpec)) blobBackCard

/-- THE TIED CARD OF 'shalelaw07.BlobApart'. -/
def blobApartCard : Claim7 := { stood := { row := blobApartRow, standIns := [], harness := (true, "29a6b59b331abc032a32415eb7c0aa732bc221c4c997968d72a0d9babf30a1e4"), looks := true }, kinds := [], alts := [], laidByText := true, laidKinds := [.handle], laidTests := true, laidLooks := .later }
def BlobApartCardSaid : Prop := Claim7.holds Tryd.pinned (.plain (OpenSpec.ofChange blobApartSpec)) blobApartCard

/-- THE TIED CARD OF 'shalelaw07.BlobRefs'. -/
def blobRefsCard : Claim7 := { stood := { row := blobRefsRow, standIns := [], harness := (true, "29a6b59b331abc032a32415eb7c0aa732bc221c4c997968d72a0d9babf30a1e4"), looks := true }, kinds := [], alts := [], laidByText := true, laidKinds := [.handle], laidTests := true, laidLooks := .later }
def BlobRefsCardSaid : Prop := Claim7.holds Tryd.pinned (.plain (OpenSpec.ofChange blobRefsSpec)) blobRefsCard

/-- THE SECOND FORM's CARD OF 'shalelaw07.BlobPlays'. -/
def blobPlaysUptoCard : Claim7 := { stood := { row := blobPlaysUptoRow, standIns := [], harness := (true, "29a6b59b331abc032a32415eb7c0aa732bc221c4c997968d72a0d9babf30a1e4"), looks := true }, kinds := [], alts := [], laidByText := true, laidKinds := [.handle], laidTests := true, laidLooks := .later }
def BlobPlaysUptoCardSaid : Prop := Claim7.holds Tryd.pinned (.plain (OpenSpec.upto blobPlaysSpec)) blobPlaysUptoCard

/-- THE SECOND FORM's CARD OF 'shalelaw07.BlobBack'. -/
def blobBackUptoCard : Claim7 := { stood := { row := blobBackUptoRow, standIns := [], harness := (true, "29a6b59b331abc032a32415eb7c0aa732bc221c4c997968d72a0d9babf30a1e4"), looks := true }, kinds := [], alts := [], laidByText := true, laidKinds := [.handle], laidTests := true, laidLooks := .later }
def BlobBackUptoCardSaid : Prop := Claim7.holds Tryd.pinned (.plain (OpenSpec.upto blobBackSpec)) blobBackUptoCard

/-- THE SECOND FORM's CARD OF 'shalelaw07.BlobApart'. -/
def blobApartUptoCard : Claim7 := { stood := { row := blobApartUptoRow, standIns := [], harness := (true, "29a6b59b331abc032a32415eb7c0aa732bc221c4c997968d72a0d9babf30a1e4"), looks := true }, kinds := [], alts := [], laidByText := true, laidKinds := [.handle], laidTests := true, laidLooks := .later }
def BlobApartUptoCardSaid : Prop := Claim7.holds Tryd.pinned (.plain (OpenSpec.upto blobApartSpec)) blobApartUptoCard

/-- THE SECOND FORM's CARD OF 'shalelaw07.BlobRefs'. -/
def blobRefsUptoCard : Claim7 := { stood := { row := blobRefsUptoRow, standIns := [], harness := (true, "29a6b59b331abc032a32415eb7c0aa732bc221c4c997968d72a0d9babf30a1e4"), looks := true }, kinds := [], alts := [], laidByText := true, laidKinds := [.handle], laidTests := true, laidLooks := .later }
def BlobRefsUptoCardSaid : Prop := Claim7.holds Tryd.pinned (.plain (OpenSpec.upto blobRefsSpec)) blobRefsUptoCard
end Rows
end Go.Proofs.YtkkikhbenhkfcaaDoor
