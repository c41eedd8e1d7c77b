/-
  NARROWER THAN 'FOR EVERY INPUT', by the rows' own cells (each row's printed sentence says how): BlobPlays: laid · BlobBack: laid · BlobApart: laid · BlobRefs: laid.
  DERIVED. THE GIVEN ROWS OF THIS SEAT. 4 by the template 'for every input the law returns true; each argument reads behind the call as it read before'; 0 by the template 'total and deterministic' (their statements: YtkkikhbenhkfcaaDoorTotals.lean).
  GIVEN WITH THE SEED: the statements are not yours to turn. If you find one false, say at which input.
  Laid BY PROGRAM, IN A SANDBOX (cutbox-rows.mjs): the forced cells as the released guide's own fill.sh prints them over the translation 7d2a61aa88c22596… (all of the seat's roots in one cut). By AI agents, Wed Nov 11 2026. No macro, syntax, notation, axiom, sorry.
-/
import Derived.Test.YtkkikhbenhkfcaaDoorChecked
import GoSem.Claim
import GoSem.ClaimJoined
import GoSem.ClaimMapViews
import Derived.JoinedTies
import Derived.KernelRfl
namespace Go.Proofs.YtkkikhbenhkfcaaDoor
/- THE CELL 'sum', in the pinned program and in every row, IS THE sha256 OF THE DUMP (.gsa) THAT YtkkikhbenhkfcaaDoorProg.lean LOADS. Nothing in Lean hashes anything: it is a label: what it is worth is what the hold of that sum in a sandbox is worth. -/
noncomputable def Tryd.pinned : Pinned := { name := "ytkkikhbenhkfcaadoor", sum := "7d2a61aa88c22596f86fbb9f3b443487f4d63d3db1b78441d951625c353ca452", checked := Tryd.checked }
namespace Rows
def none {H : Type} : Left H := { results := [], args := [] }

/- WHAT THE LISTED PACKAGE-LEVEL VARIABLES READ AS WHEN THE CALL BEGINS. Each datum BY PROGRAM (the guide's laid-datum.mjs) off the statement by which the dump's own 'gosem.cut.vars' lays the variable. In a bare row this is a premise. The card (YtkkikhbenhkfcaaDoorCards.lean) ties it to the program's text. -/
def laid_errors_errorType {H : Type} : DataW H := .iface "internal/reflectlite.rtype" (.agg [.ptr (.lit (.string [101, 114, 114, 111, 114]))])

/-- 'shalelaw07.BlobPlays': WHATEVER THE INPUT: true; the input reads as it did. -/
def blobPlaysSpec : ChangeSpec := { name := "blobPlays", fn := fun _ => fun
  | [d1, d2] => { results := [.lit (.bool true)], args := [d1, d2] }
  | _ => none }
def blobPlaysRow : OpenClaim := { program := "ytkkikhbenhkfcaadoor", sum := "7d2a61aa88c22596f86fbb9f3b443487f4d63d3db1b78441d951625c353ca452", func := "shale/shalelaw07.BlobPlays", spec := "blobPlays", inPlace := ["internal/reflectlite.ValueOf", "(internal/reflectlite.Value).Type", "(internal/reflectlite.Value).IsNil", "internal/reflectlite.TypeOf", "(internal/reflectlite.Value).Elem", "(internal/reflectlite.Value).Set"], unfollowed := true, recurses := true, named := ["errors.errorType"], apart := false, laid := [("errors.errorType", laid_errors_errorType)] }
def BlobPlaysSaid : Prop := blobPlaysRow.holds Tryd.pinned (OpenSpec.ofChange blobPlaysSpec)

/-- ITS FALSE NEIGHBOUR: 'it returns false'. Refute it at one input. -/
def blobPlaysWrong : ChangeSpec := { name := "blobPlays", fn := fun _ => fun
  | [d1, d2] => { results := [.lit (.bool false)], args := [d1, d2] }
  | _ => none }
def BlobPlaysWrongFalsely : Prop := blobPlaysRow.holds Tryd.pinned (OpenSpec.ofChange blobPlaysWrong)

/-- 'shalelaw07.BlobBack': WHATEVER THE INPUT: true; the input reads as it did. -/
def blobBackSpec : ChangeSpec := { name := "blobBack", fn := fun _ => fun
  | [d1, d2, d3, d4] => { results := [.lit (.bool true)], args := [d1, d2, d3, d4] }
  | _ => none }
def blobBackRow : OpenClaim := { program := "ytkkikhbenhkfcaadoor", sum := "7d2a61aa88c22596f86fbb9f3b443487f4d63d3db1b78441d951625c353ca452", func := "shale/shalelaw07.BlobBack", spec := "blobBack", inPlace := ["internal/reflectlite.ValueOf", "(internal/reflectlite.Value).Type", "(internal/reflectlite.Value).IsNil", "internal/reflectlite.TypeOf", "(internal/reflectlite.Value).Elem", "(internal/reflectlite.Value).Set"], unfollowed := true, recurses := true, named := ["errors.errorType"], apart := false, laid := [("errors.errorType", laid_errors_errorType)] }
def BlobBackSaid : Prop := blobBackRow.holds Tryd.pinned (OpenSpec.ofChange blobBackSpec)

/-- ITS FALSE NEIGHBOUR: 'it returns false'. Refute it at one input. -/
def blobBackWrong : ChangeSpec := { name := "blobBack", fn := fun _ => fun
  | [d1, d2, d3, d4] => { results := [.lit (.bool false)], args := [d1, d2, d3, d4] }
  | _ => none }
def BlobBackWrongFalsely : Prop := blobBackRow.holds Tryd.pinned (OpenSpec.ofChange blobBackWrong)

/-- 'shalelaw07.BlobApart': WHATEVER THE INPUT: true; the input reads as it did. -/
def blobApartSpec : ChangeSpec := { name := "blobApart", fn := fun _ => fun
  | [d1, d2, d3] => { results := [.lit (.bool true)], args := [d1, d2, d3] }
  | _ => none }
def blobApartRow : OpenClaim := { program := "ytkkikhbenhkfcaadoor", sum := "7d2a61aa88c22596f86fbb9f3b443487f4d63d3db1b78441d951625c353ca452", func := "shale/shalelaw07.BlobApart", spec := "blobApart", inPlace := ["internal/reflectlite.ValueOf", "(internal/reflectlite.Value).Type", "(internal/reflectlite.Value).IsNil", "internal/reflectlite.TypeOf", "(internal/reflectlite.Value).Elem", "(internal/reflectlite.Value).Set"], unfollowed := true, recurses := true, named := ["errors.errorType"], apart := false, laid := [("errors.errorType", laid_errors_errorType)] }
def BlobApartSaid : Prop := blobApartRow.holds Tryd.pinned (OpenSpec.ofChange blobApartSpec)

/-- ITS FALSE NEIGHBOUR: 'it returns false'. Refute it at one input. -/
def blobApartWrong : ChangeSpec := { name := "blobApart", fn := fun _ => fun
  | [d1, d2, d3] => { results := [.lit (.bool false)], args := [d1, d2, d3] }
  | _ => none }
def BlobApartWrongFalsely : Prop := blobApartRow.holds Tryd.pinned (OpenSpec.ofChange blobApartWrong)

/-- 'shalelaw07.BlobRefs': WHATEVER THE INPUT: true; the input reads as it did. -/
def blobRefsSpec : ChangeSpec := { name := "blobRefs", fn := fun _ => fun
  | [d1, d2] => { results := [.lit (.bool true)], args := [d1, d2] }
  | _ => none }
def blobRefsRow : OpenClaim := { program := "ytkkikhbenhkfcaadoor", sum := "7d2a61aa88c22596f86fbb9f3b443487f4d63d3db1b78441d951625c353ca452", func := "shale/shalelaw07.BlobRefs", spec := "blobRefs", inPlace := ["internal/reflectlite.ValueOf", "(internal/reflectlite.Value).Type", "(internal/reflectlite.Value).IsNil", "internal/reflectlite.TypeOf", "(internal/reflectlite.Value).Elem", "(internal/reflectlite.Value).Set"], unfollowed := true, recurses := true, named := ["errors.errorType"], apart := false, laid := [("errors.errorType", laid_errors_errorType)] }
def BlobRefsSaid : Prop := blobRefsRow.holds Tryd.pinned (OpenSpec.ofChange blobRefsSpec)

/-- ITS FALSE NEIGHBOUR: 'it returns false'. Refute it at one input. -/
def blobRefsWrong : ChangeSpec := { name := "blobRefs", fn := fun _ => fun
  | [d1, d2] => { results := [.lit (.bool false)], args := [d1, d2] }
  | _ => none }
def BlobRefsWrongFalsely : Prop := blobRefsRow.holds Tryd.pinned (OpenSpec.ofChange blobRefsWrong)

/- THE SECOND FORM. 'bulk': how many values and letters a reading holds, each counted each time it is reached (what is shared counts as often as it is met; a slice's spare places count too). A statement '..UptoSaid' is the law's where the arguments, and the package variables that the reading takes, are together of bulk at most 1048576: NARROWER than '..Said'. Prove '..Said' where nothing that the law and all that it calls make is longer than what came in: it says more and counts as full. Else prove '..UptoSaid'. A law counts once. -/
mutual
def uptoBulk {H : Type} : DataW H → Nat
  | .lit (.string bytes) => bytes.length + 1
  | .lit _ => 1
  | .nil => 1
  | .ptr d => uptoBulk d + 1
  | .slice elems spare => uptoBulkAll elems + uptoBulkAll spare + 1
  | .agg parts => uptoBulkAll parts + 1
  | .iface _ d => uptoBulk d + 1
  | .map entries => uptoBulkEntries entries + 1
  | .held _ => 1
def uptoBulkAll {H : Type} : List (DataW H) → Nat
  | [] => 0
  | d :: r => uptoBulk d + uptoBulkAll r
def uptoBulkEntries {H : Type} : List (Lit × DataW H) → Nat
  | [] => 0
  | x :: r => uptoBulkEntry x + uptoBulkEntries r
def uptoBulkEntry {H : Type} : Lit × DataW H → Nat
  | (.string bytes, d) => bytes.length + uptoBulk d + 1
  | (_, d) => uptoBulk d + 1
 end
def uptoSmall : (H : Type) → List (DataW H) → Bool := fun _ ds => decide (uptoBulkAll ds ≤ 1048576)
def OpenSpec.upto (s : _root_.Go.ChangeSpec) : _root_.Go.OpenSpec := { _root_.Go.OpenSpec.ofChange s with cond := some uptoSmall }

/-- 'shalelaw07.BlobPlays', WHERE WHAT IT READS IS OF BULK AT MOST 1048576: true; the input reads as it did. -/
def blobPlaysUptoRow : OpenClaim := { program := "ytkkikhbenhkfcaadoor", sum := "7d2a61aa88c22596f86fbb9f3b443487f4d63d3db1b78441d951625c353ca452", func := "shale/shalelaw07.BlobPlays", spec := "blobPlays", inPlace := ["internal/reflectlite.ValueOf", "(internal/reflectlite.Value).Type", "(internal/reflectlite.Value).IsNil", "internal/reflectlite.TypeOf", "(internal/reflectlite.Value).Elem", "(internal/reflectlite.Value).Set"], unfollowed := true, recurses := true, named := ["errors.errorType"], apart := false, laid := [("errors.errorType", laid_errors_errorType)], narrowed := true }
def BlobPlaysUptoSaid : Prop := blobPlaysUptoRow.holds Tryd.pinned (OpenSpec.upto blobPlaysSpec)

/-- 'shalelaw07.BlobBack', WHERE WHAT IT READS IS OF BULK AT MOST 1048576: true; the input reads as it did. -/
def blobBackUptoRow : OpenClaim := { program := "ytkkikhbenhkfcaadoor", sum := "7d2a61aa88c22596f86fbb9f3b443487f4d63d3db1b78441d951625c353ca452", func := "shale/shalelaw07.BlobBack", spec := "blobBack", inPlace := ["internal/reflectlite.ValueOf", "(internal/reflectlite.Value).Type", "(internal/reflectlite.Value).IsNil", "internal/reflectlite.TypeOf", "(internal/reflectlite.Value).Elem", "(internal/reflectlite.Value).Set"], unfollowed := true, recurses := true, named := ["errors.errorType"], apart := false, laid := [("errors.errorType", laid_errors_errorType)], narrowed := true }
def BlobBackUptoSaid : Prop := blobBackUptoRow.holds Tryd.pinned (OpenSpec.upto blobBackSpec)

/-- 'shalelaw07.BlobApart', WHERE WHAT IT READS IS OF BULK AT MOST 1048576: true; the input reads as it did. -/
def blobApartUptoRow : OpenClaim := { program := "ytkkikhbenhkfcaadoor", sum := "7d2a61aa88c22596f86fbb9f3b443487f4d63d3db1b78441d951625c353ca452", func := "shale/shalelaw07.BlobApart", spec := "blobApart", inPlace := ["internal/reflectlite.ValueOf", "(internal/reflectlite.Value).Type", "(internal/reflectlite.Value).IsNil", "internal/reflectlite.TypeOf", "(internal/reflectlite.Value).Elem", "(internal/reflectlite.Value).Set"], unfollowed := true, recurses := true, named := ["errors.errorType"], apart := false, laid := [("errors.errorType", laid_errors_errorType)], narrowed := true }
def BlobApartUptoSaid : Prop := blobApartUptoRow.holds Tryd.pinned (OpenSpec.upto blobApartSpec)

/-- 'shalelaw07.BlobRefs', WHERE WHAT IT READS IS OF BULK AT MOST 1048576: true; the input reads as it did. -/
def blobRefsUptoRow : OpenClaim := { program := "ytkkikhbenhkfcaadoor", sum := "7d2a61aa88c22596f86fbb9f3b443487f4d63d3db1b78441d951625c353ca452", func := "shale/shalelaw07.BlobRefs", spec := "blobRefs", inPlace := ["internal/reflectlite.ValueOf", "(internal/reflectlite.Value).Type", "(internal/reflectlite.Value).IsNil", "internal/reflectlite.TypeOf", "(internal/reflectlite.Value).Elem", "(internal/reflectlite.Value).Set"], unfollowed := true, recurses := true, named := ["errors.errorType"], apart := false, laid := [("errors.errorType", laid_errors_errorType)], narrowed := true }
def BlobRefsUptoSaid : Prop := blobRefsUptoRow.holds Tryd.pinned (OpenSpec.upto blobRefsSpec)

end Rows
end Go.Proofs.YtkkikhbenhkfcaaDoor
