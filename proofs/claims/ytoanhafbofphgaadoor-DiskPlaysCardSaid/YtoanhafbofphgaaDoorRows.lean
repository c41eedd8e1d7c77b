/-
  NARROWER THAN 'FOR EVERY INPUT', by the rows' own cells (each row's printed sentence says how): DiskLast: laid · DiskFirm: laid · DiskMasks: laid · DiskPlays: laid · DiskSpent: laid.
  DERIVED. THE GIVEN ROWS OF THIS SEAT. 5 by the template 'for every input the law returns true; each argument reads behind the call as it read before'; 0 by the template 'total and deterministic' (their statements: YtoanhafbofphgaaDoorTotals.lean).
  GIVEN WITH THE SEED: the statements are not yours to turn. If you find one false, say at which input.
  Laid BY PROGRAM, IN A SANDBOX (cutbox-rows.mjs): the forced cells as the released guide's own fill.sh prints them over the translation f7b387e5688108bc… (all of the seat's roots in one cut). By AI agents, Wed Nov 11 2026. No macro, syntax, notation, axiom, sorry.
-/
import Derived.Test.YtoanhafbofphgaaDoorChecked
import GoSem.Claim
import GoSem.ClaimJoined
import GoSem.ClaimMapViews
import Derived.JoinedTies
import Derived.KernelRfl
namespace Go.Proofs.YtoanhafbofphgaaDoor
/- THE CELL 'sum', in the pinned program and in every row, IS THE sha256 OF THE DUMP (.gsa) THAT YtoanhafbofphgaaDoorProg.lean LOADS. Nothing in Lean hashes anything: it is a label: what it is worth is what the hold of that sum in a sandbox is worth. -/
noncomputable def Tryd.pinned : Pinned := { name := "ytoanhafbofphgaadoor", sum := "f7b387e5688108bc0964a81b3f98f6e372fc3ccbe0173013b04fa37b909f5b7f", checked := Tryd.checked }
namespace Rows
def none {H : Type} : Left H := { results := [], args := [] }

/- WHAT THE LISTED PACKAGE-LEVEL VARIABLES READ AS WHEN THE CALL BEGINS. Each datum BY PROGRAM (the guide's laid-datum.mjs) off the statement by which the dump's own 'gosem.cut.vars' lays the variable. In a bare row this is a premise. The card (YtoanhafbofphgaaDoorCards.lean) ties it to the program's text. -/
def laid_errors_errorType {H : Type} : DataW H := .iface "internal/reflectlite.rtype" (.agg [.ptr (.lit (.string [101, 114, 114, 111, 114]))])

/-- 'shalelaw05.DiskLast': WHATEVER THE INPUT: true; the input reads as it did. -/
def diskLastSpec : ChangeSpec := { name := "diskLast", fn := fun _ => fun
  | [d] => { results := [.lit (.bool true)], args := [d] }
  | _ => none }
def diskLastRow : OpenClaim := { program := "ytoanhafbofphgaadoor", sum := "f7b387e5688108bc0964a81b3f98f6e372fc3ccbe0173013b04fa37b909f5b7f", func := "shale/shalelaw05.DiskLast", spec := "diskLast", inPlace := ["internal/reflectlite.ValueOf", "(internal/reflectlite.Value).Type", "(internal/reflectlite.Value).IsNil", "internal/reflectlite.TypeOf", "(internal/reflectlite.Value).Elem", "(internal/reflectlite.Value).Set"], unfollowed := true, recurses := true, named := ["errors.errorType"], apart := false, laid := [("errors.errorType", laid_errors_errorType)] }
def DiskLastSaid : Prop := diskLastRow.holds Tryd.pinned (OpenSpec.ofChange diskLastSpec)

/-- ITS FALSE NEIGHBOUR: 'it returns false'. Refute it at one input. -/
def diskLastWrong : ChangeSpec := { name := "diskLast", fn := fun _ => fun
  | [d] => { results := [.lit (.bool false)], args := [d] }
  | _ => none }
def DiskLastWrongFalsely : Prop := diskLastRow.holds Tryd.pinned (OpenSpec.ofChange diskLastWrong)

/-- 'shalelaw05.DiskFirm': WHATEVER THE INPUT: true; the input reads as it did. -/
def diskFirmSpec : ChangeSpec := { name := "diskFirm", fn := fun _ => fun
  | [d1, d2, d3] => { results := [.lit (.bool true)], args := [d1, d2, d3] }
  | _ => none }
def diskFirmRow : OpenClaim := { program := "ytoanhafbofphgaadoor", sum := "f7b387e5688108bc0964a81b3f98f6e372fc3ccbe0173013b04fa37b909f5b7f", func := "shale/shalelaw05.DiskFirm", spec := "diskFirm", inPlace := ["internal/reflectlite.ValueOf", "(internal/reflectlite.Value).Type", "(internal/reflectlite.Value).IsNil", "internal/reflectlite.TypeOf", "(internal/reflectlite.Value).Elem", "(internal/reflectlite.Value).Set"], unfollowed := true, recurses := true, named := ["errors.errorType"], apart := false, laid := [("errors.errorType", laid_errors_errorType)] }
def DiskFirmSaid : Prop := diskFirmRow.holds Tryd.pinned (OpenSpec.ofChange diskFirmSpec)

/-- ITS FALSE NEIGHBOUR: 'it returns false'. Refute it at one input. -/
def diskFirmWrong : ChangeSpec := { name := "diskFirm", fn := fun _ => fun
  | [d1, d2, d3] => { results := [.lit (.bool false)], args := [d1, d2, d3] }
  | _ => none }
def DiskFirmWrongFalsely : Prop := diskFirmRow.holds Tryd.pinned (OpenSpec.ofChange diskFirmWrong)

/-- 'shalelaw05.DiskMasks': WHATEVER THE INPUT: true; the input reads as it did. -/
def diskMasksSpec : ChangeSpec := { name := "diskMasks", fn := fun _ => fun
  | [d1, d2] => { results := [.lit (.bool true)], args := [d1, d2] }
  | _ => none }
def diskMasksRow : OpenClaim := { program := "ytoanhafbofphgaadoor", sum := "f7b387e5688108bc0964a81b3f98f6e372fc3ccbe0173013b04fa37b909f5b7f", func := "shale/shalelaw05.DiskMasks", spec := "diskMasks", inPlace := ["internal/reflectlite.ValueOf", "(internal/reflectlite.Value).Type", "(internal/reflectlite.Value).IsNil", "internal/reflectlite.TypeOf", "(internal/reflectlite.Value).Elem", "(internal/reflectlite.Value).Set"], unfollowed := true, recurses := true, named := ["errors.errorType"], apart := false, laid := [("errors.errorType", laid_errors_errorType)] }
def DiskMasksSaid : Prop := diskMasksRow.holds Tryd.pinned (OpenSpec.ofChange diskMasksSpec)

/-- ITS FALSE NEIGHBOUR: 'it returns false'. Refute it at one input. -/
def diskMasksWrong : ChangeSpec := { name := "diskMasks", fn := fun _ => fun
  | [d1, d2] => { results := [.lit (.bool false)], args := [d1, d2] }
  | _ => none }
def DiskMasksWrongFalsely : Prop := diskMasksRow.holds Tryd.pinned (OpenSpec.ofChange diskMasksWrong)

/-- 'shalelaw05.DiskPlays': WHATEVER THE INPUT: true; the input reads as it did. -/
def diskPlaysSpec : ChangeSpec := { name := "diskPlays", fn := fun _ => fun
  | [d1, d2] => { results := [.lit (.bool true)], args := [d1, d2] }
  | _ => none }
def diskPlaysRow : OpenClaim := { program := "ytoanhafbofphgaadoor", sum := "f7b387e5688108bc0964a81b3f98f6e372fc3ccbe0173013b04fa37b909f5b7f", func := "shale/shalelaw05.DiskPlays", spec := "diskPlays", inPlace := ["internal/reflectlite.ValueOf", "(internal/reflectlite.Value).Type", "(internal/reflectlite.Value).IsNil", "internal/reflectlite.TypeOf", "(internal/reflectlite.Value).Elem", "(internal/reflectlite.Value).Set"], unfollowed := true, recurses := true, named := ["errors.errorType"], apart := false, laid := [("errors.errorType", laid_errors_errorType)] }
def DiskPlaysSaid : Prop := diskPlaysRow.holds Tryd.pinned (OpenSpec.ofChange diskPlaysSpec)

/-- ITS FALSE NEIGHBOUR: 'it returns false'. Refute it at one input. -/
def diskPlaysWrong : ChangeSpec := { name := "diskPlays", fn := fun _ => fun
  | [d1, d2] => { results := [.lit (.bool false)], args := [d1, d2] }
  | _ => none }
def DiskPlaysWrongFalsely : Prop := diskPlaysRow.holds Tryd.pinned (OpenSpec.ofChange diskPlaysWrong)

/-- 'shalelaw05.DiskSpent': WHATEVER THE INPUT: true; the input reads as it did. -/
def diskSpentSpec : ChangeSpec := { name := "diskSpent", fn := fun _ => fun
  | [d1, d2] => { results := [.lit (.bool true)], args := [d1, d2] }
  | _ => none }
def diskSpentRow : OpenClaim := { program := "ytoanhafbofphgaadoor", sum := "f7b387e5688108bc0964a81b3f98f6e372fc3ccbe0173013b04fa37b909f5b7f", func := "shale/shalelaw05.DiskSpent", spec := "diskSpent", inPlace := ["internal/reflectlite.ValueOf", "(internal/reflectlite.Value).Type", "(internal/reflectlite.Value).IsNil", "internal/reflectlite.TypeOf", "(internal/reflectlite.Value).Elem", "(internal/reflectlite.Value).Set"], unfollowed := true, recurses := true, named := ["errors.errorType"], apart := false, laid := [("errors.errorType", laid_errors_errorType)] }
def DiskSpentSaid : Prop := diskSpentRow.holds Tryd.pinned (OpenSpec.ofChange diskSpentSpec)

/-- ITS FALSE NEIGHBOUR: 'it returns false'. Refute it at one input. -/
def diskSpentWrong : ChangeSpec := { name := "diskSpent", fn := fun _ => fun
  | [d1, d2] => { results := [.lit (.bool false)], args := [d1, d2] }
  | _ => none }
def DiskSpentWrongFalsely : Prop := diskSpentRow.holds Tryd.pinned (OpenSpec.ofChange diskSpentWrong)

/- THE SECOND FORM. 'bulk': how many values and letters a reading holds, each counted each time it is reached (what is shared counts as often as it is met; a slice's spare places count too). A statement '..UptoSaid' is the law's where the arguments, and the package variables that the reading takes, are together of bulk at most 1048576: NARROWER than '..Said'. Prove '..Said' where nothing that the law and all that it calls make is longer than what came in: it says more and counts as full. Else prove '..UptoSaid'. A law counts once. -/
mutual
def uptoBulk {H : Type} : DataW H → Nat
  | .lit (.string bytes) => bytes.length + 1
  | .lit _ => 1
  | .nil => 1
  | .ptr d => uptoBulk d + 1
  | .slice elems spare => uptoBulkAll elems + uptoBulkAll spare + 1
  | .agg parts => uptoBulkAll parts + 1
  | .iface _ d => uptoBulk d + 1
  | .map entries => uptoBulkEntries entries + 1
  | .held _ => 1
def uptoBulkAll {H : Type} : List (DataW H) → Nat
  | [] => 0
  | d :: r => uptoBulk d + uptoBulkAll r
def uptoBulkEntries {H : Type} : List (Lit × DataW H) → Nat
  | [] => 0
  | x :: r => uptoBulkEntry x + uptoBulkEntries r
def uptoBulkEntry {H : Type} : Lit × DataW H → Nat
  | (.string bytes, d) => bytes.length + uptoBulk d + 1
  | (_, d) => uptoBulk d + 1
 end
def uptoSmall : (H : Type) → List (DataW H) → Bool := fun _ ds => decide (uptoBulkAll ds ≤ 1048576)
def OpenSpec.upto (s : _root_.Go.ChangeSpec) : _root_.Go.OpenSpec := { _root_.Go.OpenSpec.ofChange s with cond := some uptoSmall }

/-- 'shalelaw05.DiskLast', WHERE WHAT IT READS IS OF BULK AT MOST 1048576: true; the input reads as it did. -/
def diskLastUptoRow : OpenClaim := { program := "ytoanhafbofphgaadoor", sum := "f7b387e5688108bc0964a81b3f98f6e372fc3ccbe0173013b04fa37b909f5b7f", func := "shale/shalelaw05.DiskLast", spec := "diskLast", inPlace := ["internal/reflectlite.ValueOf", "(internal/reflectlite.Value).Type", "(internal/reflectlite.Value).IsNil", "internal/reflectlite.TypeOf", "(internal/reflectlite.Value).Elem", "(internal/reflectlite.Value).Set"], unfollowed := true, recurses := true, named := ["errors.errorType"], apart := false, laid := [("errors.errorType", laid_errors_errorType)], narrowed := true }
def DiskLastUptoSaid : Prop := diskLastUptoRow.holds Tryd.pinned (OpenSpec.upto diskLastSpec)

/-- 'shalelaw05.DiskFirm', WHERE WHAT IT READS IS OF BULK AT MOST 1048576: true; the input reads as it did. -/
def diskFirmUptoRow : OpenClaim := { program := "ytoanhafbofphgaadoor", sum := "f7b387e5688108bc0964a81b3f98f6e372fc3ccbe0173013b04fa37b909f5b7f", func := "shale/shalelaw05.DiskFirm", spec := "diskFirm", inPlace := ["internal/reflectlite.ValueOf", "(internal/reflectlite.Value).Type", "(internal/reflectlite.Value).IsNil", "internal/reflectlite.TypeOf", "(internal/reflectlite.Value).Elem", "(internal/reflectlite.Value).Set"], unfollowed := true, recurses := true, named := ["errors.errorType"], apart := false, laid := [("errors.errorType", laid_errors_errorType)], narrowed := true }
def DiskFirmUptoSaid : Prop := diskFirmUptoRow.holds Tryd.pinned (OpenSpec.upto diskFirmSpec)

/-- 'shalelaw05.DiskMasks', WHERE WHAT IT READS IS OF BULK AT MOST 1048576: true; the input reads as it did. -/
def diskMasksUptoRow : OpenClaim := { program := "ytoanhafbofphgaadoor", sum := "f7b387e5688108bc0964a81b3f98f6e372fc3ccbe0173013b04fa37b909f5b7f", func := "shale/shalelaw05.DiskMasks", spec := "diskMasks", inPlace := ["internal/reflectlite.ValueOf", "(internal/reflectlite.Value).Type", "(internal/reflectlite.Value).IsNil", "internal/reflectlite.TypeOf", "(internal/reflectlite.Value).Elem", "(internal/reflectlite.Value).Set"], unfollowed := true, recurses := true, named := ["errors.errorType"], apart := false, laid := [("errors.errorType", laid_errors_errorType)], narrowed := true }
def DiskMasksUptoSaid : Prop := diskMasksUptoRow.holds Tryd.pinned (OpenSpec.upto diskMasksSpec)

/-- 'shalelaw05.DiskPlays', WHERE WHAT IT READS IS OF BULK AT MOST 1048576: true; the input reads as it did. -/
def diskPlaysUptoRow : OpenClaim := { program := "ytoanhafbofphgaadoor", sum := "f7b387e5688108bc0964a81b3f98f6e372fc3ccbe0173013b04fa37b909f5b7f", func := "shale/shalelaw05.DiskPlays", spec := "diskPlays", inPlace := ["internal/reflectlite.ValueOf", "(internal/reflectlite.Value).Type", "(internal/reflectlite.Value).IsNil", "internal/reflectlite.TypeOf", "(internal/reflectlite.Value).Elem", "(internal/reflectlite.Value).Set"], unfollowed := true, recurses := true, named := ["errors.errorType"], apart := false, laid := [("errors.errorType", laid_errors_errorType)], narrowed := true }
def DiskPlaysUptoSaid : Prop := diskPlaysUptoRow.holds Tryd.pinned (OpenSpec.upto diskPlaysSpec)

/-- 'shalelaw05.DiskSpent', WHERE WHAT IT READS IS OF BULK AT MOST 1048576: true; the input reads as it did. -/
def diskSpentUptoRow : OpenClaim := { program := "ytoanhafbofphgaadoor", sum := "f7b387e5688108bc0964a81b3f98f6e372fc3ccbe0173013b04fa37b909f5b7f", func := "shale/shalelaw05.DiskSpent", spec := "diskSpent", inPlace := ["internal/reflectlite.ValueOf", "(internal/reflectlite.Value).Type", "(internal/reflectlite.Value).IsNil", "internal/reflectlite.TypeOf", "(internal/reflectlite.Value).Elem", "(internal/reflectlite.Value).Set"], unfollowed := true, recurses := true, named := ["errors.errorType"], apart := false, laid := [("errors.errorType", laid_errors_errorType)], narrowed := true }
def DiskSpentUptoSaid : Prop := diskSpentUptoRow.holds Tryd.pinned (OpenSpec.upto diskSpentSpec)

end Rows
end Go.Proofs.YtoanhafbofphgaaDoor
