/-
  NARROWER THAN 'FOR EVERY INPUT', by the rows' own cells (each row's printed sentence says how): OperUnlike: laid · OperPlays: laid · OperBack: laid · OperOnly: laid · OperSpoilt: laid.
  DERIVED. THE GIVEN ROWS OF THIS SEAT. 5 by the template 'for every input the law returns true; each argument reads behind the call as it read before'; 0 by the template 'total and deterministic' (their statements: YtabhfopmblaohaaDoorTotals.lean).
  GIVEN WITH THE SEED: the statements are not yours to turn. If you find one false, say at which input.
  Laid BY PROGRAM, IN A SANDBOX (cutbox-rows.mjs): the forced cells as the released guide's own fill.sh prints them over the translation 6ef2c9615ee48070… (all of the seat's roots in one cut). By AI agents, Wed Nov 11 2026. No macro, syntax, notation, axiom, sorry.
-/
import Derived.Test.YtabhfopmblaohaaDoorChecked
import GoSem.Claim
import GoSem.ClaimJoined
import GoSem.ClaimMapViews
import Derived.JoinedTies
import Derived.KernelRfl
namespace Go.Proofs.YtabhfopmblaohaaDoor
/- THE CELL 'sum', in the pinned program and in every row, IS THE sha256 OF THE DUMP (.gsa) THAT YtabhfopmblaohaaDoorProg.lean LOADS. Nothing in Lean hashes anything: it is a label: what it is worth is what the hold of that sum in a sandbox is worth. -/
noncomputable def Tryd.pinned : Pinned := { name := "ytabhfopmblaohaadoor", sum := "6ef2c9615ee48070fcfaeadd19134f2d15b25e0fd54f1c58fc38eeb6a5d33b53", checked := Tryd.checked }
namespace Rows
def none {H : Type} : Left H := { results := [], args := [] }

/- WHAT THE LISTED PACKAGE-LEVEL VARIABLES READ AS WHEN THE CALL BEGINS. Each datum BY PROGRAM (the guide's laid-datum.mjs) off the statement by which the dump's own 'gosem.cut.vars' lays the variable. In a bare row this is a premise. The card (YtabhfopmblaohaaDoorCards.lean) ties it to the program's text. -/
def laid_errors_errorType {H : Type} : DataW H := .iface "internal/reflectlite.rtype" (.agg [.ptr (.lit (.string [101, 114, 114, 111, 114]))])

/-- 'shalelaw18.OperUnlike': WHATEVER THE INPUT: true; the input reads as it did. -/
def operUnlikeSpec : ChangeSpec := { name := "operUnlike", fn := fun _ => fun
  | [d1, d2] => { results := [.lit (.bool true)], args := [d1, d2] }
  | _ => none }
def operUnlikeRow : OpenClaim := { program := "ytabhfopmblaohaadoor", sum := "6ef2c9615ee48070fcfaeadd19134f2d15b25e0fd54f1c58fc38eeb6a5d33b53", func := "shale/shalelaw18.OperUnlike", spec := "operUnlike", inPlace := ["internal/abi.NoEscape", "internal/bytealg.MakeNoZero", "internal/reflectlite.ValueOf", "(internal/reflectlite.Value).Type", "(internal/reflectlite.Value).IsNil", "internal/reflectlite.TypeOf", "(internal/reflectlite.Value).Elem", "(internal/reflectlite.Value).Set"], unfollowed := true, recurses := true, named := ["errors.errorType"], apart := false, laid := [("errors.errorType", laid_errors_errorType)] }
def OperUnlikeSaid : Prop := operUnlikeRow.holds Tryd.pinned (OpenSpec.ofChange operUnlikeSpec)

/-- ITS FALSE NEIGHBOUR: 'it returns false'. Refute it at one input. -/
def operUnlikeWrong : ChangeSpec := { name := "operUnlike", fn := fun _ => fun
  | [d1, d2] => { results := [.lit (.bool false)], args := [d1, d2] }
  | _ => none }
def OperUnlikeWrongFalsely : Prop := operUnlikeRow.holds Tryd.pinned (OpenSpec.ofChange operUnlikeWrong)

/-- 'shalelaw18.OperPlays': WHATEVER THE INPUT: true; the input reads as it did. -/
def operPlaysSpec : ChangeSpec := { name := "operPlays", fn := fun _ => fun
  | [d] => { results := [.lit (.bool true)], args := [d] }
  | _ => none }
def operPlaysRow : OpenClaim := { program := "ytabhfopmblaohaadoor", sum := "6ef2c9615ee48070fcfaeadd19134f2d15b25e0fd54f1c58fc38eeb6a5d33b53", func := "shale/shalelaw18.OperPlays", spec := "operPlays", inPlace := ["internal/abi.NoEscape", "internal/bytealg.MakeNoZero", "internal/reflectlite.ValueOf", "(internal/reflectlite.Value).Type", "(internal/reflectlite.Value).IsNil", "internal/reflectlite.TypeOf", "(internal/reflectlite.Value).Elem", "(internal/reflectlite.Value).Set"], unfollowed := true, recurses := true, named := ["errors.errorType"], apart := false, laid := [("errors.errorType", laid_errors_errorType)] }
def OperPlaysSaid : Prop := operPlaysRow.holds Tryd.pinned (OpenSpec.ofChange operPlaysSpec)

/-- ITS FALSE NEIGHBOUR: 'it returns false'. Refute it at one input. -/
def operPlaysWrong : ChangeSpec := { name := "operPlays", fn := fun _ => fun
  | [d] => { results := [.lit (.bool false)], args := [d] }
  | _ => none }
def OperPlaysWrongFalsely : Prop := operPlaysRow.holds Tryd.pinned (OpenSpec.ofChange operPlaysWrong)

/-- 'shalelaw18.OperBack': WHATEVER THE INPUT: true; the input reads as it did. -/
def operBackSpec : ChangeSpec := { name := "operBack", fn := fun _ => fun
  | [d] => { results := [.lit (.bool true)], args := [d] }
  | _ => none }
def operBackRow : OpenClaim := { program := "ytabhfopmblaohaadoor", sum := "6ef2c9615ee48070fcfaeadd19134f2d15b25e0fd54f1c58fc38eeb6a5d33b53", func := "shale/shalelaw18.OperBack", spec := "operBack", inPlace := ["internal/abi.NoEscape", "internal/bytealg.MakeNoZero", "internal/reflectlite.ValueOf", "(internal/reflectlite.Value).Type", "(internal/reflectlite.Value).IsNil", "internal/reflectlite.TypeOf", "(internal/reflectlite.Value).Elem", "(internal/reflectlite.Value).Set"], unfollowed := true, recurses := true, named := ["errors.errorType"], apart := false, laid := [("errors.errorType", laid_errors_errorType)] }
def OperBackSaid : Prop := operBackRow.holds Tryd.pinned (OpenSpec.ofChange operBackSpec)

/-- ITS FALSE NEIGHBOUR: 'it returns false'. Refute it at one input. -/
def operBackWrong : ChangeSpec := { name := "operBack", fn := fun _ => fun
  | [d] => { results := [.lit (.bool false)], args := [d] }
  | _ => none }
def OperBackWrongFalsely : Prop := operBackRow.holds Tryd.pinned (OpenSpec.ofChange operBackWrong)

/-- 'shalelaw18.OperOnly': WHATEVER THE INPUT: true; the input reads as it did. -/
def operOnlySpec : ChangeSpec := { name := "operOnly", fn := fun _ => fun
  | [d] => { results := [.lit (.bool true)], args := [d] }
  | _ => none }
def operOnlyRow : OpenClaim := { program := "ytabhfopmblaohaadoor", sum := "6ef2c9615ee48070fcfaeadd19134f2d15b25e0fd54f1c58fc38eeb6a5d33b53", func := "shale/shalelaw18.OperOnly", spec := "operOnly", inPlace := ["internal/abi.NoEscape", "internal/bytealg.MakeNoZero", "internal/reflectlite.ValueOf", "(internal/reflectlite.Value).Type", "(internal/reflectlite.Value).IsNil", "internal/reflectlite.TypeOf", "(internal/reflectlite.Value).Elem", "(internal/reflectlite.Value).Set"], unfollowed := true, recurses := true, named := ["errors.errorType"], apart := false, laid := [("errors.errorType", laid_errors_errorType)] }
def OperOnlySaid : Prop := operOnlyRow.holds Tryd.pinned (OpenSpec.ofChange operOnlySpec)

/-- ITS FALSE NEIGHBOUR: 'it returns false'. Refute it at one input. -/
def operOnlyWrong : ChangeSpec := { name := "operOnly", fn := fun _ => fun
  | [d] => { results := [.lit (.bool false)], args := [d] }
  | _ => none }
def OperOnlyWrongFalsely : Prop := operOnlyRow.holds Tryd.pinned (OpenSpec.ofChange operOnlyWrong)

/-- 'shalelaw18.OperSpoilt': WHATEVER THE INPUT: true; the input reads as it did. -/
def operSpoiltSpec : ChangeSpec := { name := "operSpoilt", fn := fun _ => fun
  | [d1, d2, d3] => { results := [.lit (.bool true)], args := [d1, d2, d3] }
  | _ => none }
def operSpoiltRow : OpenClaim := { program := "ytabhfopmblaohaadoor", sum := "6ef2c9615ee48070fcfaeadd19134f2d15b25e0fd54f1c58fc38eeb6a5d33b53", func := "shale/shalelaw18.OperSpoilt", spec := "operSpoilt", inPlace := ["internal/abi.NoEscape", "internal/bytealg.MakeNoZero", "internal/reflectlite.ValueOf", "(internal/reflectlite.Value).Type", "(internal/reflectlite.Value).IsNil", "internal/reflectlite.TypeOf", "(internal/reflectlite.Value).Elem", "(internal/reflectlite.Value).Set"], unfollowed := true, recurses := true, named := ["errors.errorType"], apart := false, laid := [("errors.errorType", laid_errors_errorType)] }
def OperSpoiltSaid : Prop := operSpoiltRow.holds Tryd.pinned (OpenSpec.ofChange operSpoiltSpec)

/-- ITS FALSE NEIGHBOUR: 'it returns false'. Refute it at one input. -/
def operSpoiltWrong : ChangeSpec := { name := "operSpoilt", fn := fun _ => fun
  | [d1, d2, d3] => { results := [.lit (.bool false)], args := [d1, d2, d3] }
  | _ => none }
def OperSpoiltWrongFalsely : Prop := operSpoiltRow.holds Tryd.pinned (OpenSpec.ofChange operSpoiltWrong)

/- THE SECOND FORM. 'bulk': how many values and letters a reading holds, each counted each time it is reached (what is shared counts as often as it is met; a slice's spare places count too). A statement '..UptoSaid' is the law's where the arguments, and the package variables that the reading takes, are together of bulk at most 1048576: NARROWER than '..Said'. Prove '..Said' where nothing that the law and all that it calls make is longer than what came in: it says more and counts as full. Else prove '..UptoSaid'. A law counts once. -/
mutual
def uptoBulk {H : Type} : DataW H → Nat
  | .lit (.string bytes) => bytes.length + 1
  | .lit _ => 1
  | .nil => 1
  | .ptr d => uptoBulk d + 1
  | .slice elems spare => uptoBulkAll elems + uptoBulkAll spare + 1
  | .agg parts => uptoBulkAll parts + 1
  | .iface _ d => uptoBulk d + 1
  | .map entries => uptoBulkEntries entries + 1
  | .held _ => 1
def uptoBulkAll {H : Type} : List (DataW H) → Nat
  | [] => 0
  | d :: r => uptoBulk d + uptoBulkAll r
def uptoBulkEntries {H : Type} : List (Lit × DataW H) → Nat
  | [] => 0
  | x :: r => uptoBulkEntry x + uptoBulkEntries r
def uptoBulkEntry {H : Type} : Lit × DataW H → Nat
  | (.string bytes, d) => bytes.length + uptoBulk d + 1
  | (_, d) => uptoBulk d + 1
 end
def uptoSmall : (H : Type) → List (DataW H) → Bool := fun _ ds => decide (uptoBulkAll ds ≤ 1048576)
def OpenSpec.upto (s : _root_.Go.ChangeSpec) : _root_.Go.OpenSpec := { _root_.Go.OpenSpec.ofChange s with cond := some uptoSmall }

/-- 'shalelaw18.OperUnlike', WHERE WHAT IT READS IS OF BULK AT MOST 1048576: true; the input reads as it did. -/
def operUnlikeUptoRow : OpenClaim := { program := "ytabhfopmblaohaadoor", sum := "6ef2c9615ee48070fcfaeadd19134f2d15b25e0fd54f1c58fc38eeb6a5d33b53", func := "shale/shalelaw18.OperUnlike", spec := "operUnlike", inPlace := ["internal/abi.NoEscape", "internal/bytealg.MakeNoZero", "internal/reflectlite.ValueOf", "(internal/reflectlite.Value).Type", "(internal/reflectlite.Value).IsNil", "internal/reflectlite.TypeOf", "(internal/reflectlite.Value).Elem", "(internal/reflectlite.Value).Set"], unfollowed := true, recurses := true, named := ["errors.errorType"], apart := false, laid := [("errors.errorType", laid_errors_errorType)], narrowed := true }
def OperUnlikeUptoSaid : Prop := operUnlikeUptoRow.holds Tryd.pinned (OpenSpec.upto operUnlikeSpec)

/-- 'shalelaw18.OperPlays', WHERE WHAT IT READS IS OF BULK AT MOST 1048576: true; the input reads as it did. -/
def operPlaysUptoRow : OpenClaim := { program := "ytabhfopmblaohaadoor", sum := "6ef2c9615ee48070fcfaeadd19134f2d15b25e0fd54f1c58fc38eeb6a5d33b53", func := "shale/shalelaw18.OperPlays", spec := "operPlays", inPlace := ["internal/abi.NoEscape", "internal/bytealg.MakeNoZero", "internal/reflectlite.ValueOf", "(internal/reflectlite.Value).Type", "(internal/reflectlite.Value).IsNil", "internal/reflectlite.TypeOf", "(internal/reflectlite.Value).Elem", "(internal/reflectlite.Value).Set"], unfollowed := true, recurses := true, named := ["errors.errorType"], apart := false, laid := [("errors.errorType", laid_errors_errorType)], narrowed := true }
def OperPlaysUptoSaid : Prop := operPlaysUptoRow.holds Tryd.pinned (OpenSpec.upto operPlaysSpec)

/-- 'shalelaw18.OperBack', WHERE WHAT IT READS IS OF BULK AT MOST 1048576: true; the input reads as it did. -/
def operBackUptoRow : OpenClaim := { program := "ytabhfopmblaohaadoor", sum := "6ef2c9615ee48070fcfaeadd19134f2d15b25e0fd54f1c58fc38eeb6a5d33b53", func := "shale/shalelaw18.OperBack", spec := "operBack", inPlace := ["internal/abi.NoEscape", "internal/bytealg.MakeNoZero", "internal/reflectlite.ValueOf", "(internal/reflectlite.Value).Type", "(internal/reflectlite.Value).IsNil", "internal/reflectlite.TypeOf", "(internal/reflectlite.Value).Elem", "(internal/reflectlite.Value).Set"], unfollowed := true, recurses := true, named := ["errors.errorType"], apart := false, laid := [("errors.errorType", laid_errors_errorType)], narrowed := true }
def OperBackUptoSaid : Prop := operBackUptoRow.holds Tryd.pinned (OpenSpec.upto operBackSpec)

/-- 'shalelaw18.OperOnly', WHERE WHAT IT READS IS OF BULK AT MOST 1048576: true; the input reads as it did. -/
def operOnlyUptoRow : OpenClaim := { program := "ytabhfopmblaohaadoor", sum := "6ef2c9615ee48070fcfaeadd19134f2d15b25e0fd54f1c58fc38eeb6a5d33b53", func := "shale/shalelaw18.OperOnly", spec := "operOnly", inPlace := ["internal/abi.NoEscape", "internal/bytealg.MakeNoZero", "internal/reflectlite.ValueOf", "(internal/reflectlite.Value).Type", "(internal/reflectlite.Value).IsNil", "internal/reflectlite.TypeOf", "(internal/reflectlite.Value).Elem", "(internal/reflectlite.Value).Set"], unfollowed := true, recurses := true, named := ["errors.errorType"], apart := false, laid := [("errors.errorType", laid_errors_errorType)], narrowed := true }
def OperOnlyUptoSaid : Prop := operOnlyUptoRow.holds Tryd.pinned (OpenSpec.upto operOnlySpec)

/-- 'shalelaw18.OperSpoilt', WHERE WHAT IT READS IS OF BULK AT MOST 1048576: true; the input reads as it did. -/
def operSpoiltUptoRow : OpenClaim := { program := "ytabhfopmblaohaadoor", sum := "6ef2c9615ee48070fcfaeadd19134f2d15b25e0fd54f1c58fc38eeb6a5d33b53", func := "shale/shalelaw18.OperSpoilt", spec := "operSpoilt", inPlace := ["internal/abi.NoEscape", "internal/bytealg.MakeNoZero", "internal/reflectlite.ValueOf", "(internal/reflectlite.Value).Type", "(internal/reflectlite.Value).IsNil", "internal/reflectlite.TypeOf", "(internal/reflectlite.Value).Elem", "(internal/reflectlite.Value).Set"], unfollowed := true, recurses := true, named := ["errors.errorType"], apart := false, laid := [("errors.errorType", laid_errors_errorType)], narrowed := true }
def OperSpoiltUptoSaid : Prop := operSpoiltUptoRow.holds Tryd.pinned (OpenSpec.upto operSpoiltSpec)

end Rows
end Go.Proofs.YtabhfopmblaohaaDoor
