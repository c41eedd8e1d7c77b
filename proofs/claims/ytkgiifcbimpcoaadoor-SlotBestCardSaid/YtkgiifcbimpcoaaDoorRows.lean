/-
  NARROWER THAN 'FOR EVERY INPUT', by the rows' own cells (each row's printed sentence says how): SlotBack: laid · SlotPlays: laid · SlotBest: laid · SlotGreater: laid · SlotUnlike: laid · SlotSwitches: laid.
  DERIVED. THE GIVEN ROWS OF THIS SEAT. 6 by the template 'for every input the law returns true; each argument reads behind the call as it read before'; 0 by the template 'total and deterministic' (their statements: YtkgiifcbimpcoaaDoorTotals.lean).
  GIVEN WITH THE SEED: the statements are not yours to turn. If you find one false, say at which input.
  Laid BY PROGRAM, IN A SANDBOX (cutbox-rows.mjs): the forced cells as the released guide's own fill.sh prints them over the translation e1ff6b4817336113… (all of the seat's roots in one cut). By AI agents, Wed Nov 11 2026. No macro, syntax, notation, axiom, sorry.
-/
import Derived.Test.YtkgiifcbimpcoaaDoorChecked
import GoSem.Claim
import GoSem.ClaimJoined
import GoSem.ClaimMapViews
import Derived.JoinedTies
import Derived.KernelRfl
namespace Go.Proofs.YtkgiifcbimpcoaaDoor
/- THE CELL 'sum', in the pinned program and in every row, IS THE sha256 OF THE DUMP (.gsa) THAT YtkgiifcbimpcoaaDoorProg.lean LOADS. Nothing in Lean hashes anything: it is a label: what it is worth is what the hold of that sum in a sandbox is worth. -/
noncomputable def Tryd.pinned : Pinned := { name := "ytkgiifcbimpcoaadoor", sum := "e1ff6b4817336113b4dd253084cb46ebea4acff5ca1d5ba7bc383edb396f59b9", checked := Tryd.checked }
namespace Rows
def none {H : Type} : Left H := { results := [], args := [] }

/- WHAT THE LISTED PACKAGE-LEVEL VARIABLES READ AS WHEN THE CALL BEGINS. Each datum BY PROGRAM (the guide's laid-datum.mjs) off the statement by which the dump's own 'gosem.cut.vars' lays the variable. In a bare row this is a premise. The card (YtkgiifcbimpcoaaDoorCards.lean) ties it to the program's text. -/
def laid_errors_errorType {H : Type} : DataW H := .iface "internal/reflectlite.rtype" (.agg [.ptr (.lit (.string [101, 114, 114, 111, 114]))])

/-- 'shalelaw19.SlotBack': WHATEVER THE INPUT: true; the input reads as it did. -/
def slotBackSpec : ChangeSpec := { name := "slotBack", fn := fun _ => fun
  | [d1, d2, d3] => { results := [.lit (.bool true)], args := [d1, d2, d3] }
  | _ => none }
def slotBackRow : OpenClaim := { program := "ytkgiifcbimpcoaadoor", sum := "e1ff6b4817336113b4dd253084cb46ebea4acff5ca1d5ba7bc383edb396f59b9", func := "shale/shalelaw19.SlotBack", spec := "slotBack", inPlace := ["internal/reflectlite.ValueOf", "(internal/reflectlite.Value).Type", "(internal/reflectlite.Value).IsNil", "internal/reflectlite.TypeOf", "(internal/reflectlite.Value).Elem", "(internal/reflectlite.Value).Set"], unfollowed := true, recurses := true, named := ["errors.errorType"], apart := false, laid := [("errors.errorType", laid_errors_errorType)] }
def SlotBackSaid : Prop := slotBackRow.holds Tryd.pinned (OpenSpec.ofChange slotBackSpec)

/-- ITS FALSE NEIGHBOUR: 'it returns false'. Refute it at one input. -/
def slotBackWrong : ChangeSpec := { name := "slotBack", fn := fun _ => fun
  | [d1, d2, d3] => { results := [.lit (.bool false)], args := [d1, d2, d3] }
  | _ => none }
def SlotBackWrongFalsely : Prop := slotBackRow.holds Tryd.pinned (OpenSpec.ofChange slotBackWrong)

/-- 'shalelaw19.SlotPlays': WHATEVER THE INPUT: true; the input reads as it did. -/
def slotPlaysSpec : ChangeSpec := { name := "slotPlays", fn := fun _ => fun
  | [d1, d2, d3] => { results := [.lit (.bool true)], args := [d1, d2, d3] }
  | _ => none }
def slotPlaysRow : OpenClaim := { program := "ytkgiifcbimpcoaadoor", sum := "e1ff6b4817336113b4dd253084cb46ebea4acff5ca1d5ba7bc383edb396f59b9", func := "shale/shalelaw19.SlotPlays", spec := "slotPlays", inPlace := ["internal/reflectlite.ValueOf", "(internal/reflectlite.Value).Type", "(internal/reflectlite.Value).IsNil", "internal/reflectlite.TypeOf", "(internal/reflectlite.Value).Elem", "(internal/reflectlite.Value).Set"], unfollowed := true, recurses := true, named := ["errors.errorType"], apart := false, laid := [("errors.errorType", laid_errors_errorType)] }
def SlotPlaysSaid : Prop := slotPlaysRow.holds Tryd.pinned (OpenSpec.ofChange slotPlaysSpec)

/-- ITS FALSE NEIGHBOUR: 'it returns false'. Refute it at one input. -/
def slotPlaysWrong : ChangeSpec := { name := "slotPlays", fn := fun _ => fun
  | [d1, d2, d3] => { results := [.lit (.bool false)], args := [d1, d2, d3] }
  | _ => none }
def SlotPlaysWrongFalsely : Prop := slotPlaysRow.holds Tryd.pinned (OpenSpec.ofChange slotPlaysWrong)

/-- 'shalelaw19.SlotBest': WHATEVER THE INPUT: true; the input reads as it did. -/
def slotBestSpec : ChangeSpec := { name := "slotBest", fn := fun _ => fun
  | [d1, d2] => { results := [.lit (.bool true)], args := [d1, d2] }
  | _ => none }
def slotBestRow : OpenClaim := { program := "ytkgiifcbimpcoaadoor", sum := "e1ff6b4817336113b4dd253084cb46ebea4acff5ca1d5ba7bc383edb396f59b9", func := "shale/shalelaw19.SlotBest", spec := "slotBest", inPlace := ["internal/reflectlite.ValueOf", "(internal/reflectlite.Value).Type", "(internal/reflectlite.Value).IsNil", "internal/reflectlite.TypeOf", "(internal/reflectlite.Value).Elem", "(internal/reflectlite.Value).Set"], unfollowed := true, recurses := true, named := ["errors.errorType"], apart := false, laid := [("errors.errorType", laid_errors_errorType)] }
def SlotBestSaid : Prop := slotBestRow.holds Tryd.pinned (OpenSpec.ofChange slotBestSpec)

/-- ITS FALSE NEIGHBOUR: 'it returns false'. Refute it at one input. -/
def slotBestWrong : ChangeSpec := { name := "slotBest", fn := fun _ => fun
  | [d1, d2] => { results := [.lit (.bool false)], args := [d1, d2] }
  | _ => none }
def SlotBestWrongFalsely : Prop := slotBestRow.holds Tryd.pinned (OpenSpec.ofChange slotBestWrong)

/-- 'shalelaw19.SlotGreater': WHATEVER THE INPUT: true; the input reads as it did. -/
def slotGreaterSpec : ChangeSpec := { name := "slotGreater", fn := fun _ => fun
  | [d1, d2, d3, d4] => { results := [.lit (.bool true)], args := [d1, d2, d3, d4] }
  | _ => none }
def slotGreaterRow : OpenClaim := { program := "ytkgiifcbimpcoaadoor", sum := "e1ff6b4817336113b4dd253084cb46ebea4acff5ca1d5ba7bc383edb396f59b9", func := "shale/shalelaw19.SlotGreater", spec := "slotGreater", inPlace := ["internal/reflectlite.ValueOf", "(internal/reflectlite.Value).Type", "(internal/reflectlite.Value).IsNil", "internal/reflectlite.TypeOf", "(internal/reflectlite.Value).Elem", "(internal/reflectlite.Value).Set"], unfollowed := true, recurses := true, named := ["errors.errorType"], apart := false, laid := [("errors.errorType", laid_errors_errorType)] }
def SlotGreaterSaid : Prop := slotGreaterRow.holds Tryd.pinned (OpenSpec.ofChange slotGreaterSpec)

/-- ITS FALSE NEIGHBOUR: 'it returns false'. Refute it at one input. -/
def slotGreaterWrong : ChangeSpec := { name := "slotGreater", fn := fun _ => fun
  | [d1, d2, d3, d4] => { results := [.lit (.bool false)], args := [d1, d2, d3, d4] }
  | _ => none }
def SlotGreaterWrongFalsely : Prop := slotGreaterRow.holds Tryd.pinned (OpenSpec.ofChange slotGreaterWrong)

/-- 'shalelaw19.SlotUnlike': WHATEVER THE INPUT: true; the input reads as it did. -/
def slotUnlikeSpec : ChangeSpec := { name := "slotUnlike", fn := fun _ => fun
  | [d1, d2] => { results := [.lit (.bool true)], args := [d1, d2] }
  | _ => none }
def slotUnlikeRow : OpenClaim := { program := "ytkgiifcbimpcoaadoor", sum := "e1ff6b4817336113b4dd253084cb46ebea4acff5ca1d5ba7bc383edb396f59b9", func := "shale/shalelaw19.SlotUnlike", spec := "slotUnlike", inPlace := ["internal/reflectlite.ValueOf", "(internal/reflectlite.Value).Type", "(internal/reflectlite.Value).IsNil", "internal/reflectlite.TypeOf", "(internal/reflectlite.Value).Elem", "(internal/reflectlite.Value).Set"], unfollowed := true, recurses := true, named := ["errors.errorType"], apart := false, laid := [("errors.errorType", laid_errors_errorType)] }
def SlotUnlikeSaid : Prop := slotUnlikeRow.holds Tryd.pinned (OpenSpec.ofChange slotUnlikeSpec)

/-- ITS FALSE NEIGHBOUR: 'it returns false'. Refute it at one input. -/
def slotUnlikeWrong : ChangeSpec := { name := "slotUnlike", fn := fun _ => fun
  | [d1, d2] => { results := [.lit (.bool false)], args := [d1, d2] }
  | _ => none }
def SlotUnlikeWrongFalsely : Prop := slotUnlikeRow.holds Tryd.pinned (OpenSpec.ofChange slotUnlikeWrong)

/-- 'shalelaw19.SlotSwitches': WHATEVER THE INPUT: true; the input reads as it did. -/
def slotSwitchesSpec : ChangeSpec := { name := "slotSwitches", fn := fun _ => fun
  | [d1, d2, d3, d4] => { results := [.lit (.bool true)], args := [d1, d2, d3, d4] }
  | _ => none }
def slotSwitchesRow : OpenClaim := { program := "ytkgiifcbimpcoaadoor", sum := "e1ff6b4817336113b4dd253084cb46ebea4acff5ca1d5ba7bc383edb396f59b9", func := "shale/shalelaw19.SlotSwitches", spec := "slotSwitches", inPlace := ["internal/reflectlite.ValueOf", "(internal/reflectlite.Value).Type", "(internal/reflectlite.Value).IsNil", "internal/reflectlite.TypeOf", "(internal/reflectlite.Value).Elem", "(internal/reflectlite.Value).Set"], unfollowed := true, recurses := true, named := ["errors.errorType"], apart := false, laid := [("errors.errorType", laid_errors_errorType)] }
def SlotSwitchesSaid : Prop := slotSwitchesRow.holds Tryd.pinned (OpenSpec.ofChange slotSwitchesSpec)

/-- ITS FALSE NEIGHBOUR: 'it returns false'. Refute it at one input. -/
def slotSwitchesWrong : ChangeSpec := { name := "slotSwitches", fn := fun _ => fun
  | [d1, d2, d3, d4] => { results := [.lit (.bool false)], args := [d1, d2, d3, d4] }
  | _ => none }
def SlotSwitchesWrongFalsely : Prop := slotSwitchesRow.holds Tryd.pinned (OpenSpec.ofChange slotSwitchesWrong)

/- THE SECOND FORM. 'bulk': how many values and letters a reading holds, each counted each time it is reached (what is shared counts as often as it is met; a slice's spare places count too). A statement '..UptoSaid' is the law's where the arguments, and the package variables that the reading takes, are together of bulk at most 1048576: NARROWER than '..Said'. Prove '..Said' where nothing that the law and all that it calls make is longer than what came in: it says more and counts as full. Else prove '..UptoSaid'. A law counts once. -/
mutual
def uptoBulk {H : Type} : DataW H → Nat
  | .lit (.string bytes) => bytes.length + 1
  | .lit _ => 1
  | .nil => 1
  | .ptr d => uptoBulk d + 1
  | .slice elems spare => uptoBulkAll elems + uptoBulkAll spare + 1
  | .agg parts => uptoBulkAll parts + 1
  | .iface _ d => uptoBulk d + 1
  | .map entries => uptoBulkEntries entries + 1
  | .held _ => 1
def uptoBulkAll {H : Type} : List (DataW H) → Nat
  | [] => 0
  | d :: r => uptoBulk d + uptoBulkAll r
def uptoBulkEntries {H : Type} : List (Lit × DataW H) → Nat
  | [] => 0
  | x :: r => uptoBulkEntry x + uptoBulkEntries r
def uptoBulkEntry {H : Type} : Lit × DataW H → Nat
  | (.string bytes, d) => bytes.length + uptoBulk d + 1
  | (_, d) => uptoBulk d + 1
 end
def uptoSmall : (H : Type) → List (DataW H) → Bool := fun _ ds => decide (uptoBulkAll ds ≤ 1048576)
def OpenSpec.upto (s : _root_.Go.ChangeSpec) : _root_.Go.OpenSpec := { _root_.Go.OpenSpec.ofChange s with cond := some uptoSmall }

/-- 'shalelaw19.SlotBack', WHERE WHAT IT READS IS OF BULK AT MOST 1048576: true; the input reads as it did. -/
def slotBackUptoRow : OpenClaim := { program := "ytkgiifcbimpcoaadoor", sum := "e1ff6b4817336113b4dd253084cb46ebea4acff5ca1d5ba7bc383edb396f59b9", func := "shale/shalelaw19.SlotBack", spec := "slotBack", inPlace := ["internal/reflectlite.ValueOf", "(internal/reflectlite.Value).Type", "(internal/reflectlite.Value).IsNil", "internal/reflectlite.TypeOf", "(internal/reflectlite.Value).Elem", "(internal/reflectlite.Value).Set"], unfollowed := true, recurses := true, named := ["errors.errorType"], apart := false, laid := [("errors.errorType", laid_errors_errorType)], narrowed := true }
def SlotBackUptoSaid : Prop := slotBackUptoRow.holds Tryd.pinned (OpenSpec.upto slotBackSpec)

/-- 'shalelaw19.SlotPlays', WHERE WHAT IT READS IS OF BULK AT MOST 1048576: true; the input reads as it did. -/
def slotPlaysUptoRow : OpenClaim := { program := "ytkgiifcbimpcoaadoor", sum := "e1ff6b4817336113b4dd253084cb46ebea4acff5ca1d5ba7bc383edb396f59b9", func := "shale/shalelaw19.SlotPlays", spec := "slotPlays", inPlace := ["internal/reflectlite.ValueOf", "(internal/reflectlite.Value).Type", "(internal/reflectlite.Value).IsNil", "internal/reflectlite.TypeOf", "(internal/reflectlite.Value).Elem", "(internal/reflectlite.Value).Set"], unfollowed := true, recurses := true, named := ["errors.errorType"], apart := false, laid := [("errors.errorType", laid_errors_errorType)], narrowed := true }
def SlotPlaysUptoSaid : Prop := slotPlaysUptoRow.holds Tryd.pinned (OpenSpec.upto slotPlaysSpec)

/-- 'shalelaw19.SlotBest', WHERE WHAT IT READS IS OF BULK AT MOST 1048576: true; the input reads as it did. -/
def slotBestUptoRow : OpenClaim := { program := "ytkgiifcbimpcoaadoor", sum := "e1ff6b4817336113b4dd253084cb46ebea4acff5ca1d5ba7bc383edb396f59b9", func := "shale/shalelaw19.SlotBest", spec := "slotBest", inPlace := ["internal/reflectlite.ValueOf", "(internal/reflectlite.Value).Type", "(internal/reflectlite.Value).IsNil", "internal/reflectlite.TypeOf", "(internal/reflectlite.Value).Elem", "(internal/reflectlite.Value).Set"], unfollowed := true, recurses := true, named := ["errors.errorType"], apart := false, laid := [("errors.errorType", laid_errors_errorType)], narrowed := true }
def SlotBestUptoSaid : Prop := slotBestUptoRow.holds Tryd.pinned (OpenSpec.upto slotBestSpec)

/-- 'shalelaw19.SlotGreater', WHERE WHAT IT READS IS OF BULK AT MOST 1048576: true; the input reads as it did. -/
def slotGreaterUptoRow : OpenClaim := { program := "ytkgiifcbimpcoaadoor", sum := "e1ff6b4817336113b4dd253084cb46ebea4acff5ca1d5ba7bc383edb396f59b9", func := "shale/shalelaw19.SlotGreater", spec := "slotGreater", inPlace := ["internal/reflectlite.ValueOf", "(internal/reflectlite.Value).Type", "(internal/reflectlite.Value).IsNil", "internal/reflectlite.TypeOf", "(internal/reflectlite.Value).Elem", "(internal/reflectlite.Value).Set"], unfollowed := true, recurses := true, named := ["errors.errorType"], apart := false, laid := [("errors.errorType", laid_errors_errorType)], narrowed := true }
def SlotGreaterUptoSaid : Prop := slotGreaterUptoRow.holds Tryd.pinned (OpenSpec.upto slotGreaterSpec)

/-- 'shalelaw19.SlotUnlike', WHERE WHAT IT READS IS OF BULK AT MOST 1048576: true; the input reads as it did. -/
def slotUnlikeUptoRow : OpenClaim := { program := "ytkgiifcbimpcoaadoor", sum := "e1ff6b4817336113b4dd253084cb46ebea4acff5ca1d5ba7bc383edb396f59b9", func := "shale/shalelaw19.SlotUnlike", spec := "slotUnlike", inPlace := ["internal/reflectlite.ValueOf", "(internal/reflectlite.Value).Type", "(internal/reflectlite.Value).IsNil", "internal/reflectlite.TypeOf", "(internal/reflectlite.Value).Elem", "(internal/reflectlite.Value).Set"], unfollowed := true, recurses := true, named := ["errors.errorType"], apart := false, laid := [("errors.errorType", laid_errors_errorType)], narrowed := true }
def SlotUnlikeUptoSaid : Prop := slotUnlikeUptoRow.holds Tryd.pinned (OpenSpec.upto slotUnlikeSpec)

/-- 'shalelaw19.SlotSwitches', WHERE WHAT IT READS IS OF BULK AT MOST 1048576: true; the input reads as it did. -/
def slotSwitchesUptoRow : OpenClaim := { program := "ytkgiifcbimpcoaadoor", sum := "e1ff6b4817336113b4dd253084cb46ebea4acff5ca1d5ba7bc383edb396f59b9", func := "shale/shalelaw19.SlotSwitches", spec := "slotSwitches", inPlace := ["internal/reflectlite.ValueOf", "(internal/reflectlite.Value).Type", "(internal/reflectlite.Value).IsNil", "internal/reflectlite.TypeOf", "(internal/reflectlite.Value).Elem", "(internal/reflectlite.Value).Set"], unfollowed := true, recurses := true, named := ["errors.errorType"], apart := false, laid := [("errors.errorType", laid_errors_errorType)], narrowed := true }
def SlotSwitchesUptoSaid : Prop := slotSwitchesUptoRow.holds Tryd.pinned (OpenSpec.upto slotSwitchesSpec)

end Rows
end Go.Proofs.YtkgiifcbimpcoaaDoor
