/-
  NARROWER THAN 'FOR EVERY INPUT', by the rows' own cells (each row's printed sentence says how): FailTexts: laid · FailTrails: laid · FailCodes: laid · FailUnlike: laid.
  DERIVED. THE GIVEN ROWS OF THIS SEAT. 4 by the template 'for every input the law returns true; each argument reads behind the call as it read before'; 0 by the template 'total and deterministic' (their statements: YtmccdopagidfnaaDoorTotals.lean).
  GIVEN WITH THE SEED: the statements are not yours to turn. If you find one false, say at which input.
  Laid BY PROGRAM, IN A SANDBOX (cutbox-rows.mjs): the forced cells as the released guide's own fill.sh prints them over the translation 98d0984fc30b7b13… (all of the seat's roots in one cut). By AI agents, Wed Nov 11 2026. No macro, syntax, notation, axiom, sorry.
-/
import Derived.Test.YtmccdopagidfnaaDoorChecked
import GoSem.Claim
import GoSem.ClaimJoined
import GoSem.ClaimMapViews
import Derived.JoinedTies
import Derived.KernelRfl
namespace Go.Proofs.YtmccdopagidfnaaDoor
/- THE CELL 'sum', in the pinned program and in every row, IS THE sha256 OF THE DUMP (.gsa) THAT YtmccdopagidfnaaDoorProg.lean LOADS. Nothing in Lean hashes anything: it is a label: what it is worth is what the hold of that sum in a sandbox is worth. -/
noncomputable def Tryd.pinned : Pinned := { name := "ytmccdopagidfnaadoor", sum := "98d0984fc30b7b13fda75c5495ca3405053cb04b61fb0acb47c7889f74d6c891", checked := Tryd.checked }
namespace Rows
def none {H : Type} : Left H := { results := [], args := [] }

/- WHAT THE LISTED PACKAGE-LEVEL VARIABLES READ AS WHEN THE CALL BEGINS. Each datum BY PROGRAM (the guide's laid-datum.mjs) off the statement by which the dump's own 'gosem.cut.vars' lays the variable. In a bare row this is a premise. The card (YtmccdopagidfnaaDoorCards.lean) ties it to the program's text. -/
def laid_errors_errorType {H : Type} : DataW H := .iface "internal/reflectlite.rtype" (.agg [.ptr (.lit (.string [101, 114, 114, 111, 114]))])

/-- 'shalelaw01.FailTexts': WHATEVER THE INPUT: true; the input reads as it did. -/
def failTextsSpec : ChangeSpec := { name := "failTexts", fn := fun _ => fun
  | [d1, d2] => { results := [.lit (.bool true)], args := [d1, d2] }
  | _ => none }
def failTextsRow : OpenClaim := { program := "ytmccdopagidfnaadoor", sum := "98d0984fc30b7b13fda75c5495ca3405053cb04b61fb0acb47c7889f74d6c891", func := "shale/shalelaw01.FailTexts", spec := "failTexts", inPlace := ["internal/reflectlite.ValueOf", "(internal/reflectlite.Value).Type", "(internal/reflectlite.Value).IsNil", "internal/reflectlite.TypeOf", "(internal/reflectlite.Value).Elem", "(internal/reflectlite.Value).Set"], unfollowed := true, recurses := true, named := ["errors.errorType"], apart := false, laid := [("errors.errorType", laid_errors_errorType)] }
def FailTextsSaid : Prop := failTextsRow.holds Tryd.pinned (OpenSpec.ofChange failTextsSpec)

/-- ITS FALSE NEIGHBOUR: 'it returns false'. Refute it at one input. -/
def failTextsWrong : ChangeSpec := { name := "failTexts", fn := fun _ => fun
  | [d1, d2] => { results := [.lit (.bool false)], args := [d1, d2] }
  | _ => none }
def FailTextsWrongFalsely : Prop := failTextsRow.holds Tryd.pinned (OpenSpec.ofChange failTextsWrong)

/-- 'shalelaw01.FailTrails': WHATEVER THE INPUT: true; the input reads as it did. -/
def failTrailsSpec : ChangeSpec := { name := "failTrails", fn := fun _ => fun
  | [d1, d2, d3, d4] => { results := [.lit (.bool true)], args := [d1, d2, d3, d4] }
  | _ => none }
def failTrailsRow : OpenClaim := { program := "ytmccdopagidfnaadoor", sum := "98d0984fc30b7b13fda75c5495ca3405053cb04b61fb0acb47c7889f74d6c891", func := "shale/shalelaw01.FailTrails", spec := "failTrails", inPlace := ["internal/reflectlite.ValueOf", "(internal/reflectlite.Value).Type", "(internal/reflectlite.Value).IsNil", "internal/reflectlite.TypeOf", "(internal/reflectlite.Value).Elem", "(internal/reflectlite.Value).Set"], unfollowed := true, recurses := true, named := ["errors.errorType"], apart := false, laid := [("errors.errorType", laid_errors_errorType)] }
def FailTrailsSaid : Prop := failTrailsRow.holds Tryd.pinned (OpenSpec.ofChange failTrailsSpec)

/-- ITS FALSE NEIGHBOUR: 'it returns false'. Refute it at one input. -/
def failTrailsWrong : ChangeSpec := { name := "failTrails", fn := fun _ => fun
  | [d1, d2, d3, d4] => { results := [.lit (.bool false)], args := [d1, d2, d3, d4] }
  | _ => none }
def FailTrailsWrongFalsely : Prop := failTrailsRow.holds Tryd.pinned (OpenSpec.ofChange failTrailsWrong)

/-- 'shalelaw01.FailCodes': WHATEVER THE INPUT: true; the input reads as it did. -/
def failCodesSpec : ChangeSpec := { name := "failCodes", fn := fun _ => fun
  | [d1, d2, d3] => { results := [.lit (.bool true)], args := [d1, d2, d3] }
  | _ => none }
def failCodesRow : OpenClaim := { program := "ytmccdopagidfnaadoor", sum := "98d0984fc30b7b13fda75c5495ca3405053cb04b61fb0acb47c7889f74d6c891", func := "shale/shalelaw01.FailCodes", spec := "failCodes", inPlace := ["internal/reflectlite.ValueOf", "(internal/reflectlite.Value).Type", "(internal/reflectlite.Value).IsNil", "internal/reflectlite.TypeOf", "(internal/reflectlite.Value).Elem", "(internal/reflectlite.Value).Set"], unfollowed := true, recurses := true, named := ["errors.errorType"], apart := false, laid := [("errors.errorType", laid_errors_errorType)] }
def FailCodesSaid : Prop := failCodesRow.holds Tryd.pinned (OpenSpec.ofChange failCodesSpec)

/-- ITS FALSE NEIGHBOUR: 'it returns false'. Refute it at one input. -/
def failCodesWrong : ChangeSpec := { name := "failCodes", fn := fun _ => fun
  | [d1, d2, d3] => { results := [.lit (.bool false)], args := [d1, d2, d3] }
  | _ => none }
def FailCodesWrongFalsely : Prop := failCodesRow.holds Tryd.pinned (OpenSpec.ofChange failCodesWrong)

/-- 'shalelaw01.FailUnlike': WHATEVER THE INPUT: true; the input reads as it did. -/
def failUnlikeSpec : ChangeSpec := { name := "failUnlike", fn := fun _ => fun
  | [d1, d2] => { results := [.lit (.bool true)], args := [d1, d2] }
  | _ => none }
def failUnlikeRow : OpenClaim := { program := "ytmccdopagidfnaadoor", sum := "98d0984fc30b7b13fda75c5495ca3405053cb04b61fb0acb47c7889f74d6c891", func := "shale/shalelaw01.FailUnlike", spec := "failUnlike", inPlace := ["internal/reflectlite.ValueOf", "(internal/reflectlite.Value).Type", "(internal/reflectlite.Value).IsNil", "internal/reflectlite.TypeOf", "(internal/reflectlite.Value).Elem", "(internal/reflectlite.Value).Set"], unfollowed := true, recurses := true, named := ["errors.errorType"], apart := false, laid := [("errors.errorType", laid_errors_errorType)] }
def FailUnlikeSaid : Prop := failUnlikeRow.holds Tryd.pinned (OpenSpec.ofChange failUnlikeSpec)

/-- ITS FALSE NEIGHBOUR: 'it returns false'. Refute it at one input. -/
def failUnlikeWrong : ChangeSpec := { name := "failUnlike", fn := fun _ => fun
  | [d1, d2] => { results := [.lit (.bool false)], args := [d1, d2] }
  | _ => none }
def FailUnlikeWrongFalsely : Prop := failUnlikeRow.holds Tryd.pinned (OpenSpec.ofChange failUnlikeWrong)

/- THE SECOND FORM. 'bulk': how many values and letters a reading holds, each counted each time it is reached (what is shared counts as often as it is met; a slice's spare places count too). A statement '..UptoSaid' is the law's where the arguments, and the package variables that the reading takes, are together of bulk at most 1048576: NARROWER than '..Said'. Prove '..Said' where nothing that the law and all that it calls make is longer than what came in: it says more and counts as full. Else prove '..UptoSaid'. A law counts once. -/
mutual
def uptoBulk {H : Type} : DataW H → Nat
  | .lit (.string bytes) => bytes.length + 1
  | .lit _ => 1
  | .nil => 1
  | .ptr d => uptoBulk d + 1
  | .slice elems spare => uptoBulkAll elems + uptoBulkAll spare + 1
  | .agg parts => uptoBulkAll parts + 1
  | .iface _ d => uptoBulk d + 1
  | .map entries => uptoBulkEntries entries + 1
  | .held _ => 1
def uptoBulkAll {H : Type} : List (DataW H) → Nat
  | [] => 0
  | d :: r => uptoBulk d + uptoBulkAll r
def uptoBulkEntries {H : Type} : List (Lit × DataW H) → Nat
  | [] => 0
  | x :: r => uptoBulkEntry x + uptoBulkEntries r
def uptoBulkEntry {H : Type} : Lit × DataW H → Nat
  | (.string bytes, d) => bytes.length + uptoBulk d + 1
  | (_, d) => uptoBulk d + 1
 end
def uptoSmall : (H : Type) → List (DataW H) → Bool := fun _ ds => decide (uptoBulkAll ds ≤ 1048576)
def OpenSpec.upto (s : _root_.Go.ChangeSpec) : _root_.Go.OpenSpec := { _root_.Go.OpenSpec.ofChange s with cond := some uptoSmall }

/-- 'shalelaw01.FailTexts', WHERE WHAT IT READS IS OF BULK AT MOST 1048576: true; the input reads as it did. -/
def failTextsUptoRow : OpenClaim := { program := "ytmccdopagidfnaadoor", sum := "98d0984fc30b7b13fda75c5495ca3405053cb04b61fb0acb47c7889f74d6c891", func := "shale/shalelaw01.FailTexts", spec := "failTexts", inPlace := ["internal/reflectlite.ValueOf", "(internal/reflectlite.Value).Type", "(internal/reflectlite.Value).IsNil", "internal/reflectlite.TypeOf", "(internal/reflectlite.Value).Elem", "(internal/reflectlite.Value).Set"], unfollowed := true, recurses := true, named := ["errors.errorType"], apart := false, laid := [("errors.errorType", laid_errors_errorType)], narrowed := true }
def FailTextsUptoSaid : Prop := failTextsUptoRow.holds Tryd.pinned (OpenSpec.upto failTextsSpec)

/-- 'shalelaw01.FailTrails', WHERE WHAT IT READS IS OF BULK AT MOST 1048576: true; the input reads as it did. -/
def failTrailsUptoRow : OpenClaim := { program := "ytmccdopagidfnaadoor", sum := "98d0984fc30b7b13fda75c5495ca3405053cb04b61fb0acb47c7889f74d6c891", func := "shale/shalelaw01.FailTrails", spec := "failTrails", inPlace := ["internal/reflectlite.ValueOf", "(internal/reflectlite.Value).Type", "(internal/reflectlite.Value).IsNil", "internal/reflectlite.TypeOf", "(internal/reflectlite.Value).Elem", "(internal/reflectlite.Value).Set"], unfollowed := true, recurses := true, named := ["errors.errorType"], apart := false, laid := [("errors.errorType", laid_errors_errorType)], narrowed := true }
def FailTrailsUptoSaid : Prop := failTrailsUptoRow.holds Tryd.pinned (OpenSpec.upto failTrailsSpec)

/-- 'shalelaw01.FailCodes', WHERE WHAT IT READS IS OF BULK AT MOST 1048576: true; the input reads as it did. -/
def failCodesUptoRow : OpenClaim := { program := "ytmccdopagidfnaadoor", sum := "98d0984fc30b7b13fda75c5495ca3405053cb04b61fb0acb47c7889f74d6c891", func := "shale/shalelaw01.FailCodes", spec := "failCodes", inPlace := ["internal/reflectlite.ValueOf", "(internal/reflectlite.Value).Type", "(internal/reflectlite.Value).IsNil", "internal/reflectlite.TypeOf", "(internal/reflectlite.Value).Elem", "(internal/reflectlite.Value).Set"], unfollowed := true, recurses := true, named := ["errors.errorType"], apart := false, laid := [("errors.errorType", laid_errors_errorType)], narrowed := true }
def FailCodesUptoSaid : Prop := failCodesUptoRow.holds Tryd.pinned (OpenSpec.upto failCodesSpec)

/-- 'shalelaw01.FailUnlike', WHERE WHAT IT READS IS OF BULK AT MOST 1048576: true; the input reads as it did. -/
def failUnlikeUptoRow : OpenClaim := { program := "ytmccdopagidfnaadoor", sum := "98d0984fc30b7b13fda75c5495ca3405053cb04b61fb0acb47c7889f74d6c891", func := "shale/shalelaw01.FailUnlike", spec := "failUnlike", inPlace := ["internal/reflectlite.ValueOf", "(internal/reflectlite.Value).Type", "(internal/reflectlite.Value).IsNil", "internal/reflectlite.TypeOf", "(internal/reflectlite.Value).Elem", "(internal/reflectlite.Value).Set"], unfollowed := true, recurses := true, named := ["errors.errorType"], apart := false, laid := [("errors.errorType", laid_errors_errorType)], narrowed := true }
def FailUnlikeUptoSaid : Prop := failUnlikeUptoRow.holds Tryd.pinned (OpenSpec.upto failUnlikeSpec)

end Rows
end Go.Proofs.YtmccdopagidfnaaDoor
