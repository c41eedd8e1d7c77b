/-
  NARROWER THAN 'FOR EVERY INPUT', by the rows' own cells (each row's printed sentence says how): ManiUses: laid · ManiDrops: laid · ManiBack: laid · ManiReads: laid.
  DERIVED. THE GIVEN ROWS OF THIS SEAT. 4 by the template 'for every input the law returns true; each argument reads behind the call as it read before'; 0 by the template 'total and deterministic' (their statements: YtpijilfkmkdghaaDoorTotals.lean).
  GIVEN WITH THE SEED: the statements are not yours to turn. If you find one false, say at which input.
  Laid BY PROGRAM, IN A SANDBOX (cutbox-rows.mjs): the forced cells as the released guide's own fill.sh prints them over the translation 57dc5731e241091c… (all of the seat's roots in one cut). By AI agents, Wed Nov 11 2026. No macro, syntax, notation, axiom, sorry.
-/
import Derived.Test.YtpijilfkmkdghaaDoorChecked
import GoSem.Claim
import GoSem.ClaimJoined
import GoSem.ClaimMapViews
import Derived.JoinedTies
import Derived.KernelRfl
namespace Go.Proofs.YtpijilfkmkdghaaDoor
/- THE CELL 'sum', in the pinned program and in every row, IS THE sha256 OF THE DUMP (.gsa) THAT YtpijilfkmkdghaaDoorProg.lean LOADS. Nothing in Lean hashes anything: it is a label: what it is worth is what the hold of that sum in a sandbox is worth. -/
noncomputable def Tryd.pinned : Pinned := { name := "ytpijilfkmkdghaadoor", sum := "57dc5731e241091cda6a99d97a969c695c99f69df5558ea396675d35f8661ab4", checked := Tryd.checked }
namespace Rows
def none {H : Type} : Left H := { results := [], args := [] }

/- WHAT THE LISTED PACKAGE-LEVEL VARIABLES READ AS WHEN THE CALL BEGINS. Each datum BY PROGRAM (the guide's laid-datum.mjs) off the statement by which the dump's own 'gosem.cut.vars' lays the variable. In a bare row this is a premise. The card (YtpijilfkmkdghaaDoorCards.lean) ties it to the program's text. -/
def laid_errors_errorType {H : Type} : DataW H := .iface "internal/reflectlite.rtype" (.agg [.ptr (.lit (.string [101, 114, 114, 111, 114]))])

/-- 'shalelaw20.ManiUses': WHATEVER THE INPUT: true; the input reads as it did. -/
def maniUsesSpec : ChangeSpec := { name := "maniUses", fn := fun _ => fun
  | [d1, d2, d3] => { results := [.lit (.bool true)], args := [d1, d2, d3] }
  | _ => none }
def maniUsesRow : OpenClaim := { program := "ytpijilfkmkdghaadoor", sum := "57dc5731e241091cda6a99d97a969c695c99f69df5558ea396675d35f8661ab4", func := "shale/shalelaw20.ManiUses", spec := "maniUses", inPlace := ["internal/reflectlite.ValueOf", "(internal/reflectlite.Value).Type", "(internal/reflectlite.Value).IsNil", "internal/reflectlite.TypeOf", "(internal/reflectlite.Value).Elem", "(internal/reflectlite.Value).Set"], unfollowed := true, recurses := true, named := ["errors.errorType"], apart := false, laid := [("errors.errorType", laid_errors_errorType)] }
def ManiUsesSaid : Prop := maniUsesRow.holds Tryd.pinned (OpenSpec.ofChange maniUsesSpec)

/-- ITS FALSE NEIGHBOUR: 'it returns false'. Refute it at one input. -/
def maniUsesWrong : ChangeSpec := { name := "maniUses", fn := fun _ => fun
  | [d1, d2, d3] => { results := [.lit (.bool false)], args := [d1, d2, d3] }
  | _ => none }
def ManiUsesWrongFalsely : Prop := maniUsesRow.holds Tryd.pinned (OpenSpec.ofChange maniUsesWrong)

/-- 'shalelaw20.ManiDrops': WHATEVER THE INPUT: true; the input reads as it did. -/
def maniDropsSpec : ChangeSpec := { name := "maniDrops", fn := fun _ => fun
  | [d] => { results := [.lit (.bool true)], args := [d] }
  | _ => none }
def maniDropsRow : OpenClaim := { program := "ytpijilfkmkdghaadoor", sum := "57dc5731e241091cda6a99d97a969c695c99f69df5558ea396675d35f8661ab4", func := "shale/shalelaw20.ManiDrops", spec := "maniDrops", inPlace := ["internal/reflectlite.ValueOf", "(internal/reflectlite.Value).Type", "(internal/reflectlite.Value).IsNil", "internal/reflectlite.TypeOf", "(internal/reflectlite.Value).Elem", "(internal/reflectlite.Value).Set"], unfollowed := true, recurses := true, named := ["errors.errorType"], apart := false, laid := [("errors.errorType", laid_errors_errorType)] }
def ManiDropsSaid : Prop := maniDropsRow.holds Tryd.pinned (OpenSpec.ofChange maniDropsSpec)

/-- ITS FALSE NEIGHBOUR: 'it returns false'. Refute it at one input. -/
def maniDropsWrong : ChangeSpec := { name := "maniDrops", fn := fun _ => fun
  | [d] => { results := [.lit (.bool false)], args := [d] }
  | _ => none }
def ManiDropsWrongFalsely : Prop := maniDropsRow.holds Tryd.pinned (OpenSpec.ofChange maniDropsWrong)

/-- 'shalelaw20.ManiBack': WHATEVER THE INPUT: true; the input reads as it did. -/
def maniBackSpec : ChangeSpec := { name := "maniBack", fn := fun _ => fun
  | [d1, d2] => { results := [.lit (.bool true)], args := [d1, d2] }
  | _ => none }
def maniBackRow : OpenClaim := { program := "ytpijilfkmkdghaadoor", sum := "57dc5731e241091cda6a99d97a969c695c99f69df5558ea396675d35f8661ab4", func := "shale/shalelaw20.ManiBack", spec := "maniBack", inPlace := ["internal/reflectlite.ValueOf", "(internal/reflectlite.Value).Type", "(internal/reflectlite.Value).IsNil", "internal/reflectlite.TypeOf", "(internal/reflectlite.Value).Elem", "(internal/reflectlite.Value).Set"], unfollowed := true, recurses := true, named := ["errors.errorType"], apart := false, laid := [("errors.errorType", laid_errors_errorType)] }
def ManiBackSaid : Prop := maniBackRow.holds Tryd.pinned (OpenSpec.ofChange maniBackSpec)

/-- ITS FALSE NEIGHBOUR: 'it returns false'. Refute it at one input. -/
def maniBackWrong : ChangeSpec := { name := "maniBack", fn := fun _ => fun
  | [d1, d2] => { results := [.lit (.bool false)], args := [d1, d2] }
  | _ => none }
def ManiBackWrongFalsely : Prop := maniBackRow.holds Tryd.pinned (OpenSpec.ofChange maniBackWrong)

/-- 'shalelaw20.ManiReads': WHATEVER THE INPUT: true; the input reads as it did. -/
def maniReadsSpec : ChangeSpec := { name := "maniReads", fn := fun _ => fun
  | [d1, d2] => { results := [.lit (.bool true)], args := [d1, d2] }
  | _ => none }
def maniReadsRow : OpenClaim := { program := "ytpijilfkmkdghaadoor", sum := "57dc5731e241091cda6a99d97a969c695c99f69df5558ea396675d35f8661ab4", func := "shale/shalelaw20.ManiReads", spec := "maniReads", inPlace := ["internal/reflectlite.ValueOf", "(internal/reflectlite.Value).Type", "(internal/reflectlite.Value).IsNil", "internal/reflectlite.TypeOf", "(internal/reflectlite.Value).Elem", "(internal/reflectlite.Value).Set"], unfollowed := true, recurses := true, named := ["errors.errorType"], apart := false, laid := [("errors.errorType", laid_errors_errorType)] }
def ManiReadsSaid : Prop := maniReadsRow.holds Tryd.pinned (OpenSpec.ofChange maniReadsSpec)

/-- ITS FALSE NEIGHBOUR: 'it returns false'. Refute it at one input. -/
def maniReadsWrong : ChangeSpec := { name := "maniReads", fn := fun _ => fun
  | [d1, d2] => { results := [.lit (.bool false)], args := [d1, d2] }
  | _ => none }
def ManiReadsWrongFalsely : Prop := maniReadsRow.holds Tryd.pinned (OpenSpec.ofChange maniReadsWrong)

/- THE SECOND FORM. 'bulk': how many values and letters a reading holds, each counted each time it is reached (what is shared counts as often as it is met; a slice's spare places count too). A statement '..UptoSaid' is the law's where the arguments, and the package variables that the reading takes, are together of bulk at most 1048576: NARROWER than '..Said'. Prove '..Said' where nothing that the law and all that it calls make is longer than what came in: it says more and counts as full. Else prove '..UptoSaid'. A law counts once. -/
mutual
def uptoBulk {H : Type} : DataW H → Nat
  | .lit (.string bytes) => bytes.length + 1
  | .lit _ => 1
  | .nil => 1
  | .ptr d => uptoBulk d + 1
  | .slice elems spare => uptoBulkAll elems + uptoBulkAll spare + 1
  | .agg parts => uptoBulkAll parts + 1
  | .iface _ d => uptoBulk d + 1
  | .map entries => uptoBulkEntries entries + 1
  | .held _ => 1
def uptoBulkAll {H : Type} : List (DataW H) → Nat
  | [] => 0
  | d :: r => uptoBulk d + uptoBulkAll r
def uptoBulkEntries {H : Type} : List (Lit × DataW H) → Nat
  | [] => 0
  | x :: r => uptoBulkEntry x + uptoBulkEntries r
def uptoBulkEntry {H : Type} : Lit × DataW H → Nat
  | (.string bytes, d) => bytes.length + uptoBulk d + 1
  | (_, d) => uptoBulk d + 1
 end
def uptoSmall : (H : Type) → List (DataW H) → Bool := fun _ ds => decide (uptoBulkAll ds ≤ 1048576)
def OpenSpec.upto (s : _root_.Go.ChangeSpec) : _root_.Go.OpenSpec := { _root_.Go.OpenSpec.ofChange s with cond := some uptoSmall }

/-- 'shalelaw20.ManiUses', WHERE WHAT IT READS IS OF BULK AT MOST 1048576: true; the input reads as it did. -/
def maniUsesUptoRow : OpenClaim := { program := "ytpijilfkmkdghaadoor", sum := "57dc5731e241091cda6a99d97a969c695c99f69df5558ea396675d35f8661ab4", func := "shale/shalelaw20.ManiUses", spec := "maniUses", inPlace := ["internal/reflectlite.ValueOf", "(internal/reflectlite.Value).Type", "(internal/reflectlite.Value).IsNil", "internal/reflectlite.TypeOf", "(internal/reflectlite.Value).Elem", "(internal/reflectlite.Value).Set"], unfollowed := true, recurses := true, named := ["errors.errorType"], apart := false, laid := [("errors.errorType", laid_errors_errorType)], narrowed := true }
def ManiUsesUptoSaid : Prop := maniUsesUptoRow.holds Tryd.pinned (OpenSpec.upto maniUsesSpec)

/-- 'shalelaw20.ManiDrops', WHERE WHAT IT READS IS OF BULK AT MOST 1048576: true; the input reads as it did. -/
def maniDropsUptoRow : OpenClaim := { program := "ytpijilfkmkdghaadoor", sum := "57dc5731e241091cda6a99d97a969c695c99f69df5558ea396675d35f8661ab4", func := "shale/shalelaw20.ManiDrops", spec := "maniDrops", inPlace := ["internal/reflectlite.ValueOf", "(internal/reflectlite.Value).Type", "(internal/reflectlite.Value).IsNil", "internal/reflectlite.TypeOf", "(internal/reflectlite.Value).Elem", "(internal/reflectlite.Value).Set"], unfollowed := true, recurses := true, named := ["errors.errorType"], apart := false, laid := [("errors.errorType", laid_errors_errorType)], narrowed := true }
def ManiDropsUptoSaid : Prop := maniDropsUptoRow.holds Tryd.pinned (OpenSpec.upto maniDropsSpec)

/-- 'shalelaw20.ManiBack', WHERE WHAT IT READS IS OF BULK AT MOST 1048576: true; the input reads as it did. -/
def maniBackUptoRow : OpenClaim := { program := "ytpijilfkmkdghaadoor", sum := "57dc5731e241091cda6a99d97a969c695c99f69df5558ea396675d35f8661ab4", func := "shale/shalelaw20.ManiBack", spec := "maniBack", inPlace := ["internal/reflectlite.ValueOf", "(internal/reflectlite.Value).Type", "(internal/reflectlite.Value).IsNil", "internal/reflectlite.TypeOf", "(internal/reflectlite.Value).Elem", "(internal/reflectlite.Value).Set"], unfollowed := true, recurses := true, named := ["errors.errorType"], apart := false, laid := [("errors.errorType", laid_errors_errorType)], narrowed := true }
def ManiBackUptoSaid : Prop := maniBackUptoRow.holds Tryd.pinned (OpenSpec.upto maniBackSpec)

/-- 'shalelaw20.ManiReads', WHERE WHAT IT READS IS OF BULK AT MOST 1048576: true; the input reads as it did. -/
def maniReadsUptoRow : OpenClaim := { program := "ytpijilfkmkdghaadoor", sum := "57dc5731e241091cda6a99d97a969c695c99f69df5558ea396675d35f8661ab4", func := "shale/shalelaw20.ManiReads", spec := "maniReads", inPlace := ["internal/reflectlite.ValueOf", "(internal/reflectlite.Value).Type", "(internal/reflectlite.Value).IsNil", "internal/reflectlite.TypeOf", "(internal/reflectlite.Value).Elem", "(internal/reflectlite.Value).Set"], unfollowed := true, recurses := true, named := ["errors.errorType"], apart := false, laid := [("errors.errorType", laid_errors_errorType)], narrowed := true }
def ManiReadsUptoSaid : Prop := maniReadsUptoRow.holds Tryd.pinned (OpenSpec.upto maniReadsSpec)

end Rows
end Go.Proofs.YtpijilfkmkdghaaDoor
