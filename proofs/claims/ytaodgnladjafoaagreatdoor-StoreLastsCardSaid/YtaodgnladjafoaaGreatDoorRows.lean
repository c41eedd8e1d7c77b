/-
  NARROWER THAN 'FOR EVERY INPUT', by the rows' own cells (each row's printed sentence says how): StoreAgain: laid · StoreTorn: laid · StoreAny: laid · StoreLasts: laid.
  DERIVED. THE GIVEN ROWS OF THIS SEAT. 4 by the template 'for every input the law returns true; each argument reads behind the call as it read before'; 0 by the template 'total and deterministic' (their statements: YtaodgnladjafoaaGreatDoorTotals.lean).
  GIVEN WITH THE SEED: the statements are not yours to turn. If you find one false, say at which input.
  Laid BY PROGRAM, IN A SANDBOX (cutbox-rows.mjs): the forced cells as the released guide's own fill.sh prints them over the translation 635cb64edfe6b13f… (all of the seat's roots in one cut). By AI agents, Wed Nov 11 2026. No macro, syntax, notation, axiom, sorry.
-/
import Derived.Test.YtaodgnladjafoaaGreatDoorChecked
import GoSem.Claim
import GoSem.ClaimJoined
import GoSem.ClaimMapViews
import Derived.JoinedTies
import Derived.KernelRfl
namespace Go.Proofs.YtaodgnladjafoaaGreatDoor
/- THE CELL 'sum', in the pinned program and in every row, IS THE sha256 OF THE DUMP (.gsa) THAT YtaodgnladjafoaaGreatDoorProg.lean LOADS. Nothing in Lean hashes anything: it is a label: what it is worth is what the hold of that sum in a sandbox is worth. -/
noncomputable def Tryz.pinned : Pinned := { name := "ytaodgnladjafoaagreatdoor", sum := "635cb64edfe6b13f2c5695f082a4d9da414890739305dbfa155ac5857f6965e1", checked := Tryz.checked }
namespace Rows
def none {H : Type} : Left H := { results := [], args := [] }

/- WHAT THE LISTED PACKAGE-LEVEL VARIABLES READ AS WHEN THE CALL BEGINS. Each datum BY PROGRAM (the guide's laid-datum.mjs) off the statement by which the dump's own 'gosem.cut.vars' lays the variable. In a bare row this is a premise. The card (YtaodgnladjafoaaGreatDoorCards.lean) ties it to the program's text. -/
def laid_errors_errorType {H : Type} : DataW H := .iface "internal/reflectlite.rtype" (.agg [.ptr (.lit (.string [101, 114, 114, 111, 114]))])

/-- 'shalelaw21.StoreAgain': WHATEVER THE INPUT: true; the input reads as it did. -/
def storeAgainSpec : ChangeSpec := { name := "storeAgain", fn := fun _ => fun
  | [d] => { results := [.lit (.bool true)], args := [d] }
  | _ => none }
def storeAgainRow : OpenClaim := { program := "ytaodgnladjafoaagreatdoor", sum := "635cb64edfe6b13f2c5695f082a4d9da414890739305dbfa155ac5857f6965e1", func := "shale/shalelaw21.StoreAgain", spec := "storeAgain", inPlace := ["internal/reflectlite.TypeOf", "internal/reflectlite.ValueOf", "(internal/reflectlite.Value).Type", "(internal/reflectlite.Value).IsNil", "(internal/reflectlite.Value).Elem", "(internal/reflectlite.Value).Set"], unfollowed := true, recurses := true, named := ["errors.errorType"], plainKeys := false, apart := false, laid := [("errors.errorType", laid_errors_errorType)] }
def StoreAgainSaid : Prop := storeAgainRow.holds Tryz.pinned (OpenSpec.ofChange storeAgainSpec)

/-- ITS FALSE NEIGHBOUR: 'it returns false'. Refute it at one input. -/
def storeAgainWrong : ChangeSpec := { name := "storeAgain", fn := fun _ => fun
  | [d] => { results := [.lit (.bool false)], args := [d] }
  | _ => none }
def StoreAgainWrongFalsely : Prop := storeAgainRow.holds Tryz.pinned (OpenSpec.ofChange storeAgainWrong)

/-- 'shalelaw21.StoreTorn': WHATEVER THE INPUT: true; the input reads as it did. -/
def storeTornSpec : ChangeSpec := { name := "storeTorn", fn := fun _ => fun
  | [d1, d2, d3] => { results := [.lit (.bool true)], args := [d1, d2, d3] }
  | _ => none }
def storeTornRow : OpenClaim := { program := "ytaodgnladjafoaagreatdoor", sum := "635cb64edfe6b13f2c5695f082a4d9da414890739305dbfa155ac5857f6965e1", func := "shale/shalelaw21.StoreTorn", spec := "storeTorn", inPlace := ["internal/reflectlite.TypeOf", "internal/reflectlite.ValueOf", "(internal/reflectlite.Value).Type", "(internal/reflectlite.Value).IsNil", "(internal/reflectlite.Value).Elem", "(internal/reflectlite.Value).Set"], unfollowed := true, recurses := true, named := ["errors.errorType"], plainKeys := false, apart := false, laid := [("errors.errorType", laid_errors_errorType)] }
def StoreTornSaid : Prop := storeTornRow.holds Tryz.pinned (OpenSpec.ofChange storeTornSpec)

/-- ITS FALSE NEIGHBOUR: 'it returns false'. Refute it at one input. -/
def storeTornWrong : ChangeSpec := { name := "storeTorn", fn := fun _ => fun
  | [d1, d2, d3] => { results := [.lit (.bool false)], args := [d1, d2, d3] }
  | _ => none }
def StoreTornWrongFalsely : Prop := storeTornRow.holds Tryz.pinned (OpenSpec.ofChange storeTornWrong)

/-- 'shalelaw21.StoreAny': WHATEVER THE INPUT: true; the input reads as it did. -/
def storeAnySpec : ChangeSpec := { name := "storeAny", fn := fun _ => fun
  | [d1, d2, d3] => { results := [.lit (.bool true)], args := [d1, d2, d3] }
  | _ => none }
def storeAnyRow : OpenClaim := { program := "ytaodgnladjafoaagreatdoor", sum := "635cb64edfe6b13f2c5695f082a4d9da414890739305dbfa155ac5857f6965e1", func := "shale/shalelaw21.StoreAny", spec := "storeAny", inPlace := ["internal/reflectlite.TypeOf", "internal/reflectlite.ValueOf", "(internal/reflectlite.Value).Type", "(internal/reflectlite.Value).IsNil", "(internal/reflectlite.Value).Elem", "(internal/reflectlite.Value).Set"], unfollowed := true, recurses := true, named := ["errors.errorType"], plainKeys := false, apart := false, laid := [("errors.errorType", laid_errors_errorType)] }
def StoreAnySaid : Prop := storeAnyRow.holds Tryz.pinned (OpenSpec.ofChange storeAnySpec)

/-- ITS FALSE NEIGHBOUR: 'it returns false'. Refute it at one input. -/
def storeAnyWrong : ChangeSpec := { name := "storeAny", fn := fun _ => fun
  | [d1, d2, d3] => { results := [.lit (.bool false)], args := [d1, d2, d3] }
  | _ => none }
def StoreAnyWrongFalsely : Prop := storeAnyRow.holds Tryz.pinned (OpenSpec.ofChange storeAnyWrong)

/-- 'shalelaw21.StoreLasts': WHATEVER THE INPUT: true; the input reads as it did. -/
def storeLastsSpec : ChangeSpec := { name := "storeLasts", fn := fun _ => fun
  | [d1, d2] => { results := [.lit (.bool true)], args := [d1, d2] }
  | _ => none }
def storeLastsRow : OpenClaim := { program := "ytaodgnladjafoaagreatdoor", sum := "635cb64edfe6b13f2c5695f082a4d9da414890739305dbfa155ac5857f6965e1", func := "shale/shalelaw21.StoreLasts", spec := "storeLasts", inPlace := ["internal/reflectlite.TypeOf", "internal/reflectlite.ValueOf", "(internal/reflectlite.Value).Type", "(internal/reflectlite.Value).IsNil", "(internal/reflectlite.Value).Elem", "(internal/reflectlite.Value).Set"], unfollowed := true, recurses := true, named := ["errors.errorType"], plainKeys := false, apart := false, laid := [("errors.errorType", laid_errors_errorType)] }
def StoreLastsSaid : Prop := storeLastsRow.holds Tryz.pinned (OpenSpec.ofChange storeLastsSpec)

/-- ITS FALSE NEIGHBOUR: 'it returns false'. Refute it at one input. -/
def storeLastsWrong : ChangeSpec := { name := "storeLasts", fn := fun _ => fun
  | [d1, d2] => { results := [.lit (.bool false)], args := [d1, d2] }
  | _ => none }
def StoreLastsWrongFalsely : Prop := storeLastsRow.holds Tryz.pinned (OpenSpec.ofChange storeLastsWrong)

/- THE SECOND FORM. 'bulk': how many values and letters a reading holds, each counted each time it is reached (what is shared counts as often as it is met; a slice's spare places count too). A statement '..UptoSaid' is the law's where the arguments, and the package variables that the reading takes, are together of bulk at most 1048576: NARROWER than '..Said'. Prove '..Said' where nothing that the law and all that it calls make is longer than what came in: it says more and counts as full. Else prove '..UptoSaid'. A law counts once. -/
mutual
def uptoBulk {H : Type} : DataW H → Nat
  | .lit (.string bytes) => bytes.length + 1
  | .lit _ => 1
  | .nil => 1
  | .ptr d => uptoBulk d + 1
  | .slice elems spare => uptoBulkAll elems + uptoBulkAll spare + 1
  | .agg parts => uptoBulkAll parts + 1
  | .iface _ d => uptoBulk d + 1
  | .map entries => uptoBulkEntries entries + 1
  | .held _ => 1
def uptoBulkAll {H : Type} : List (DataW H) → Nat
  | [] => 0
  | d :: r => uptoBulk d + uptoBulkAll r
def uptoBulkEntries {H : Type} : List (Lit × DataW H) → Nat
  | [] => 0
  | x :: r => uptoBulkEntry x + uptoBulkEntries r
def uptoBulkEntry {H : Type} : Lit × DataW H → Nat
  | (.string bytes, d) => bytes.length + uptoBulk d + 1
  | (_, d) => uptoBulk d + 1
 end
def uptoSmall : (H : Type) → List (DataW H) → Bool := fun _ ds => decide (uptoBulkAll ds ≤ 1048576)
def OpenSpec.upto (s : _root_.Go.ChangeSpec) : _root_.Go.OpenSpec := { _root_.Go.OpenSpec.ofChange s with cond := some uptoSmall }

/-- 'shalelaw21.StoreAgain', WHERE WHAT IT READS IS OF BULK AT MOST 1048576: true; the input reads as it did. -/
def storeAgainUptoRow : OpenClaim := { program := "ytaodgnladjafoaagreatdoor", sum := "635cb64edfe6b13f2c5695f082a4d9da414890739305dbfa155ac5857f6965e1", func := "shale/shalelaw21.StoreAgain", spec := "storeAgain", inPlace := ["internal/reflectlite.TypeOf", "internal/reflectlite.ValueOf", "(internal/reflectlite.Value).Type", "(internal/reflectlite.Value).IsNil", "(internal/reflectlite.Value).Elem", "(internal/reflectlite.Value).Set"], unfollowed := true, recurses := true, named := ["errors.errorType"], plainKeys := false, apart := false, laid := [("errors.errorType", laid_errors_errorType)], narrowed := true }
def StoreAgainUptoSaid : Prop := storeAgainUptoRow.holds Tryz.pinned (OpenSpec.upto storeAgainSpec)

/-- 'shalelaw21.StoreTorn', WHERE WHAT IT READS IS OF BULK AT MOST 1048576: true; the input reads as it did. -/
def storeTornUptoRow : OpenClaim := { program := "ytaodgnladjafoaagreatdoor", sum := "635cb64edfe6b13f2c5695f082a4d9da414890739305dbfa155ac5857f6965e1", func := "shale/shalelaw21.StoreTorn", spec := "storeTorn", inPlace := ["internal/reflectlite.TypeOf", "internal/reflectlite.ValueOf", "(internal/reflectlite.Value).Type", "(internal/reflectlite.Value).IsNil", "(internal/reflectlite.Value).Elem", "(internal/reflectlite.Value).Set"], unfollowed := true, recurses := true, named := ["errors.errorType"], plainKeys := false, apart := false, laid := [("errors.errorType", laid_errors_errorType)], narrowed := true }
def StoreTornUptoSaid : Prop := storeTornUptoRow.holds Tryz.pinned (OpenSpec.upto storeTornSpec)

/-- 'shalelaw21.StoreAny', WHERE WHAT IT READS IS OF BULK AT MOST 1048576: true; the input reads as it did. -/
def storeAnyUptoRow : OpenClaim := { program := "ytaodgnladjafoaagreatdoor", sum := "635cb64edfe6b13f2c5695f082a4d9da414890739305dbfa155ac5857f6965e1", func := "shale/shalelaw21.StoreAny", spec := "storeAny", inPlace := ["internal/reflectlite.TypeOf", "internal/reflectlite.ValueOf", "(internal/reflectlite.Value).Type", "(internal/reflectlite.Value).IsNil", "(internal/reflectlite.Value).Elem", "(internal/reflectlite.Value).Set"], unfollowed := true, recurses := true, named := ["errors.errorType"], plainKeys := false, apart := false, laid := [("errors.errorType", laid_errors_errorType)], narrowed := true }
def StoreAnyUptoSaid : Prop := storeAnyUptoRow.holds Tryz.pinned (OpenSpec.upto storeAnySpec)

/-- 'shalelaw21.StoreLasts', WHERE WHAT IT READS IS OF BULK AT MOST 1048576: true; the input reads as it did. -/
def storeLastsUptoRow : OpenClaim := { program := "ytaodgnladjafoaagreatdoor", sum := "635cb64edfe6b13f2c5695f082a4d9da414890739305dbfa155ac5857f6965e1", func := "shale/shalelaw21.StoreLasts", spec := "storeLasts", inPlace := ["internal/reflectlite.TypeOf", "internal/reflectlite.ValueOf", "(internal/reflectlite.Value).Type", "(internal/reflectlite.Value).IsNil", "(internal/reflectlite.Value).Elem", "(internal/reflectlite.Value).Set"], unfollowed := true, recurses := true, named := ["errors.errorType"], plainKeys := false, apart := false, laid := [("errors.errorType", laid_errors_errorType)], narrowed := true }
def StoreLastsUptoSaid : Prop := storeLastsUptoRow.holds Tryz.pinned (OpenSpec.upto storeLastsSpec)

end Rows
end Go.Proofs.YtaodgnladjafoaaGreatDoor
