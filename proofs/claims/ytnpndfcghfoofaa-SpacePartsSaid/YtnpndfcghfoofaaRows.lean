/-
  No cell of these rows narrows 'for every input' (looked for: loops, veiled, ifaces, maps, wideKeys, modest, calm, conditions, laid).
  DERIVED. THE GIVEN ROWS OF THIS SEAT. 9 by the template 'for every input the law returns true; each argument reads behind the call as it read before'; 0 by the template 'total and deterministic' (their statements: YtnpndfcghfoofaaTotals.lean).
  GIVEN WITH THE SEED: the statements are not yours to turn. If you find one false, say at which input.
  Laid BY PROGRAM, IN A SANDBOX (cutbox-rows.mjs): the forced cells as the released guide's own fill.sh prints them over the translation c6a4af299d282777… (all of the seat's roots in one cut). By AI agents, Wed Nov 11 2026. No macro, syntax, notation, axiom, sorry.
-/
import Derived.Test.YtnpndfcghfoofaaChecked
import GoSem.Claim
import GoSem.ClaimJoined
import GoSem.ClaimMapViews
import Derived.JoinedTies
import Derived.KernelRfl
namespace Go.Proofs.Ytnpndfcghfoofaa
/- THE CELL 'sum', in the pinned program and in every row, IS THE sha256 OF THE DUMP (.gsa) THAT YtnpndfcghfoofaaProg.lean LOADS. Nothing in Lean hashes anything: it is a label: what it is worth is what the hold of that sum in a sandbox is worth. -/
noncomputable def Try.pinned : Pinned := { name := "ytnpndfcghfoofaa", sum := "c6a4af299d2827773bfd745e55f8688213c3eaeb40ef455349ef3fb41d9f5e79", checked := Try.checked }
namespace Rows
def none {H : Type} : Left H := { results := [], args := [] }

/-- 'shalelaw02.AdlerOne': WHATEVER THE INPUT: true; the input reads as it did. -/
def adlerOneSpec : ChangeSpec := { name := "adlerOne", fn := fun _ => fun
  | [d1, d2, d3] => { results := [.lit (.bool true)], args := [d1, d2, d3] }
  | _ => none }
def adlerOneRow : OpenClaim := { program := "ytnpndfcghfoofaa", sum := "c6a4af299d2827773bfd745e55f8688213c3eaeb40ef455349ef3fb41d9f5e79", func := "shale/shalelaw02.AdlerOne", spec := "adlerOne", apart := false }
def AdlerOneSaid : Prop := adlerOneRow.holds Try.pinned (OpenSpec.ofChange adlerOneSpec)

/-- ITS FALSE NEIGHBOUR: 'it returns false'. Refute it at one input. -/
def adlerOneWrong : ChangeSpec := { name := "adlerOne", fn := fun _ => fun
  | [d1, d2, d3] => { results := [.lit (.bool false)], args := [d1, d2, d3] }
  | _ => none }
def AdlerOneWrongFalsely : Prop := adlerOneRow.holds Try.pinned (OpenSpec.ofChange adlerOneWrong)

/-- 'shalelaw02.AdlerSwaps': WHATEVER THE INPUT: true; the input reads as it did. -/
def adlerSwapsSpec : ChangeSpec := { name := "adlerSwaps", fn := fun _ => fun
  | [d1, d2] => { results := [.lit (.bool true)], args := [d1, d2] }
  | _ => none }
def adlerSwapsRow : OpenClaim := { program := "ytnpndfcghfoofaa", sum := "c6a4af299d2827773bfd745e55f8688213c3eaeb40ef455349ef3fb41d9f5e79", func := "shale/shalelaw02.AdlerSwaps", spec := "adlerSwaps", apart := false }
def AdlerSwapsSaid : Prop := adlerSwapsRow.holds Try.pinned (OpenSpec.ofChange adlerSwapsSpec)

/-- ITS FALSE NEIGHBOUR: 'it returns false'. Refute it at one input. -/
def adlerSwapsWrong : ChangeSpec := { name := "adlerSwaps", fn := fun _ => fun
  | [d1, d2] => { results := [.lit (.bool false)], args := [d1, d2] }
  | _ => none }
def AdlerSwapsWrongFalsely : Prop := adlerSwapsRow.holds Try.pinned (OpenSpec.ofChange adlerSwapsWrong)

/-- 'shalelaw04.CodeSizes': WHATEVER THE INPUT: true; the input reads as it did. -/
def codeSizesSpec : ChangeSpec := { name := "codeSizes", fn := fun _ => fun
  | [d1, d2] => { results := [.lit (.bool true)], args := [d1, d2] }
  | _ => none }
def codeSizesRow : OpenClaim := { program := "ytnpndfcghfoofaa", sum := "c6a4af299d2827773bfd745e55f8688213c3eaeb40ef455349ef3fb41d9f5e79", func := "shale/shalelaw04.CodeSizes", spec := "codeSizes", apart := false }
def CodeSizesSaid : Prop := codeSizesRow.holds Try.pinned (OpenSpec.ofChange codeSizesSpec)

/-- ITS FALSE NEIGHBOUR: 'it returns false'. Refute it at one input. -/
def codeSizesWrong : ChangeSpec := { name := "codeSizes", fn := fun _ => fun
  | [d1, d2] => { results := [.lit (.bool false)], args := [d1, d2] }
  | _ => none }
def CodeSizesWrongFalsely : Prop := codeSizesRow.holds Try.pinned (OpenSpec.ofChange codeSizesWrong)

/-- 'shalelaw06.SpaceLike': WHATEVER THE INPUT: true; the input reads as it did. -/
def spaceLikeSpec : ChangeSpec := { name := "spaceLike", fn := fun _ => fun
  | [d1, d2, d3] => { results := [.lit (.bool true)], args := [d1, d2, d3] }
  | _ => none }
def spaceLikeRow : OpenClaim := { program := "ytnpndfcghfoofaa", sum := "c6a4af299d2827773bfd745e55f8688213c3eaeb40ef455349ef3fb41d9f5e79", func := "shale/shalelaw06.SpaceLike", spec := "spaceLike", apart := false }
def SpaceLikeSaid : Prop := spaceLikeRow.holds Try.pinned (OpenSpec.ofChange spaceLikeSpec)

/-- ITS FALSE NEIGHBOUR: 'it returns false'. Refute it at one input. -/
def spaceLikeWrong : ChangeSpec := { name := "spaceLike", fn := fun _ => fun
  | [d1, d2, d3] => { results := [.lit (.bool false)], args := [d1, d2, d3] }
  | _ => none }
def SpaceLikeWrongFalsely : Prop := spaceLikeRow.holds Try.pinned (OpenSpec.ofChange spaceLikeWrong)

/-- 'shalelaw02.AdlerBoth': WHATEVER THE INPUT: true; the input reads as it did. -/
def adlerBothSpec : ChangeSpec := { name := "adlerBoth", fn := fun _ => fun
  | [d1, d2] => { results := [.lit (.bool true)], args := [d1, d2] }
  | _ => none }
def adlerBothRow : OpenClaim := { program := "ytnpndfcghfoofaa", sum := "c6a4af299d2827773bfd745e55f8688213c3eaeb40ef455349ef3fb41d9f5e79", func := "shale/shalelaw02.AdlerBoth", spec := "adlerBoth", apart := false }
def AdlerBothSaid : Prop := adlerBothRow.holds Try.pinned (OpenSpec.ofChange adlerBothSpec)

/-- ITS FALSE NEIGHBOUR: 'it returns false'. Refute it at one input. -/
def adlerBothWrong : ChangeSpec := { name := "adlerBoth", fn := fun _ => fun
  | [d1, d2] => { results := [.lit (.bool false)], args := [d1, d2] }
  | _ => none }
def AdlerBothWrongFalsely : Prop := adlerBothRow.holds Try.pinned (OpenSpec.ofChange adlerBothWrong)

/-- 'shalelaw02.AdlerThree': WHATEVER THE INPUT: true; the input reads as it did. -/
def adlerThreeSpec : ChangeSpec := { name := "adlerThree", fn := fun _ => fun
  | [d1, d2, d3] => { results := [.lit (.bool true)], args := [d1, d2, d3] }
  | _ => none }
def adlerThreeRow : OpenClaim := { program := "ytnpndfcghfoofaa", sum := "c6a4af299d2827773bfd745e55f8688213c3eaeb40ef455349ef3fb41d9f5e79", func := "shale/shalelaw02.AdlerThree", spec := "adlerThree", apart := false }
def AdlerThreeSaid : Prop := adlerThreeRow.holds Try.pinned (OpenSpec.ofChange adlerThreeSpec)

/-- ITS FALSE NEIGHBOUR: 'it returns false'. Refute it at one input. -/
def adlerThreeWrong : ChangeSpec := { name := "adlerThree", fn := fun _ => fun
  | [d1, d2, d3] => { results := [.lit (.bool false)], args := [d1, d2, d3] }
  | _ => none }
def AdlerThreeWrongFalsely : Prop := adlerThreeRow.holds Try.pinned (OpenSpec.ofChange adlerThreeWrong)

/-- 'shalelaw02.AdlerPlays': WHATEVER THE INPUT: true; the input reads as it did. -/
def adlerPlaysSpec : ChangeSpec := { name := "adlerPlays", fn := fun _ => fun
  | [d1, d2] => { results := [.lit (.bool true)], args := [d1, d2] }
  | _ => none }
def adlerPlaysRow : OpenClaim := { program := "ytnpndfcghfoofaa", sum := "c6a4af299d2827773bfd745e55f8688213c3eaeb40ef455349ef3fb41d9f5e79", func := "shale/shalelaw02.AdlerPlays", spec := "adlerPlays", apart := false }
def AdlerPlaysSaid : Prop := adlerPlaysRow.holds Try.pinned (OpenSpec.ofChange adlerPlaysSpec)

/-- ITS FALSE NEIGHBOUR: 'it returns false'. Refute it at one input. -/
def adlerPlaysWrong : ChangeSpec := { name := "adlerPlays", fn := fun _ => fun
  | [d1, d2] => { results := [.lit (.bool false)], args := [d1, d2] }
  | _ => none }
def AdlerPlaysWrongFalsely : Prop := adlerPlaysRow.holds Try.pinned (OpenSpec.ofChange adlerPlaysWrong)

/-- 'shalelaw06.SpaceRuns': WHATEVER THE INPUT: true; the input reads as it did. -/
def spaceRunsSpec : ChangeSpec := { name := "spaceRuns", fn := fun _ => fun
  | [d1, d2] => { results := [.lit (.bool true)], args := [d1, d2] }
  | _ => none }
def spaceRunsRow : OpenClaim := { program := "ytnpndfcghfoofaa", sum := "c6a4af299d2827773bfd745e55f8688213c3eaeb40ef455349ef3fb41d9f5e79", func := "shale/shalelaw06.SpaceRuns", spec := "spaceRuns", apart := false }
def SpaceRunsSaid : Prop := spaceRunsRow.holds Try.pinned (OpenSpec.ofChange spaceRunsSpec)

/-- ITS FALSE NEIGHBOUR: 'it returns false'. Refute it at one input. -/
def spaceRunsWrong : ChangeSpec := { name := "spaceRuns", fn := fun _ => fun
  | [d1, d2] => { results := [.lit (.bool false)], args := [d1, d2] }
  | _ => none }
def SpaceRunsWrongFalsely : Prop := spaceRunsRow.holds Try.pinned (OpenSpec.ofChange spaceRunsWrong)

/-- 'shalelaw06.SpaceParts': WHATEVER THE INPUT: true; the input reads as it did. -/
def spacePartsSpec : ChangeSpec := { name := "spaceParts", fn := fun _ => fun
  | [d1, d2, d3] => { results := [.lit (.bool true)], args := [d1, d2, d3] }
  | _ => none }
def spacePartsRow : OpenClaim := { program := "ytnpndfcghfoofaa", sum := "c6a4af299d2827773bfd745e55f8688213c3eaeb40ef455349ef3fb41d9f5e79", func := "shale/shalelaw06.SpaceParts", spec := "spaceParts", apart := false }
def SpacePartsSaid : Prop := spacePartsRow.holds Try.pinned (OpenSpec.ofChange spacePartsSpec)

/-- ITS FALSE NEIGHBOUR: 'it returns false'. Refute it at one input. -/
def spacePartsWrong : ChangeSpec := { name := "spaceParts", fn := fun _ => fun
  | [d1, d2, d3] => { results := [.lit (.bool false)], args := [d1, d2, d3] }
  | _ => none }
def SpacePartsWrongFalsely : Prop := spacePartsRow.holds Try.pinned (OpenSpec.ofChange spacePartsWrong)

/- THE SECOND FORM. 'bulk': how many values and letters a reading holds, each counted each time it is reached (what is shared counts as often as it is met; a slice's spare places count too). A statement '..UptoSaid' is the law's where the arguments, and the package variables that the reading takes, are together of bulk at most 1048576: NARROWER than '..Said'. Prove '..Said' where nothing that the law and all that it calls make is longer than what came in: it says more and counts as full. Else prove '..UptoSaid'. A law counts once. -/
mutual
def uptoBulk {H : Type} : DataW H → Nat
  | .lit (.string bytes) => bytes.length + 1
  | .lit _ => 1
  | .nil => 1
  | .ptr d => uptoBulk d + 1
  | .slice elems spare => uptoBulkAll elems + uptoBulkAll spare + 1
  | .agg parts => uptoBulkAll parts + 1
  | .iface _ d => uptoBulk d + 1
  | .map entries => uptoBulkEntries entries + 1
  | .held _ => 1
def uptoBulkAll {H : Type} : List (DataW H) → Nat
  | [] => 0
  | d :: r => uptoBulk d + uptoBulkAll r
def uptoBulkEntries {H : Type} : List (Lit × DataW H) → Nat
  | [] => 0
  | x :: r => uptoBulkEntry x + uptoBulkEntries r
def uptoBulkEntry {H : Type} : Lit × DataW H → Nat
  | (.string bytes, d) => bytes.length + uptoBulk d + 1
  | (_, d) => uptoBulk d + 1
 end
def uptoSmall : (H : Type) → List (DataW H) → Bool := fun _ ds => decide (uptoBulkAll ds ≤ 1048576)
def OpenSpec.upto (s : _root_.Go.ChangeSpec) : _root_.Go.OpenSpec := { _root_.Go.OpenSpec.ofChange s with cond := some uptoSmall }

/-- 'shalelaw02.AdlerOne', WHERE WHAT IT READS IS OF BULK AT MOST 1048576: true; the input reads as it did. -/
def adlerOneUptoRow : OpenClaim := { program := "ytnpndfcghfoofaa", sum := "c6a4af299d2827773bfd745e55f8688213c3eaeb40ef455349ef3fb41d9f5e79", func := "shale/shalelaw02.AdlerOne", spec := "adlerOne", apart := false, narrowed := true }
def AdlerOneUptoSaid : Prop := adlerOneUptoRow.holds Try.pinned (OpenSpec.upto adlerOneSpec)

/-- 'shalelaw02.AdlerSwaps', WHERE WHAT IT READS IS OF BULK AT MOST 1048576: true; the input reads as it did. -/
def adlerSwapsUptoRow : OpenClaim := { program := "ytnpndfcghfoofaa", sum := "c6a4af299d2827773bfd745e55f8688213c3eaeb40ef455349ef3fb41d9f5e79", func := "shale/shalelaw02.AdlerSwaps", spec := "adlerSwaps", apart := false, narrowed := true }
def AdlerSwapsUptoSaid : Prop := adlerSwapsUptoRow.holds Try.pinned (OpenSpec.upto adlerSwapsSpec)

/-- 'shalelaw04.CodeSizes', WHERE WHAT IT READS IS OF BULK AT MOST 1048576: true; the input reads as it did. -/
def codeSizesUptoRow : OpenClaim := { program := "ytnpndfcghfoofaa", sum := "c6a4af299d2827773bfd745e55f8688213c3eaeb40ef455349ef3fb41d9f5e79", func := "shale/shalelaw04.CodeSizes", spec := "codeSizes", apart := false, narrowed := true }
def CodeSizesUptoSaid : Prop := codeSizesUptoRow.holds Try.pinned (OpenSpec.upto codeSizesSpec)

/-- 'shalelaw06.SpaceLike', WHERE WHAT IT READS IS OF BULK AT MOST 1048576: true; the input reads as it did. -/
def spaceLikeUptoRow : OpenClaim := { program := "ytnpndfcghfoofaa", sum := "c6a4af299d2827773bfd745e55f8688213c3eaeb40ef455349ef3fb41d9f5e79", func := "shale/shalelaw06.SpaceLike", spec := "spaceLike", apart := false, narrowed := true }
def SpaceLikeUptoSaid : Prop := spaceLikeUptoRow.holds Try.pinned (OpenSpec.upto spaceLikeSpec)

/-- 'shalelaw02.AdlerBoth', WHERE WHAT IT READS IS OF BULK AT MOST 1048576: true; the input reads as it did. -/
def adlerBothUptoRow : OpenClaim := { program := "ytnpndfcghfoofaa", sum := "c6a4af299d2827773bfd745e55f8688213c3eaeb40ef455349ef3fb41d9f5e79", func := "shale/shalelaw02.AdlerBoth", spec := "adlerBoth", apart := false, narrowed := true }
def AdlerBothUptoSaid : Prop := adlerBothUptoRow.holds Try.pinned (OpenSpec.upto adlerBothSpec)

/-- 'shalelaw02.AdlerThree', WHERE WHAT IT READS IS OF BULK AT MOST 1048576: true; the input reads as it did. -/
def adlerThreeUptoRow : OpenClaim := { program := "ytnpndfcghfoofaa", sum := "c6a4af299d2827773bfd745e55f8688213c3eaeb40ef455349ef3fb41d9f5e79", func := "shale/shalelaw02.AdlerThree", spec := "adlerThree", apart := false, narrowed := true }
def AdlerThreeUptoSaid : Prop := adlerThreeUptoRow.holds Try.pinned (OpenSpec.upto adlerThreeSpec)

/-- 'shalelaw02.AdlerPlays', WHERE WHAT IT READS IS OF BULK AT MOST 1048576: true; the input reads as it did. -/
def adlerPlaysUptoRow : OpenClaim := { program := "ytnpndfcghfoofaa", sum := "c6a4af299d2827773bfd745e55f8688213c3eaeb40ef455349ef3fb41d9f5e79", func := "shale/shalelaw02.AdlerPlays", spec := "adlerPlays", apart := false, narrowed := true }
def AdlerPlaysUptoSaid : Prop := adlerPlaysUptoRow.holds Try.pinned (OpenSpec.upto adlerPlaysSpec)

/-- 'shalelaw06.SpaceRuns', WHERE WHAT IT READS IS OF BULK AT MOST 1048576: true; the input reads as it did. -/
def spaceRunsUptoRow : OpenClaim := { program := "ytnpndfcghfoofaa", sum := "c6a4af299d2827773bfd745e55f8688213c3eaeb40ef455349ef3fb41d9f5e79", func := "shale/shalelaw06.SpaceRuns", spec := "spaceRuns", apart := false, narrowed := true }
def SpaceRunsUptoSaid : Prop := spaceRunsUptoRow.holds Try.pinned (OpenSpec.upto spaceRunsSpec)

/-- 'shalelaw06.SpaceParts', WHERE WHAT IT READS IS OF BULK AT MOST 1048576: true; the input reads as it did. -/
def spacePartsUptoRow : OpenClaim := { program := "ytnpndfcghfoofaa", sum := "c6a4af299d2827773bfd745e55f8688213c3eaeb40ef455349ef3fb41d9f5e79", func := "shale/shalelaw06.SpaceParts", spec := "spaceParts", apart := false, narrowed := true }
def SpacePartsUptoSaid : Prop := spacePartsUptoRow.holds Try.pinned (OpenSpec.upto spacePartsSpec)

end Rows
end Go.Proofs.Ytnpndfcghfoofaa
