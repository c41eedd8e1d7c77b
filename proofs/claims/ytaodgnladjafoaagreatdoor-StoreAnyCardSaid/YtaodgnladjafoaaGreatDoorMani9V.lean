/- Words that the proof uses. -/
import Derived.Test.YtaodgnladjafoaaGreatDoorMani8V
set_option linter.unusedVariables false
set_option linter.unusedSimpArgs false
namespace Go.Proofs.YtaodgnladjafoaaGreatDoor.Mni
open Go.RowKit Go.Proofs.YtaodgnladjafoaaGreatDoorW.PrintWords Go.Proofs.YtaodgnladjafoaaGreatDoorW.PrintLast Go.Proofs.YtaodgnladjafoaaGreatDoorW.PrintMore Go.Proofs.YtaodgnladjafoaaGreatDoor.Md Go.Proofs.YtaodgnladjafoaaGreatDoor.QStoreLasts Go.Proofs.YtaodgnladjafoaaGreatDoor.CdM
open Go.Proofs.YtaodgnladjafoaaGreatDoor.Err (Laid IsErr code_nil code_c Chain at_some at_nil)
def emptyM : Man := ⟨[], [], -1, []⟩
theorem empty_fits : Fits emptyM := by
  refine ⟨fun r h => (List.not_mem_nil h).elim, fun r h => (List.not_mem_nil h).elim, by decide, by decide, fun r h => (List.not_mem_nil h).elim, by decide, by decide, by decide⟩
theorem numS_zero : numS 0 = ⟨#[0]⟩ := by
  unfold numS digs
  rw [num_small (by decide)]
  decide
theorem empty_lay : layM emptyM = ⟨#[0, 0, 0, 0]⟩ := by
  have e : layM emptyM = (numS 0 ++ ⟨#[]⟩) ++ ⟨#[]⟩ ++ ((numS 0 ++ ⟨#[]⟩) ++ ⟨#[]⟩ ++ (numS 0 ++ (numS 0 ++ ⟨#[]⟩))) ++ ⟨#[]⟩ := rfl
  rw [e, numS_zero]
  decide
end Go.Proofs.YtaodgnladjafoaaGreatDoor.Mni
