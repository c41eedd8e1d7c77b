/- Words that the proof uses. -/
import Derived.Test.YtaodgnladjafoaaGreatDoorMani9V
set_option linter.unusedVariables false
set_option linter.unusedSimpArgs false
namespace Go.Proofs.YtaodgnladjafoaaGreatDoor.Mni
open Go.RowKit Go.Proofs.YtaodgnladjafoaaGreatDoorW.PrintWords Go.Proofs.YtaodgnladjafoaaGreatDoorW.PrintLast Go.Proofs.YtaodgnladjafoaaGreatDoorW.PrintMore Go.Proofs.YtaodgnladjafoaaGreatDoor.Md Go.Proofs.YtaodgnladjafoaaGreatDoor.QStoreLasts
theorem rightM_parts {m : Man} {n : Int} (h : rightM m n = true) : 2 ≤ n ∧ n ≤ 2048 ∧ sizedB m = true ∧ (∃ nm, named m = some nm ∧ nm.contains false = false) ∧ ∃ out, marks m n = some out := by
  unfold rightM at h
  simp only [Bool.and_eq_true, decide_eq_true_eq, Option.isSome_iff_exists] at h
  obtain ⟨⟨h1, h2⟩, h3, ⟨nm, h4⟩, ⟨out, h5⟩, h6⟩ := h
  rw [h4] at h6
  exact ⟨h1, h2, h3, ⟨nm, h4, by simpa using h6⟩, out, h5⟩
end Go.Proofs.YtaodgnladjafoaaGreatDoor.Mni
