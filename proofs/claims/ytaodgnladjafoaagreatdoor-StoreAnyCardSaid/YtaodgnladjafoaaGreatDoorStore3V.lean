/- Words that the proof uses. -/
import Derived.Test.YtaodgnladjafoaaGreatDoorStore2V
import Derived.Test.YtaodgnladjafoaaGreatDoorHeld2V
set_option linter.unusedVariables false
set_option linter.unusedSimpArgs false
namespace Go.Proofs.YtaodgnladjafoaaGreatDoor.Sto
open Go.RowKit Go.Proofs.YtaodgnladjafoaaGreatDoorW.PrintWords Go.Proofs.YtaodgnladjafoaaGreatDoorW.PrintLast Go.Proofs.YtaodgnladjafoaaGreatDoorW.PrintMore Go.Proofs.YtaodgnladjafoaaGreatDoor.Md Go.Proofs.YtaodgnladjafoaaGreatDoor.Mni Go.Proofs.YtaodgnladjafoaaGreatDoor.QStoreLasts
open Go.Proofs.YtaodgnladjafoaaGreatDoor.Dk (Dsk IsD Ft)
open Go.Proofs.YtaodgnladjafoaaGreatDoor.Err (Laid IsErr code_nil code_c Chain at_some at_nil)
theorem Gen_c (Z R M H : Nat) (v p : Value) (o : Mni.Loc) (m : Man) (s : St) (w : World) (h : Hid (IsS w ⟨Z, R, M, H, v, p⟩ o m s)) :
    Calls Tryz.prog 15 #[.pointer (some ⟨Z, 0, none⟩)] w fun e w' => e = .returned (.int .u32 s.gen) ∧ Below w.heap.size w w' := by
  have c1 := h.out.cs.2.1
  go_enter Tryz.func15, Tryz.ntmps15
  go_wp2_with fail
  go_ret
  exact ⟨rfl, Below.refl _ _⟩
end Go.Proofs.YtaodgnladjafoaaGreatDoor.Sto
