/- Words that the proof uses. -/
import Derived.Test.YtaodgnladjafoaaGreatDoorSlot7V
set_option linter.unusedVariables false
set_option linter.unusedSimpArgs false
namespace Go.Proofs.YtaodgnladjafoaaGreatDoor.Slt
open Go.Proofs.YtaodgnladjafoaaGreatDoor.AdM (sum bl bl_length A B A_one A_lt B_lt)
open Go.RowKit Go.Proofs.YtaodgnladjafoaaGreatDoor.QStoreLasts Go.Proofs.YtaodgnladjafoaaGreatDoorW.PrintWords Go.Proofs.YtaodgnladjafoaaGreatDoorW.PrintLast Go.Proofs.YtaodgnladjafoaaGreatDoorW.PrintMore Go.Proofs.YtaodgnladjafoaaGreatDoor.CdM Go.Proofs.YtaodgnladjafoaaGreatDoor.Md Go.Proofs.YtaodgnladjafoaaGreatDoor.Dk Go.Proofs.YtaodgnladjafoaaGreatDoor.Blb
open Go.Extern.Stop (cell)
open Go.Proofs.YtaodgnladjafoaaGreatDoor.Err (Laid IsErr code_nil code_c Chain at_some at_nil)
theorem slotOf_pz : slotOf pz = Sl.zero := slotOf_sum (by decide +kernel)
theorem best_pz {d : Dsk} (h0 : rd d 0 = pz) (h1 : rd d 1 = pz) : bestOf d 2 = Sl.zero := by
  show pick (pick Sl.zero (slotOf (rd d ((0 : Nat) : Int)))) (slotOf (rd d ((1 : Nat) : Int))) = _
  rw [show rd d ((0 : Nat) : Int) = pz from h0, show rd d ((1 : Nat) : Int) = pz from h1, slotOf_pz]
  rfl
theorem bestOf_two (d : Dsk) : bestOf d 2 = pick (pick Sl.zero (slotOf (rd d 0))) (slotOf (rd d 1)) := rfl
theorem pick_z {s : Sl} (h : 0 < s.g) : pick Sl.zero s = s := by unfold pick; exact if_pos h
theorem pick_zz : pick Sl.zero Sl.zero = Sl.zero := by unfold pick; split <;> rfl
theorem ft_nil {R M : Nat} {v : Value} {n : Nat} : ∀ i, Ft R M (.slice none 0 0) i → Ft R M v i ∨ n ≤ i := by
  rintro i (rfl | rfl | e)
  · exact .inl (.inl rfl)
  · exact .inl (.inr (.inl rfl))
  · simp [Value.ownBlock] at e
end Go.Proofs.YtaodgnladjafoaaGreatDoor.Slt
