/- Which slot counts behind a switch. -/
import Derived.Test.YtaodgnladjafoaaDoorSlot7V
set_option linter.unusedVariables false
set_option linter.unusedSimpArgs false
namespace Go.Proofs.YtaodgnladjafoaaDoor.Slt
open Go.Proofs.YtaodgnladjafoaaDoor.AdM (sum bl bl_length A B A_one A_lt B_lt)
open Go.RowKit Go.Proofs.YtaodgnladjafoaaDoor.QStorePuts Go.Proofs.YtaodgnladjafoaaDoorW.PrintWords Go.Proofs.YtaodgnladjafoaaDoorW.PrintLast Go.Proofs.YtaodgnladjafoaaDoorW.PrintMore Go.Proofs.YtaodgnladjafoaaDoor.CdM Go.Proofs.YtaodgnladjafoaaDoor.Md Go.Proofs.YtaodgnladjafoaaDoor.Dk Go.Proofs.YtaodgnladjafoaaDoor.Blb
open Go.Extern.Stop (cell)
open Go.Proofs.YtaodgnladjafoaaDoor.Err (Laid IsErr code_nil code_c Chain at_some at_nil)
theorem slotOf_pz : slotOf pz = Sl.zero := slotOf_sum (by decide +kernel)
def s1 : Sl := ⟨1, 0, 0, 0⟩
theorem best_pz {d : Dsk} (h0 : rd d 0 = pz) (h1 : rd d 1 = pz) : bestOf d 2 = Sl.zero := by
  show pick (pick Sl.zero (slotOf (rd d ((0 : Nat) : Int)))) (slotOf (rd d ((1 : Nat) : Int))) = _
  rw [show rd d ((0 : Nat) : Int) = pz from h0, show rd d ((1 : Nat) : Int) = pz from h1, slotOf_pz]
  rfl
theorem ft_nil {R M : Nat} {v : Value} {n : Nat} : ∀ i, Ft R M (.slice none 0 0) i → Ft R M v i ∨ n ≤ i := by
  rintro i (rfl | rfl | e)
  · exact .inl (.inl rfl)
  · exact .inl (.inr (.inl rfl))
  · simp [Value.ownBlock] at e
end Go.Proofs.YtaodgnladjafoaaDoor.Slt
