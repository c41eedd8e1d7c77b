/- A disk of no right size is refused. -/
import Derived.Test.YtoanhafbofphgaaDoorRefD4
set_option linter.unusedVariables false
set_option linter.unusedSimpArgs false
namespace Go.Proofs.YtoanhafbofphgaaDoor.Rfd
open Go.RowKit Go.Proofs.YtoanhafbofphgaaDoorW.PrintWords Go.Proofs.YtoanhafbofphgaaDoorW.PrintLast Go.Proofs.YtoanhafbofphgaaDoorW.PrintMore Go.Proofs.YtoanhafbofphgaaDoor.Md Go.Proofs.YtoanhafbofphgaaDoor.Dk
open Go.Proofs.YtoanhafbofphgaaDoor.Err (Laid IsErr code_nil Chain at_some at_nil)
theorem new_no (w : World) (n : Int) (h : n < 1 ∨ 2048 < n) :
    Calls Tryd.prog 9 #[.int .i64 n] w fun ev w' => ∃ T x, ev = .returned (.tuple #[.pointer none, .iface T x]) ∧ IsErr w' (.iface T x) 1 ∧ Below w.heap.size w w' := by
  rcases h with h | h
  · have c1 : decide (n < 1) = true := decide_eq_true h
    go_enter Tryd.func9, Tryd.ntmps9
    go_wp2_with fail
    refine (Dk.at_err _ _ 1 _).mono ?_
    rintro e w2 ⟨T, x, rfl, he, hd⟩
    have HE := Lib.hid he
    have HD := Lib.hid hd
    clear he hd
    go_wp2_with fail
    go_ret2
    exact ⟨T, x, rfl, HE.out, HD.out⟩
  · have c1 : decide (n < 1) = false := decide_eq_false (by omega)
    have c2 : decide (n > 2048) = true := decide_eq_true h
    have c2' : decide (2048 < n) = true := decide_eq_true h
    go_enter Tryd.func9, Tryd.ntmps9
    go_wp2_with fail
    refine (Dk.at_err _ _ 1 _).mono ?_
    rintro e w2 ⟨T, x, rfl, he, hd⟩
    have HE := Lib.hid he
    have HD := Lib.hid hd
    clear he hd
    go_wp2_with fail
    go_ret2
    exact ⟨T, x, rfl, HE.out, HD.out⟩
end Go.Proofs.YtoanhafbofphgaaDoor.Rfd
