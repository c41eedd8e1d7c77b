/- fail.At on a wrapped number; the laws' example 'awake'; the text of a number. -/
import Derived.Test.YtmccdopagidfnaaDoorErr2
set_option linter.unusedVariables false
namespace Go.Proofs.YtmccdopagidfnaaDoor.Err
open Go.RowKit Go.Extern.Stop Go.Stop Go.Extern
theorem below_on {B : Nat} {w w1 w2 : World} (h : Hid (Below B w w1)) (hB : B ≤ w.heap.size) (k : Below w1.heap.size w1 w2) : Hid (Below B w w2) :=
  h.out.trans (k.mono (Nat.le_trans hB h.out.size))
theorem at_c (op path : ByteArray) (v : Value) (n : Int) (l : List (ByteArray × ByteArray)) (w : World) (hch : Hid (Chain w v n l)) :
    Calls Tryd.prog 11 #[.string op, .string path, v] w fun ev w' => ∃ T x, ev = .returned (.iface T x) ∧ Hid (Chain w' (.iface T x) n ((op, path) :: l)) ∧ Below w.heap.size w w' := by
  obtain ⟨T, x, rfl⟩ := hch.out.iface
  have hB : Below w.heap.size w (w.alloc (.cells #[.string op, .string path, .iface T x] 42)) := (Below.refl _ _).alloc (Nat.le_refl _) _
  refine (at_some op path T x w).mono ?_
  rintro ev w' ⟨rfl, rfl⟩
  exact ⟨_, _, rfl, Lib.hid (.wrap _ op path _ n l (by show (w.heap.push _)[w.heap.size]? = _; simp) (hch.out.on hB)), hB⟩
set_option maxHeartbeats 2000000 in
theorem awake_c (w : World) (hg : Hid (Laid w)) : Calls Tryd.prog 7 #[] w fun e w' => e = .returned (.bool true) ∧ Below w.heap.size w w' := by
  have hc0 : Hid (Chain w (.iface 35 (.int .i64 3)) 3 []) := Lib.hid (.base 3)
  go_enter Tryd.func7, Tryd.ntmps7
  go_wp2_with fail
  refine (at_c _ _ _ 3 [] _ hc0).mono ?_
  rintro e w1 ⟨T, x, rfl, hc, hd⟩
  have HG := Lib.hid (hg.out.on hd)
  have HB := Lib.hid hd
  clear hd
  go_wp2_with fail
  refine (code_c _ 3 _ (Lib.hid (.inr ⟨_, hc.out⟩)) HG).mono ?_
  rintro e w2 ⟨rfl, hd⟩
  have HB1 := below_on HB (Nat.le_refl _) hd
  clear hd
  go_wp2_with fail
  go_ret
  exact ⟨rfl, HB1.out⟩
end Go.Proofs.YtmccdopagidfnaaDoor.Err
