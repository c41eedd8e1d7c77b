/- A disk that is nil. -/
import Derived.Test.YtoanhafbofphgaaDoorLst
set_option linter.unusedVariables false
set_option linter.unusedSimpArgs false
namespace Go.Proofs.YtoanhafbofphgaaDoor.Dk
open Go.RowKit Go.Proofs.YtoanhafbofphgaaDoorW.PrintWords Go.Proofs.YtoanhafbofphgaaDoorW.PrintLast Go.Proofs.YtoanhafbofphgaaDoorW.PrintMore Go.Proofs.YtoanhafbofphgaaDoor.Md
open Go.Extern.Stop (cell)
open Go.Proofs.YtoanhafbofphgaaDoor.Err (Laid IsErr code_nil Chain at_some at_nil)
theorem may_nil (w : World) (i : Int) : Calls Tryd.prog 23 #[.pointer none, .int .i64 i] w fun ev w' => ev = .returned (errV 1) ∧ Below w.heap.size w w' := by
  go_enter Tryd.func23, Tryd.ntmps23
  go_wp2_with fail
  go_ret
  exact ⟨rfl, Below.refl _ _⟩
theorem size_nil (w : World) : Calls Tryd.prog 17 #[.pointer none] w fun ev w' => ev = .returned (.int .i64 0) ∧ Below w.heap.size w w' := by
  go_enter Tryd.func17, Tryd.ntmps17
  go_wp2_with fail
  go_ret
  exact ⟨rfl, Below.refl _ _⟩
theorem soft_nil (w : World) : Calls Tryd.prog 16 #[.pointer none] w fun ev w' => ev = .returned (.int .i64 0) ∧ Below w.heap.size w w' := by
  go_enter Tryd.func16, Tryd.ntmps16
  go_wp2_with fail
  go_ret
  exact ⟨rfl, Below.refl _ _⟩
theorem up_nil (w : World) : Calls Tryd.prog 15 #[.pointer none] w fun ev w' => ev = .returned (.tuple #[]) ∧ Below w.heap.size w w' := by
  go_enter Tryd.func15, Tryd.ntmps15
  go_wp2_with fail
  go_end0
  exact ⟨rfl, Below.refl _ _⟩
theorem budget_nil (w : World) (n : Int) : Calls Tryd.prog 19 #[.pointer none, .int .i64 n] w fun ev w' => ev = .returned (.tuple #[]) ∧ Below w.heap.size w w' := by
  go_enter Tryd.func19, Tryd.ntmps19
  go_wp2_with fail
  go_end0
  exact ⟨rfl, Below.refl _ _⟩
theorem crash_nil (w : World) (m : Int) : Calls Tryd.prog 14 #[.pointer none, .int .u64 m] w fun ev w' => ev = .returned (.tuple #[]) ∧ Below w.heap.size w w' := by
  go_enter Tryd.func14, Tryd.ntmps14
  go_wp2_with fail
  go_end0
  exact ⟨rfl, Below.refl _ _⟩
set_option maxHeartbeats 1000000 in
set_option maxRecDepth 100000 in
theorem write_nil (w : World) (i : Int) (p : Pg) :
    Calls Tryd.prog 12 #[.pointer none, .int .i64 i, pv p] w fun ev w' => ∃ T x, ev = .returned (.iface T x) ∧ IsErr w' (.iface T x) 1 ∧ Below w.heap.size w w' := by
  have hpv := pv_eq p
  have hev : errV 1 = .iface 58 (.int .i64 1) := rfl
  go_enter Tryd.func12, Tryd.ntmps12
  go_wp2_with fail
  have hA : Below w.heap.size w (w.alloc (Obj.cells (pa p) 30 (0, 0))) := (Below.refl _ _).alloc (Nat.le_refl _) _
  refine (may_nil _ i).mono ?_
  rintro e w2 ⟨rfl, hd2⟩
  have HB2 := Lib.hid (hA.trans (hd2.mono (by simp)))
  clear hd2 hA
  rw [hev]
  go_wp2_with fail
  refine (at_err _ _ 1 w2).mono ?_
  rintro e w3 ⟨T, x, rfl, he, hd3⟩
  have HE := Lib.hid he
  have HB3 := Lib.hid (HB2.out.trans (hd3.mono HB2.out.size))
  clear he hd3
  go_wp2_with fail
  go_ret
  exact ⟨T, x, rfl, HE.out, HB3.out⟩
set_option maxHeartbeats 1000000 in
set_option maxRecDepth 100000 in
theorem flush_nil (w : World) :
    Calls Tryd.prog 10 #[.pointer none] w fun ev w' => ∃ T x, ev = .returned (.iface T x) ∧ IsErr w' (.iface T x) 1 ∧ Below w.heap.size w w' := by
  have hev : errV 1 = .iface 58 (.int .i64 1) := rfl
  go_enter Tryd.func10, Tryd.ntmps10
  go_wp2_with fail
  refine (may_nil _ 0).mono ?_
  rintro e w2 ⟨rfl, hd2⟩
  have HB2 := Lib.hid hd2
  clear hd2
  rw [hev]
  go_wp2_with fail
  refine (at_err _ _ 1 w2).mono ?_
  rintro e w3 ⟨T, x, rfl, he, hd3⟩
  have HE := Lib.hid he
  have HB3 := Lib.hid (HB2.out.trans (hd3.mono HB2.out.size))
  clear he hd3
  go_wp2_with fail
  go_ret
  exact ⟨T, x, rfl, HE.out, HB3.out⟩
set_option maxHeartbeats 1000000 in
set_option maxRecDepth 100000 in
theorem read_nil (w : World) (i : Int) :
    Calls Tryd.prog 13 #[.pointer none, .int .i64 i] w fun ev w' => ∃ T x, ev = .returned (.tuple #[pv pz, .iface T x]) ∧ IsErr w' (.iface T x) 1 ∧ Below w.heap.size w w' := by
  have hev : errV 1 = .iface 58 (.int .i64 1) := rfl
  go_enter Tryd.func13, Tryd.ntmps13
  go_wp2_with (first | (refine wl_alloc30 rfl rfl ?_))
  have hA : Below w.heap.size w (w.alloc (Obj.cells (pa pz) 30 (0, 0))) := (Below.refl _ _).alloc (Nat.le_refl _) _
  have hP : (w.alloc (Obj.cells (pa pz) 30 (0, 0))).heap[w.heap.size]? = some (Obj.cells (pa pz) 30 (0, 0)) := heap_alloc_last _ _
  refine (may_nil _ i).mono ?_
  rintro e w2 ⟨rfl, hd2⟩
  have HB2 := Lib.hid (hA.trans (hd2.mono (by simp)))
  have HP2 := Lib.hid ((hd2.block w.heap.size (by simp)).trans hP)
  clear hd2 hA hP
  rw [hev]
  go_wp2_with (first | (refine wl_build30 rfl rfl ?_))
  refine (at_err _ _ 1 w2).mono ?_
  rintro e w3 ⟨T, x, rfl, he, hd3⟩
  have HE := Lib.hid he
  have HB3 := Lib.hid (HB2.out.trans (hd3.mono HB2.out.size))
  have hP3 := (hd3.block w.heap.size (Err.lt_of_block HP2.out)).trans HP2.out
  clear he hd3
  go_wp2_with (first | (refine wl_store30 w.heap.size pz pz hP3 rfl _ _ rfl rfl rfl ?_))
  (try simp only [Exit.inBlock, Exit.then])
  refine bodyPost_ret (v := .tuple #[pv pz, .iface T x]) ?_ rfl ?_
  · exact read_results _ _ w.heap.size pz (.iface T x) rfl rfl (row_at _ _ pz _ hP3)
  have hM := mod_row w3 w.heap.size (pa pz)
  refine ⟨T, x, rfl, ?_, HB3.out.trans (hM.below HB3.out.size (fun i hi (e : i = w.heap.size) => by omega))⟩
  exact isErr_mod HE.out hM (fun k cs hk (e : k = w.heap.size) => by subst e; rw [hP3] at hk; simp at hk)
end Go.Proofs.YtoanhafbofphgaaDoor.Dk
