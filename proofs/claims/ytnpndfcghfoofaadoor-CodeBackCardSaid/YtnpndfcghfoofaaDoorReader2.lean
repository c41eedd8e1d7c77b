/- code.New, Reader.Left; the closures that Reader.Num and Reader.Str hand to safe. -/
import Derived.Test.YtnpndfcghfoofaaDoorReader
import Derived.Defers
import Derived.Recover
set_option linter.unusedVariables false
namespace Go.Proofs.YtnpndfcghfoofaaDoor.Rdr
open Go.RowKit Go.Proofs.YtnpndfcghfoofaaDoorW.PrintWords Go.Proofs.YtnpndfcghfoofaaDoorW.PrintLast Go.Proofs.YtnpndfcghfoofaaDoorW.PrintMore Go.Proofs.YtnpndfcghfoofaaDoor.CdM
theorem new_c (s : ByteArray) (w : World) : Calls Tryd.prog 15 #[.string s] w fun ev w' => ev = .returned (.pointer (some ⟨w.heap.size, 0, none⟩)) ∧ Has w' w.heap.size s 0 ∧ Below w.heap.size w w' := by
  go_enter Tryd.func15, Tryd.ntmps15
  go_wp2
  go_ret
  exact ⟨rfl, by unfold Has; exact Go.Deep.blk_alloc_new _ _, (Below.refl _ _).alloc (Nat.le_refl _) _⟩
set_option maxHeartbeats 2000000 in
theorem left_c (R : Nat) (s : ByteArray) (p : Nat) (w : World) (h : Hid (Has w R s p)) (hp : p ≤ s.size) (hs : s.size ≤ 4611686018427387904) :
    Calls Tryd.prog 18 #[.pointer (some ⟨R, 0, none⟩)] w fun ev w' => ev = .returned (.int .i64 ((s.size : Int) - (p : Int))) ∧ w'.heap = w.heap ∧ Below w.heap.size w w' := by
  have h0 := h.out.c0
  have h1 := h.out.c1
  have c1 : IntKind.i64.wrap ((s.size : Int) - (p : Int)) = (s.size : Int) - (p : Int) := IntWalk.i64_in _ (by omega)
  have HN := Lib.hid (show w.drew.cell? ⟨R, 0, none⟩ = some (.string s) ∧ w.drew.cell? ⟨R, 1, none⟩ = some (.int .i64 (p : Int)) from ⟨h0, h1⟩)
  go_enter Tryd.func18, Tryd.ntmps18
  go_wp2_with fail
  repeat (go_quiet (fail); try go_wp2)
  go_ret
  exact ⟨rfl, rfl, by repeat (first | exact Below.refl _ _ | apply pw_below_drewN | apply below_drew1)⟩
theorem assNil (xT : TypeId) (w : World) : (Instr.typeAssert .nilIface xT 48 true).run Tryd.prog w = .ok (.tuple #[.int .i64 0, .bool false]) w := by kernel_rfl
set_option maxRecDepth 100000 in
theorem catch_idle (a b c : Value) (w : World) :
    CallsD Tryd.prog 30 #[a, b, c] .returning w fun e u' w' => e = .returned (.tuple #[]) ∧ u' = .returning ∧ w' = w := by
  have hta := assNil
  refine callsD_of_wpS Tryd.func30 rfl fun c₀ cs hu => ?_
  apply wpS_seq
  apply wpS_region
  simp [wpOpsS, go_sem, recoverD, hu, Tryd.ntmps30, Exit.thenS, hta]
  apply wpS_seq
  apply wpS_region
  simp [wpOpsS, go_sem, Exit.thenS]
  refine wpS_cond (t := false) (by simp [Act.eval, Array.replicate]) ?_
  simp only [Bool.false_eq_true, if_false]
  refine wpS_of_wp (wp_skip ?_)
  cases c₀
  simp_all [bodyPostS, results, Tryd.results30]
end Go.Proofs.YtnpndfcghfoofaaDoor.Rdr
