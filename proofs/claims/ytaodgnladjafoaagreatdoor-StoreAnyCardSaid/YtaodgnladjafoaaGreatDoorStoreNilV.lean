/- Words that the proof uses. -/
import Derived.Test.YtaodgnladjafoaaGreatDoorStore6V
set_option linter.unusedVariables false
set_option linter.unusedSimpArgs false
namespace Go.Proofs.YtaodgnladjafoaaGreatDoor.Sto
open Go.RowKit Go.Proofs.YtaodgnladjafoaaGreatDoorW.PrintWords Go.Proofs.YtaodgnladjafoaaGreatDoorW.PrintLast Go.Proofs.YtaodgnladjafoaaGreatDoorW.PrintMore Go.Proofs.YtaodgnladjafoaaGreatDoor.Md Go.Proofs.YtaodgnladjafoaaGreatDoor.Mni Go.Proofs.YtaodgnladjafoaaGreatDoor.QStoreLasts
open Go.Proofs.YtaodgnladjafoaaGreatDoor.Dk (Dsk IsD Ft)
open Go.Proofs.YtaodgnladjafoaaGreatDoor.Err (Laid IsErr code_nil code_c Chain at_some at_nil)
theorem Hold_nil (w : World) : Calls Tryz.prog 27 #[.pointer none, .slice none 0 0] w fun e w' => e = .returned (.tuple #[]) ∧ Below w.heap.size w w' := by
  go_enter Tryz.func27, Tryz.ntmps27
  go_wp2_with fail
  go_loopg [8] 0 (fun kq v8 wr => v8 = .int .i64 0 ∧ wr = w)
  case atStart => exact ⟨rfl, rfl⟩
  case round =>
    obtain ⟨rfl, rfl⟩ := hrel
    go_wp2_with fail
    go_end0
    exact ⟨rfl, Below.refl _ _⟩
set_option maxRecDepth 100000 in
theorem Free_nil (L : Nat) (w : World) (h : Hid (w.heap[L]? = some (Obj.cells (ra zr) 36 (0, 0)))) : Calls Tryz.prog 28 #[.pointer none, .slice (some ⟨L, 0, none⟩) 1 1] w fun e w' => e = .returned (.tuple #[]) ∧ Below w.heap.size w w' := by
  have HX0 := Lib.hid (show w.cell? ⟨L, 0, none⟩ = some (.int .i64 zr.f0) from Err.cell_of_blk h.out 0)
  have HX1 := Lib.hid (show w.cell? ⟨L, 0 + 1, none⟩ = some (.int .i64 zr.f1) from Err.cell_of_blk h.out 1)
  have HX2 := Lib.hid (show w.cell? ⟨L, 0 + 2, none⟩ = some (.int .u32 zr.f2) from Err.cell_of_blk h.out 2)
  clear h
  go_enter Tryz.func28, Tryz.ntmps28
  go_wp2_with fail
  go_loopg [8] 1 (fun kq v8 wr => v8 = .int .i64 0 ∧ wr = w)
  case atStart => exact ⟨rfl, rfl⟩
  case round =>
    obtain ⟨rfl, rfl⟩ := hrel
    go_wp2_with (first
      | (refine wl_loadRf ⟨L, 0, none⟩ zr HX0.out HX1.out HX2.out rfl _ rfl rfl ?_)
      | (refine wl_allocR rfl rfl ?_)
      | (refine wl_storeRn #[.int .i64 0, .int .i64 0, .int .u32 0] rfl zr rfl _ _ rfl rfl rfl ?_))
    refine bodyPost_ret (v := .tuple #[]) (results_none (by kernel_rfl) _ _ _) rfl ?_
    exact ⟨rfl, (Below.refl _ _).alloc (Nat.le_refl _) _⟩
theorem Forget_nil (w : World) : Calls Tryz.prog 29 #[.pointer none] w fun e w' => e = .returned (.tuple #[]) ∧ Below w.heap.size w w' := by
  go_enter Tryz.func29, Tryz.ntmps29
  go_wp2_with fail
  go_end0
  exact ⟨rfl, Below.refl _ _⟩
theorem Gen_nil (w : World) : Calls Tryz.prog 15 #[.pointer none] w fun e w' => e = .returned (.int .u32 0) ∧ Below w.heap.size w w' := by
  go_enter Tryz.func15, Tryz.ntmps15
  go_wp2_with fail
  go_ret
  exact ⟨rfl, Below.refl _ _⟩
theorem Taken_nil (w : World) : Calls Tryz.prog 19 #[.pointer none] w fun e w' => e = .returned (.slice none 0 0) ∧ Below w.heap.size w w' := by
  go_enter Tryz.func19, Tryz.ntmps19
  go_wp2_with fail
  go_ret
  exact ⟨rfl, Below.refl _ _⟩
theorem Get_nil (x y z : Int) (w : World) : Calls Tryz.prog 23 #[.pointer none, .agg #[.int .i64 x, .int .i64 y, .int .u32 z]] w fun e w' => ∃ T u, e = .returned (.tuple #[.string ⟨#[]⟩, .iface T u]) ∧ IsErr w' (.iface T u) 1 ∧ Below w.heap.size w w' := by
  go_enter Tryz.func23, Tryz.ntmps23
  go_wp2_with fail
  have hb1 : Below w.heap.size w (w.alloc (Obj.cells #[.int .i64 x, .int .i64 y, .int .u32 z] 36 (0, 0))) := (Below.refl _ _).alloc (Nat.le_refl _) _
  have HB1 := Lib.hid hb1
  generalize (w.alloc (Obj.cells #[.int .i64 x, .int .i64 y, .int .u32 z] 36 (0, 0))) = w1 at *
  clear hb1
  refine (at_err _ _ 1 w1).mono ?_
  rintro e w2 ⟨T, u, rfl, he, hd⟩
  have HE2 := Lib.hid he
  have HB2 := below_to HB1 (Nat.le_refl _) hd
  clear he hd HB1
  go_wp2_with fail
  go_ret2
  exact ⟨T, u, rfl, HE2.out, HB2.out⟩
theorem Put_nil (t : ByteArray) (w : World) : Calls Tryz.prog 11 #[.pointer none, .string t] w fun e w' => ∃ T u, e = .returned (.tuple #[.agg (ra zr), .iface T u]) ∧ IsErr w' (.iface T u) 1 ∧ Below w.heap.size w w' := by
  go_enter Tryz.func11, Tryz.ntmps11
  go_wp2_with (first | (refine wl_allocR rfl rfl ?_))
  have hb1 : Below w.heap.size w (w.alloc (Obj.cells #[.int .i64 0, .int .i64 0, .int .u32 0] 36 (0, 0))) := (Below.refl _ _).alloc (Nat.le_refl _) _
  have HY1 := Lib.hid (show (w.alloc (Obj.cells #[.int .i64 0, .int .i64 0, .int .u32 0] 36 (0, 0))).heap[w.heap.size]? = some (Obj.cells (ra zr) 36 (0, 0)) from heap_alloc_last w (Obj.cells (ra zr) 36 (0, 0)))
  have HB1 := Lib.hid hb1
  obtain ⟨Y, hY⟩ : ∃ Y, w.heap.size = Y := ⟨_, rfl⟩
  have HW := Lib.hid hY
  rw [hY] at HY1
  simp only [hY]
  generalize (w.alloc (Obj.cells #[.int .i64 0, .int .i64 0, .int .u32 0] 36 (0, 0))) = w1 at *
  clear hb1 hY
  refine (at_err _ _ 1 w1).mono ?_
  rintro e w3 ⟨T, x, rfl, he, hd⟩
  have HE3 := Lib.hid he
  have HB3 := below_to HB1 (Nat.le_refl _) hd
  have HY3 := blk_to HY1 hd
  clear he hd HB1 HY1
  go_wp2_with (first | (refine wl_storeR Y (ra zr) rfl zr HY3.out rfl _ _ rfl rfl rfl ?_))
  (try simp only [Exit.inBlock, Exit.then])
  have hm := mod_row w3 Y (ra zr)
  refine bodyPost_ret (v := .tuple #[.agg (ra zr), .iface T x]) ?_ rfl ?_
  · exact put_results _ _ Y zr _ rfl rfl (setRow_heap _ Y _ _ _ _ HY3.out)
  exact ⟨T, x, rfl, isErr_box HE3.out HY3.out hm, HB3.out.trans (hm.below HB3.out.size (fun i hi (e : i = Y) => by have := HW.out; omega))⟩
theorem Switch_nil (w : World) : Calls Tryz.prog 12 #[.pointer none, .agg #[.slice none 0 0, .slice none 0 0, .int .i64 0, .slice none 0 0]] w fun e w' => ∃ T u, e = .returned (.iface T u) ∧ IsErr w' (.iface T u) 1 ∧ Below w.heap.size w w' := by
  go_enter Tryz.func12, Tryz.ntmps12
  go_wp2_with fail
  have hb1 : Below w.heap.size w (w.alloc (Obj.cells #[.slice none 0 0, .slice none 0 0, .int .i64 0, .slice none 0 0] 43 (0, 0))) := (Below.refl _ _).alloc (Nat.le_refl _) _
  have HB1 := Lib.hid hb1
  generalize (w.alloc (Obj.cells #[.slice none 0 0, .slice none 0 0, .int .i64 0, .slice none 0 0] 43 (0, 0))) = w1 at *
  clear hb1
  refine (at_err _ _ 1 w1).mono ?_
  rintro e w3 ⟨T, x, rfl, he, hd⟩
  have HE3 := Lib.hid he
  have HB3 := below_to HB1 (Nat.le_refl _) hd
  clear he hd HB1
  go_wp2_with fail
  go_ret
  exact ⟨T, x, rfl, HE3.out, HB3.out⟩
theorem manifest_results' (tmps : Array Value) (W : World) (b : Nat) (cs : Array Value) (hs : cs.size = 4) (h4 : tmps.getD 2 undef = .pointer (some ⟨b, 0, none⟩)) (h : W.heap[b]? = some (Obj.cells cs 43 (0, 0))) : (results Tryz.f17 tmps).run Tryz.prog W = .ok (.agg cs) W := by
  have hl : (loadVar 43 ⟨b, 0, none⟩).run Tryz.prog W = .ok (.agg cs) W := run_loadVar_row W b 43 43 cs (0, 0) _ h Tryz.underlying43 rfl (by rw [sizeM, hs])
  have h4' : tmps[2]?.getD undef = .pointer (some ⟨b, 0, none⟩) := by simpa using h4
  simp [results, Tryz.results17, asAddr, h4', hl]
theorem Manifest_nil (w : World) : Calls Tryz.prog 17 #[.pointer none] w fun e w' => e = .returned (.agg #[.slice none 0 0, .slice none 0 0, .int .i64 0, .slice none 0 0]) ∧ Below w.heap.size w w' := by
  go_enter Tryz.func17, Tryz.ntmps17
  go_upto_region 1 with (first | (refine wl_allocM rfl rfl ?_))
  have hb1 : Below w.heap.size w (w.alloc (Obj.cells #[.slice none 0 0, .slice none 0 0, .int .i64 0, .slice none 0 0] 43 (0, 0))) := (Below.refl _ _).alloc (Nat.le_refl _) _
  have HX1 := Lib.hid (heap_alloc_last w (Obj.cells #[.slice none 0 0, .slice none 0 0, .int .i64 0, .slice none 0 0] 43 (0, 0)))
  have HB1 := Lib.hid hb1
  obtain ⟨X, hX⟩ : ∃ X, w.heap.size = X := ⟨_, rfl⟩
  have HXw := Lib.hid (show w.heap.size ≤ X by omega)
  rw [hX] at HX1
  try simp only [hX]
  generalize (w.alloc (Obj.cells #[.slice none 0 0, .slice none 0 0, .int .i64 0, .slice none 0 0] 43 (0, 0))) = w1 at *
  clear hb1 hX
  go_wp2_with (first | (refine wl_storeM X #[.slice none 0 0, .slice none 0 0, .int .i64 0, .slice none 0 0] rfl (⟨none, 0, none, 0, none, 0⟩ : Mni.Loc) (⟨[], [], 0, []⟩ : Man) HX1.out rfl _ _ rfl rfl rfl ?_))
  (try simp only [Exit.inBlock, Exit.then])
  refine bodyPost_ret (v := .agg #[.slice none 0 0, .slice none 0 0, .int .i64 0, .slice none 0 0]) ?_ rfl ?_
  · exact manifest_results' _ _ X _ rfl rfl (setRow_heap _ X _ _ _ _ HX1.out)
  have k := mod_row w1 X #[.slice none 0 0, .slice none 0 0, .int .i64 0, .slice none 0 0]
  exact ⟨rfl, HB1.out.trans (k.below HB1.out.size (fun i hi (e : i = X) => by have := HXw.out; omega))⟩
theorem made_no (w : World) (R M : Nat) (v : Value) (d : Dsk) (h : Hid (IsD w R M v d)) (hsz : d.size < 8) :
    Calls Tryz.prog 32 #[.pointer (some ⟨R, 0, none⟩)] w fun e w' => ∃ T u, e = .returned (.tuple #[.pointer none, .iface T u]) ∧ IsErr w' (.iface T u) 1 ∧ Below w.heap.size w w' := by
  have c1 : decide (d.size < 8) = true := decide_eq_true hsz
  clear hsz
  go_enter Tryz.func32, Tryz.ntmps32
  go_wp2_with fail
  refine (Dk.size_c _ R M v d h).mono ?_
  rintro e w1 ⟨rfl, hd⟩
  have HB1 := Lib.hid hd
  clear hd h
  go_wp2_with fail
  refine (at_err _ _ 1 w1).mono ?_
  rintro e w3 ⟨T, x, rfl, he, hd⟩
  have HE3 := Lib.hid he
  have HB3 := below_to HB1 (Nat.le_refl _) hd
  clear he hd HB1
  go_wp2_with fail
  go_ret2
  exact ⟨T, x, rfl, HE3.out, HB3.out⟩
theorem Open_small (w : World) (R M : Nat) (v : Value) (d : Dsk) (h : Hid (IsD w R M v d)) (hsz : d.size < 8) :
    Calls Tryz.prog 14 #[.pointer (some ⟨R, 0, none⟩)] w fun e w' => ∃ T u, e = .returned (.tuple #[.pointer none, .iface T u]) ∧ IsErr w' (.iface T u) 1 ∧ Below w.heap.size w w' := by
  go_enter Tryz.func14, Tryz.ntmps14
  go_wp2_with fail
  refine (made_no w R M v d h hsz).mono ?_
  rintro e w1 ⟨T, x, rfl, he, hd⟩
  have HE := Lib.hid he
  have HB := Lib.hid hd
  clear he hd
  go_wp2_with fail
  go_ret2
  exact ⟨T, x, rfl, HE.out, HB.out⟩
theorem Format_small (w : World) (R M : Nat) (v : Value) (d : Dsk) (h : Hid (IsD w R M v d)) (hsz : d.size < 8) :
    Calls Tryz.prog 9 #[.pointer (some ⟨R, 0, none⟩)] w fun e w' => ∃ T u, e = .returned (.tuple #[.pointer none, .iface T u]) ∧ IsErr w' (.iface T u) 1 ∧ Below w.heap.size w w' := by
  go_enter Tryz.func9, Tryz.ntmps9
  go_wp2_with fail
  refine (made_no w R M v d h hsz).mono ?_
  rintro e w1 ⟨T, x, rfl, he, hd⟩
  have HE := Lib.hid he
  have HB := Lib.hid hd
  clear he hd
  go_wp2_with fail
  go_ret2
  exact ⟨T, x, rfl, HE.out, HB.out⟩
end Go.Proofs.YtaodgnladjafoaaGreatDoor.Sto
