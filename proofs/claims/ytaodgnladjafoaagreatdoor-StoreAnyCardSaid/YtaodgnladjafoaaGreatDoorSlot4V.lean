/- Words that the proof uses. -/
import Derived.Test.YtaodgnladjafoaaGreatDoorSlotAV
import Derived.Test.YtaodgnladjafoaaGreatDoorBlobReadV
set_option linter.unusedVariables false
set_option linter.unusedSimpArgs false
namespace Go.Proofs.YtaodgnladjafoaaGreatDoor.Slt
open Go.Proofs.YtaodgnladjafoaaGreatDoor.AdM (sum bl bl_length A B A_one A_lt B_lt)
open Go.RowKit Go.Proofs.YtaodgnladjafoaaGreatDoor.QStoreLasts Go.Proofs.YtaodgnladjafoaaGreatDoorW.PrintWords Go.Proofs.YtaodgnladjafoaaGreatDoorW.PrintLast Go.Proofs.YtaodgnladjafoaaGreatDoorW.PrintMore Go.Proofs.YtaodgnladjafoaaGreatDoor.CdM Go.Proofs.YtaodgnladjafoaaGreatDoor.Md Go.Proofs.YtaodgnladjafoaaGreatDoor.Dk Go.Proofs.YtaodgnladjafoaaGreatDoor.Blb
open Go.Extern.Stop (cell)
open Go.Proofs.YtaodgnladjafoaaGreatDoor.Err (Laid IsErr code_nil Chain at_some at_nil)
def SlotAt (w : World) (p : Pg) (g x y z : Int) (e : Value) : Prop :=
  (Rt g x y z ∧ layP g x y z = p ∧ e = .nilIface) ∨
  ((numV (sub p 60 4) ≠ sum (sub p 0 60) ∧ ∃ T u, e = .iface T u ∧ IsErr w e 12) ∧ g = 0 ∧ x = 0 ∧ y = 0 ∧ z = 0) ∨
  ((numV (sub p 60 4) = sum (sub p 0 60) ∧ (∀ g x y z, Rt g x y z → layP g x y z ≠ p) ∧ ∃ T u, e = .iface T u ∧ IsErr w e 13) ∧ g = 0 ∧ x = 0 ∧ y = 0 ∧ z = 0)
section
variable {ops : Array Oper} {rest : List Oper} {o : Oper} {a : Go.Act} {w : World} {Q : Exit → Go.Act → World → Prop}
theorem sl_one (g x y z : Int) : (slA g x y z).all (·.oneCell') = true := by simp [Value.oneCell']
theorem sizeS : (Tryz.prog.info? 62).map (·.size) = some 4 := by kernel_rfl
theorem storeS (w : World) (b : Nat) (g0 x0 y0 z0 g x y z : Int) (h : w.heap[b]? = some (Obj.cells (slA g0 x0 y0 z0) 62 (0, 0))) : (Instr.storeAt 62 (.pointer (some ⟨b, 0, none⟩)) (.agg (slA g x y z))).run Tryz.prog w = .ok () (w.setRow b (slA g x y z)) := by
  simp only [Instr.storeAt, Instr.sureAddr, Sem.run_bind, Sem.run_pure, Result.andThen_ok]
  exact run_storeVar_row w b 62 62 (slA g0 x0 y0 z0) (slA g x y z) h sizeS rfl (sl_one g x y z)
theorem wl_storeS (b : Nat) (g0 x0 y0 z0 g x y z : Int) (hp : w.heap[b]? = some (Obj.cells (slA g0 x0 y0 z0) 62 (0, 0))) (hgd : o.guard = none) (p q : Operand) (ho : o.op = .store 62 p q) (hx : a.eval p = .pointer (some ⟨b, 0, none⟩)) (hy : a.eval q = .agg (slA g x y z))
    (h : wpList Tryz.prog ops Q rest (a.put o.dst undef) (w.setRow b (slA g x y z))) : wpList Tryz.prog ops Q (o :: rest) a w :=
  wpList_plain hgd fun K hK => by
    unfold Oper.wp execOp
    simp only [ho, hx, hy, storeS w b g0 x0 y0 z0 g x y z hp, Sem.run_bind, Sem.run_pure, Result.andThen_ok]
    exact hK _ _ h
theorem wl_storeSn {W : World} (g0 x0 y0 z0 g x y z : Int) (hgd : o.guard = none) (p q : Operand) (ho : o.op = .store 62 p q) (hx : a.eval p = .pointer (some ⟨W.heap.size, 0, none⟩)) (hy : a.eval q = .agg (slA g x y z))
    (h : wpList Tryz.prog ops Q rest (a.put o.dst undef) (W.alloc (Obj.cells (slA g x y z) 62 (0, 0)))) : wpList Tryz.prog ops Q (o :: rest) a (W.alloc (Obj.cells (slA g0 x0 y0 z0) 62 (0, 0))) := by
  refine wl_storeS W.heap.size g0 x0 y0 z0 g x y z (heap_alloc_last _ _) hgd p q ho hx hy ?_
  rw [World.setRow_alloc_new]
  exact h
theorem wl_allocS (hgd : o.guard = none) (ho : o.op = .alloc 62) (h : wpList Tryz.prog ops Q rest (a.put o.dst (.pointer (some ⟨w.heap.size, 0, none⟩))) (w.alloc (Obj.cells (slA 0 0 0 0) 62 (0, 0)))) : wpList Tryz.prog ops Q (o :: rest) a w :=
  Kd.event_run hgd (by unfold execOp; simp only [ho]; kernel_rfl) h
theorem run_loadS (w : World) (b : Nat) (g x y z : Int) (h : w.heap[b]? = some (Obj.cells (slA g x y z) 62 (0, 0))) : (Instr.loadAt 62 (.pointer (some ⟨b, 0, none⟩))).run Tryz.prog w = .ok (.agg (slA g x y z)) w := by
  simp only [Instr.loadAt, Instr.sureAddr, Sem.run_bind, Sem.run_pure, Result.andThen_ok]
  exact run_loadVar_row w b 62 62 (slA g x y z) (0, 0) _ h Tryz.underlying62 rfl (by kernel_rfl)
theorem wl_loadS (b : Nat) (g x y z : Int) (hp : w.heap[b]? = some (Obj.cells (slA g x y z) 62 (0, 0))) (hgd : o.guard = none) (p : Operand) (ho : o.op = .load 62 p) (hx : a.eval p = .pointer (some ⟨b, 0, none⟩))
    (h : wpList Tryz.prog ops Q rest (a.put o.dst (.agg (slA g x y z))) w) : wpList Tryz.prog ops Q (o :: rest) a w :=
  Kd.event_run hgd (by unfold execOp; simp only [ho, hx, run_loadS w b g x y z hp, Sem.run_bind, Sem.run_pure, Result.andThen_ok]) h
end
theorem srow_at (W : World) (b : Nat) (g0 x0 y0 z0 g x y z : Int) (h : W.heap[b]? = some (Obj.cells (slA g0 x0 y0 z0) 62 (0, 0))) : (W.setRow b (slA g x y z)).heap[b]? = some (Obj.cells (slA g x y z) 62 (0, 0)) :=
  setRow_heap W b _ _ _ _ h
theorem read_results (tmps : Array Value) (W : World) (b : Nat) (g x y z : Int) (e : Value) (h4 : tmps.getD 2 undef = .pointer (some ⟨b, 0, none⟩)) (h5 : tmps.getD 3 undef = e) (h : W.heap[b]? = some (Obj.cells (slA g x y z) 62 (0, 0))) : (results Tryz.f51 tmps).run Tryz.prog W = .ok (.tuple #[.agg (slA g x y z), e]) W := by
  have hl : (loadVar 62 ⟨b, 0, none⟩).run Tryz.prog W = .ok (.agg (slA g x y z)) W := run_loadVar_row W b 62 62 (slA g x y z) (0, 0) _ h Tryz.underlying62 rfl (by kernel_rfl)
  have h4' : tmps[2]?.getD undef = .pointer (some ⟨b, 0, none⟩) := by simpa using h4
  have h5' : tmps[3]?.getD undef = e := by simpa using h5
  simp [results, Tryz.results51, asAddr, h4', h5', hl]
set_option maxHeartbeats 4000000 in
set_option maxRecDepth 100000 in
theorem read_sum (p : Pg) (w : World) (hne : Hid (numV (sub p 60 4) ≠ sum (sub p 0 60))) :
    Calls Tryz.prog 51 #[pv p] w fun ev w' => (∃ T u, ev = .returned (.tuple #[.agg (slA 0 0 0 0), .iface T u]) ∧ IsErr w' (.iface T u) 12) ∧ Below w.heap.size w w' := by
  have hpv := pv_eq p
  go_enter Tryz.func51, Tryz.ntmps51
  go_wp2_with fail
  obtain ⟨HPg, HRs, HB1⟩ := alloc2 w (Obj.cells (pa p) 100 (0, 0)) (Obj.cells (slA 0 0 0 0) 62 (0, 0))
  obtain ⟨B, hB⟩ : ∃ B, w.heap.size = B := ⟨_, rfl⟩
  rw [hB] at HPg HRs HB1
  simp only [hB]
  generalize ((w.alloc (Obj.cells (pa p) 100 (0, 0))).alloc (Obj.cells (slA 0 0 0 0) 62 (0, 0))) = w1 at *
  have HBd := Lib.hid (show Below w1.heap.size w1 w1.drew from (Below.refl _ _).drew)
  have HPd := blk_to HPg HBd.out
  have hs4 : (sub p 60 4).size = 4 := sub_size _ _ _ (by decide)
  have hs60 : (sub p 0 60).size = 60 := sub_size _ _ _ (by decide)
  have hcv1 := fun (W : World) (h : W.heap[B]? = some (Obj.cells (pa p) 100 (0, 0))) => conv_sub W B p 60 4 4 h (by decide)
  have hcv2 := fun (W : World) (h : W.heap[B]? = some (Obj.cells (pa p) 100 (0, 0))) => conv_sub W B p 0 60 64 h (by decide)
  obtain ⟨N1, hN1⟩ : ∃ N1, numV (sub p 60 4) = N1 := ⟨_, rfl⟩
  obtain ⟨N2, hN2⟩ : ∃ N2, sum (sub p 0 60) = N2 := ⟨_, rfl⟩
  have HN1 := Lib.hid hN1
  have HN2 := Lib.hid hN2
  have c1 : (N1 == N2) = false := beq_eq_false_iff_ne.2 (by rw [← hN1, ← hN2]; exact hne.out)
  have c2 : (N1 != N2) = true := by rw [bne, c1]; rfl
  clear hN1 hN2
  go_region_held3 (fun w' => w'.heap[B]? = some (Obj.cells (pa p) 100 (0, 0)))
    (first | with_reducible exact HPd.out | with_reducible exact HP5.out | with_reducible exact HP6.out | with_reducible assumption)
    (first
      | (go_at_call 75
         refine (number_c (sub p 60 4) N1 _ hs4 HN1).mono ?_
         rintro e w5 ⟨rfl, hd5⟩
         have HB5 := Lib.hid (HBd.out.trans (hd5.mono HBd.out.size))
         have HP5 := blk_to HPg HB5.out
         clear hd5)
      | (go_at_call 61
         refine (sum_c (sub p 0 60) _ (by omega)).mono ?_
         rintro e w6 ⟨rfl, hd6⟩
         have HB6 := Lib.hid (HB5.out.trans (hd6.mono HB5.out.size))
         have HP6 := blk_to HPg HB6.out
         rw [HN2.out]
         clear hd6)
      | fail)
  have HX6 := Lib.hid (HB1.out.trans (HB6.out.mono (by have := HB1.out.size; omega)))
  have HR6 := blk_to HRs HB6.out
  clear HB5 HB6 HP5 HP6 HBd HPd hcv1 hcv2 HRs HB1 c1 c2 hpv
  go_wp2_with fail
  refine (at_err _ _ 12 _).mono ?_
  rintro e w7 ⟨T, u, rfl, he, hd⟩
  have HE := Lib.hid he
  have HR7 := blk_to HR6 hd
  have HX7 := below_to HX6 (by have := HX6.out.size; omega) hd
  clear he hd HR6 HX6
  go_wp2_with (first | (refine wl_storeS (B + 1) 0 0 0 0 0 0 0 0 HR7.out rfl _ _ rfl rfl rfl ?_))
  (try simp only [Exit.inBlock, Exit.then])
  refine bodyPost_ret (v := .tuple #[.agg (slA 0 0 0 0), .iface T u]) ?_ rfl ?_
  · exact read_results _ _ (B + 1) 0 0 0 0 (.iface T u) rfl rfl (srow_at _ _ 0 0 0 0 _ _ _ _ HR7.out)
  have hB7 : B + 1 < w7.heap.size := Err.lt_of_block HR7.out
  have hm := mod_row w7 (B + 1) (slA 0 0 0 0)
  rw [hB]
  exact ⟨⟨T, u, rfl, Dk.isErr_mod HE.out hm (fun b cs hb (hf : b = B + 1) => by rw [hf, HR7.out] at hb; simp at hb)⟩, HX7.out.trans (hm.below (by have := HX7.out.size; omega) (fun i hi (e : i = B + 1) => by omega))⟩
end Go.Proofs.YtaodgnladjafoaaGreatDoor.Slt
