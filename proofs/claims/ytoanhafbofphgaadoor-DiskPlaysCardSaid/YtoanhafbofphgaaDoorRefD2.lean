/- The document's Write of a disk. -/
import Derived.Test.YtoanhafbofphgaaDoorRefD1
set_option linter.unusedVariables false
set_option linter.unusedSimpArgs false
namespace Go.Proofs.YtoanhafbofphgaaDoor.Rfd
open Go.RowKit Go.Proofs.YtoanhafbofphgaaDoorW.PrintWords Go.Proofs.YtoanhafbofphgaaDoorW.PrintLast Go.Proofs.YtoanhafbofphgaaDoorW.PrintMore Go.Proofs.YtoanhafbofphgaaDoor.Md Go.Proofs.YtoanhafbofphgaaDoor.Dk
open Go.Extern.Stop (cell)
open Go.Proofs.YtoanhafbofphgaaDoor.Err (Laid IsErr code_nil Chain at_some at_nil)
set_option maxRecDepth 100000 in
theorem litP64 (b0 b1 b2 b3 b4 b5 b6 b7 b8 b9 b10 b11 b12 b13 b14 b15 b16 b17 b18 b19 b20 b21 b22 b23 b24 b25 b26 b27 b28 b29 b30 b31 b32 b33 b34 b35 b36 b37 b38 b39 b40 b41 b42 b43 b44 b45 b46 b47 b48 b49 b50 b51 b52 b53 b54 b55 b56 b57 b58 b59 b60 b61 b62 b63 : UInt8) (W : World) : (Instr.buildSlice 46 1 #[(0, .agg #[cell b0, cell b1, cell b2, cell b3, cell b4, cell b5, cell b6, cell b7, cell b8, cell b9, cell b10, cell b11, cell b12, cell b13, cell b14, cell b15, cell b16, cell b17, cell b18, cell b19, cell b20, cell b21, cell b22, cell b23, cell b24, cell b25, cell b26, cell b27, cell b28, cell b29, cell b30, cell b31, cell b32, cell b33, cell b34, cell b35, cell b36, cell b37, cell b38, cell b39, cell b40, cell b41, cell b42, cell b43, cell b44, cell b45, cell b46, cell b47, cell b48, cell b49, cell b50, cell b51, cell b52, cell b53, cell b54, cell b55, cell b56, cell b57, cell b58, cell b59, cell b60, cell b61, cell b62, cell b63])]).run Tryd.prog W = .ok (.slice (some ⟨W.heap.size, 0, none⟩) 1 1) (W.alloc (.cells #[cell b0, cell b1, cell b2, cell b3, cell b4, cell b5, cell b6, cell b7, cell b8, cell b9, cell b10, cell b11, cell b12, cell b13, cell b14, cell b15, cell b16, cell b17, cell b18, cell b19, cell b20, cell b21, cell b22, cell b23, cell b24, cell b25, cell b26, cell b27, cell b28, cell b29, cell b30, cell b31, cell b32, cell b33, cell b34, cell b35, cell b36, cell b37, cell b38, cell b39, cell b40, cell b41, cell b42, cell b43, cell b44, cell b45, cell b46, cell b47, cell b48, cell b49, cell b50, cell b51, cell b52, cell b53, cell b54, cell b55, cell b56, cell b57, cell b58, cell b59, cell b60, cell b61, cell b62, cell b63] 29 (0, 0))) := by kernel_rfl
theorem litP (p : Pg) (W : World) : (Instr.buildSlice 46 1 #[(0, pv p)]).run Tryd.prog W = .ok (.slice (some ⟨W.heap.size, 0, none⟩) 1 1) (W.alloc (.cells (pa p) 29 (0, 0))) := by
  obtain ⟨l, hl⟩ := p
  match l, hl with
  | b0 :: b1 :: b2 :: b3 :: b4 :: b5 :: b6 :: b7 :: b8 :: b9 :: b10 :: b11 :: b12 :: b13 :: b14 :: b15 :: b16 :: b17 :: b18 :: b19 :: b20 :: b21 :: b22 :: b23 :: b24 :: b25 :: b26 :: b27 :: b28 :: b29 :: b30 :: b31 :: b32 :: b33 :: b34 :: b35 :: b36 :: b37 :: b38 :: b39 :: b40 :: b41 :: b42 :: b43 :: b44 :: b45 :: b46 :: b47 :: b48 :: b49 :: b50 :: b51 :: b52 :: b53 :: b54 :: b55 :: b56 :: b57 :: b58 :: b59 :: b60 :: b61 :: b62 :: b63 :: [], _ => exact litP64 b0 b1 b2 b3 b4 b5 b6 b7 b8 b9 b10 b11 b12 b13 b14 b15 b16 b17 b18 b19 b20 b21 b22 b23 b24 b25 b26 b27 b28 b29 b30 b31 b32 b33 b34 b35 b36 b37 b38 b39 b40 b41 b42 b43 b44 b45 b46 b47 b48 b49 b50 b51 b52 b53 b54 b55 b56 b57 b58 b59 b60 b61 b62 b63 W
theorem exec_litP {a : Operand → Value} {o : Oper} {x : Operand} {p : Pg} (ho : o.op = .buildSlice 46 1 #[(0, x)]) (hx : a x = pv p) (W : World) : (execOp a o).run Tryd.prog W = .ok (.value (.slice (some ⟨W.heap.size, 0, none⟩) 1 1)) (W.alloc (.cells (pa p) 29 (0, 0))) := by
  have h2 := litP p W
  unfold execOp
  simp only [ho]
  have e : (#[((0 : Nat), x)] : Array (Nat × Operand)).map (fun (y : Nat × Operand) => (y.1, a y.2)) = #[(0, pv p)] := by simp [hx]
  show (Sem.run _ (do let v ← Instr.buildSlice _ 1 (Array.map _ _); _) _) = _
  rw [e, Sem.run_bind, h2]
  rfl
theorem lit0 (W : World) : (Instr.buildSlice 46 0 #[]).run Tryd.prog W = .ok (.slice (some ⟨W.heap.size, 0, none⟩) 0 0) (W.alloc (.cells #[] 29 (0, 0))) := by kernel_rfl
theorem exec_lit0 {a : Operand → Value} {o : Oper} (ho : o.op = .buildSlice 46 0 #[]) (W : World) : (execOp a o).run Tryd.prog W = .ok (.value (.slice (some ⟨W.heap.size, 0, none⟩) 0 0)) (W.alloc (.cells #[] 29 (0, 0))) := by
  have h2 := lit0 W
  unfold execOp
  simp only [ho]
  show (Sem.run _ (do let v ← Instr.buildSlice _ 0 (Array.map _ _); _) _) = _
  rw [show (#[] : Array (Nat × Operand)).map (fun (y : Nat × Operand) => (y.1, a y.2)) = #[] by simp, Sem.run_bind, h2]
  rfl
theorem readsBk (w : World) (g : Nat) (p : Pg) (h : w.heap[g]? = some (.cells (pa p) 29 (0, 0))) : ReadsRow (fun (x : Pg) cs => cs = pcs x) pk.sz w (some ⟨g, 0, none⟩) 1 [p] := by
  refine ⟨rfl, by decide, fun _ => ⟨_, rfl, fun j y hj => ?_⟩⟩
  have h0 : j = 0 ∧ y = p := by
    rcases j with _ | j
    · simp at hj; exact ⟨rfl, hj.symm⟩
    · simp at hj
  obtain ⟨rfl, rfl⟩ := h0
  refine ⟨pcs y, pcs_length y, rfl, fun i u hu => ?_⟩
  show w.cell? _ = some u
  rw [Addr.add_mid, cell_of_row _ _ _ _ _ _ h, ← hu, ← pa_list, Array.getElem?_toList]
  simp
/-- a row of none, made anew -/
theorem r_empty (d : Kd Pg) (e : Nat) (W : World) (base : Nat) (hb : base ≤ W.heap.size) : d.R e (W.alloc (.cells #[] e (0, 0))) base (fun _ => True) (.slice (some ⟨W.heap.size, 0, none⟩) 0 0) [] :=
  ⟨fun _ _ => trivial, [], by
    have h2 := World.ownsRow_lit (base := base) (e := e) (size := d.sz) W #[] 0 hb (by simp [maxLen]) (by simp)
    simpa using h2, Reps.none _ _⟩
theorem rwrite_results (tmps : Array Value) (W : World) (b : Nat) (r : RV) (c : Value) (h4 : tmps.getD 6 undef = .pointer (some ⟨b, 0, none⟩)) (h5 : tmps.getD 7 undef = c) (h : W.heap[b]? = some (Obj.cells r.a 49 (0, 0))) : (results Tryd.f20 tmps).run Tryd.prog W = .ok (.tuple #[.agg r.a, c]) W := by
  have hl : (loadVar 49 ⟨b, 0, none⟩).run Tryd.prog W = .ok (.agg r.a) W := run_loadVar_row W b 49 49 r.a (0, 0) _ h Tryd.underlying49 rfl (by kernel_rfl)
  have h4' : tmps[6]?.getD undef = .pointer (some ⟨b, 0, none⟩) := by simpa using h4
  have h5' : tmps[7]?.getD undef = c := by simpa using h5
  simp [results, Tryd.results20, asAddr, h4', h5', hl]
theorem rowD (W : World) (b : Nat) (q p : RV) (h : W.heap[b]? = some (Obj.cells q.a 49 (0, 0))) : (W.setRow b p.a).heap[b]? = some (Obj.cells p.a 49 (0, 0)) := by
  rw [setRow_heap _ _ _ _ _ _ h]
theorem rv_cells {w : World} {b : Nat} {r : RV} (h : Hid (w.heap[b]? = some (Obj.cells r.a 49 (0, 0)))) : w.cell? ⟨b, 0, none⟩ = some (.int .i64 r.size) ∧ w.cell? ⟨b, 1, none⟩ = some r.x.v ∧ w.cell? ⟨b, 2, none⟩ = some r.y.v ∧ w.cell? ⟨b, 3, none⟩ = some r.z.v ∧ w.cell? ⟨b, 4, none⟩ = some (.bool r.down) ∧ w.cell? ⟨b, 5, none⟩ = some (.int .i64 r.budget) :=
  ⟨Err.cell_of_blk h.out 0, Err.cell_of_blk h.out 1, Err.cell_of_blk h.out 2, Err.cell_of_blk h.out 3, Err.cell_of_blk h.out 4, Err.cell_of_blk h.out 5⟩
theorem rv_fz {w : World} {b : Nat} {r : RV} (h : Hid (w.heap[b]? = some (Obj.cells r.a 49 (0, 0)))) (j : Nat) : w.frozen? ⟨b, j, none⟩ = false := by simp [World.frozen?, h.out]
theorem rv_set {w : World} {b : Nat} {r r2 : RV} (h : Hid (w.heap[b]? = some (Obj.cells r.a 49 (0, 0)))) (j : Nat) (u : Value) (e : r.a.setIfInBounds j u = r2.a) : (w.setCell ⟨b, j, none⟩ u).heap[b]? = some (Obj.cells r2.a 49 (0, 0)) := by
  rw [← e]
  show (w.heap.modify b _)[b]? = _
  rw [Array.getElem?_modify]
  simp [h.out]
/-- what Write answers -/
def wcode (d : RD) (i : Int) : Int := if d.down = true then 11 else if i < 0 ∨ d.size ≤ i then 1 else if d.budget = 0 then 10 else 0
set_option maxHeartbeats 4000000 in
set_option maxRecDepth 100000 in
theorem rwrite_down (r : RV) (i : Int) (p : Pg) (w : World) (hdn : r.down = true) : Calls Tryd.prog 20 #[.agg r.a, .int .i64 i, pv p] w fun e w' => e = .returned (.tuple #[.agg r.a, .int .i64 11]) ∧ Below w.heap.size w w' := by
  go_enter Tryd.func20, Tryd.ntmps20
  have hpv := pv_eq p
  obtain ⟨g1, g2, g3⟩ := alloc3 w (Obj.cells r.a 49 (0, 0)) (Obj.cells (pa p) 29 (0, 0)) (Obj.cells RV.zero.a 49 (0, 0))
  have hb3 := below3 w (Obj.cells r.a 49 (0, 0)) (Obj.cells (pa p) 29 (0, 0)) (Obj.cells RV.zero.a 49 (0, 0))
  have HD0 := Lib.hid g1
  have c0 := (rv_cells HD0).1
  have c4 := (rv_cells HD0).2.2.2.2.1
  have c5 := (rv_cells HD0).2.2.2.2.2
  rw [hdn] at c4
  go_wp2_with (first
    | (refine wl_allocD rfl rfl ?_)
    | (refine wl_loadD w.heap.size r g1 rfl _ rfl rfl ?_)
    | (refine wl_storeD (w.heap.size + 1 + 1) RV.zero.a rfl r g3 rfl _ _ rfl rfl rfl ?_))
  (try simp only [Exit.inBlock, Exit.then])
  refine bodyPost_ret (v := .tuple #[.agg r.a, .int .i64 11]) ?_ rfl ?_
  · exact rwrite_results _ _ (w.heap.size + 1 + 1) r _ (by first | rfl | (simp; done)) rfl (rowD _ _ RV.zero _ g3)
  exact ⟨rfl, hb3.trans ((mod_row _ _ r.a).below hb3.size (fun i hi (e : i = _) => by omega))⟩
set_option maxHeartbeats 4000000 in
set_option maxRecDepth 100000 in
theorem rwrite_low (r : RV) (i : Int) (p : Pg) (w : World) (hdn : r.down = false) (hi : i < 0) : Calls Tryd.prog 20 #[.agg r.a, .int .i64 i, pv p] w fun e w' => e = .returned (.tuple #[.agg r.a, .int .i64 1]) ∧ Below w.heap.size w w' := by
  have d1 : decide (i < 0) = true := decide_eq_true hi
  go_enter Tryd.func20, Tryd.ntmps20
  have hpv := pv_eq p
  obtain ⟨g1, g2, g3⟩ := alloc3 w (Obj.cells r.a 49 (0, 0)) (Obj.cells (pa p) 29 (0, 0)) (Obj.cells RV.zero.a 49 (0, 0))
  have hb3 := below3 w (Obj.cells r.a 49 (0, 0)) (Obj.cells (pa p) 29 (0, 0)) (Obj.cells RV.zero.a 49 (0, 0))
  have HD0 := Lib.hid g1
  have c0 := (rv_cells HD0).1
  have c4 := (rv_cells HD0).2.2.2.2.1
  have c5 := (rv_cells HD0).2.2.2.2.2
  rw [hdn] at c4
  go_wp2_with (first
    | (refine wl_allocD rfl rfl ?_)
    | (refine wl_loadD w.heap.size r g1 rfl _ rfl rfl ?_)
    | (refine wl_storeD (w.heap.size + 1 + 1) RV.zero.a rfl r g3 rfl _ _ rfl rfl rfl ?_))
  (try simp only [Exit.inBlock, Exit.then])
  refine bodyPost_ret (v := .tuple #[.agg r.a, .int .i64 1]) ?_ rfl ?_
  · exact rwrite_results _ _ (w.heap.size + 1 + 1) r _ (by first | rfl | (simp; done)) rfl (rowD _ _ RV.zero _ g3)
  exact ⟨rfl, hb3.trans ((mod_row _ _ r.a).below hb3.size (fun i hi (e : i = _) => by omega))⟩
set_option maxHeartbeats 4000000 in
set_option maxRecDepth 100000 in
theorem rwrite_high (r : RV) (i : Int) (p : Pg) (w : World) (hdn : r.down = false) (h0 : 0 ≤ i) (hi : r.size ≤ i) : Calls Tryd.prog 20 #[.agg r.a, .int .i64 i, pv p] w fun e w' => e = .returned (.tuple #[.agg r.a, .int .i64 1]) ∧ Below w.heap.size w w' := by
  have d1 : decide (i < 0) = false := decide_eq_false (by omega)
  have d2 : decide (i ≥ r.size) = true := decide_eq_true hi
  have d2b : decide (r.size ≤ i) = true := decide_eq_true hi
  go_enter Tryd.func20, Tryd.ntmps20
  have hpv := pv_eq p
  obtain ⟨g1, g2, g3⟩ := alloc3 w (Obj.cells r.a 49 (0, 0)) (Obj.cells (pa p) 29 (0, 0)) (Obj.cells RV.zero.a 49 (0, 0))
  have hb3 := below3 w (Obj.cells r.a 49 (0, 0)) (Obj.cells (pa p) 29 (0, 0)) (Obj.cells RV.zero.a 49 (0, 0))
  have HD0 := Lib.hid g1
  have c0 := (rv_cells HD0).1
  have c4 := (rv_cells HD0).2.2.2.2.1
  have c5 := (rv_cells HD0).2.2.2.2.2
  rw [hdn] at c4
  go_wp2_with (first
    | (refine wl_allocD rfl rfl ?_)
    | (refine wl_loadD w.heap.size r g1 rfl _ rfl rfl ?_)
    | (refine wl_storeD (w.heap.size + 1 + 1) RV.zero.a rfl r g3 rfl _ _ rfl rfl rfl ?_))
  (try simp only [Exit.inBlock, Exit.then])
  refine bodyPost_ret (v := .tuple #[.agg r.a, .int .i64 1]) ?_ rfl ?_
  · exact rwrite_results _ _ (w.heap.size + 1 + 1) r _ (by first | rfl | (simp; done)) rfl (rowD _ _ RV.zero _ g3)
  exact ⟨rfl, hb3.trans ((mod_row _ _ r.a).below hb3.size (fun i hi (e : i = _) => by omega))⟩
set_option maxHeartbeats 4000000 in
set_option maxRecDepth 100000 in
theorem rwrite_spent (r : RV) (i : Int) (p : Pg) (w : World) (hdn : r.down = false) (h0 : 0 ≤ i) (hi : i < r.size) (hb : r.budget = 0) : Calls Tryd.prog 20 #[.agg r.a, .int .i64 i, pv p] w fun e w' => e = .returned (.tuple #[.agg r.a, .int .i64 10]) ∧ Below w.heap.size w w' := by
  have d1 : decide (i < 0) = false := decide_eq_false (by omega)
  have d2 : decide (i ≥ r.size) = false := decide_eq_false (by omega)
  have d2b : decide (r.size ≤ i) = false := decide_eq_false (by omega)
  have d3 : (r.budget == 0) = true := beq_iff_eq.2 hb
  have d3b : decide (r.budget = 0) = true := decide_eq_true hb
  go_enter Tryd.func20, Tryd.ntmps20
  have hpv := pv_eq p
  obtain ⟨g1, g2, g3⟩ := alloc3 w (Obj.cells r.a 49 (0, 0)) (Obj.cells (pa p) 29 (0, 0)) (Obj.cells RV.zero.a 49 (0, 0))
  have hb3 := below3 w (Obj.cells r.a 49 (0, 0)) (Obj.cells (pa p) 29 (0, 0)) (Obj.cells RV.zero.a 49 (0, 0))
  have HD0 := Lib.hid g1
  have c0 := (rv_cells HD0).1
  have c4 := (rv_cells HD0).2.2.2.2.1
  have c5 := (rv_cells HD0).2.2.2.2.2
  rw [hdn] at c4
  go_wp2_with (first
    | (refine wl_allocD rfl rfl ?_)
    | (refine wl_loadD w.heap.size r g1 rfl _ rfl rfl ?_)
    | (refine wl_storeD (w.heap.size + 1 + 1) RV.zero.a rfl r g3 rfl _ _ rfl rfl rfl ?_))
  (try simp only [Exit.inBlock, Exit.then])
  refine bodyPost_ret (v := .tuple #[.agg r.a, .int .i64 10]) ?_ rfl ?_
  · exact rwrite_results _ _ (w.heap.size + 1 + 1) r _ (by first | rfl | (simp; done)) rfl (rowD _ _ RV.zero _ g3)
  exact ⟨rfl, hb3.trans ((mod_row _ _ r.a).below hb3.size (fun i hi (e : i = _) => by omega))⟩
end Go.Proofs.YtoanhafbofphgaaDoor.Rfd
