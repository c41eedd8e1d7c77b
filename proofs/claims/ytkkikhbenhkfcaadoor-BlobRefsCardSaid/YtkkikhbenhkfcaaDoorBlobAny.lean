/- code.Num at any number, blob.Lay at any place; a reader that is none; places held against each other; a place that came in. -/
import Derived.Test.YtkkikhbenhkfcaaDoorBlobRead
import Derived.Test.YtkkikhbenhkfcaaDoorOpen
import Derived.OpenShut
import Derived.Lib.SmallJoins
set_option linter.unusedVariables false
set_option linter.unusedSimpArgs false
namespace Go.Proofs.YtkkikhbenhkfcaaDoor.Blb
open Go.Proofs.YtkkikhbenhkfcaaDoor.AdM (sum)
open Go.RowKit Go.Proofs.YtkkikhbenhkfcaaDoor.QBlobBack Go.Proofs.YtkkikhbenhkfcaaDoorW.PrintWords Go.Proofs.YtkkikhbenhkfcaaDoorW.PrintLast Go.Proofs.YtkkikhbenhkfcaaDoorW.PrintMore Go.Proofs.YtkkikhbenhkfcaaDoor.CdM Go.Proofs.YtkkikhbenhkfcaaDoor.Md Go.Proofs.YtkkikhbenhkfcaaDoor.Dk
open Go.Extern.Stop (cell)
open Go.Proofs.YtkkikhbenhkfcaaDoor.Err (Laid IsErr code_nil Chain at_some at_nil)
/-- a number's bytes, or none -/
def numX (x : Int) : ByteArray := if 0 ≤ x ∧ x ≤ 4611686018427387904 then numS x.toNat else ⟨#[]⟩
theorem numX_le (x : Int) : (numX x).size ≤ 9 := by
  unfold numX
  split
  · exact numS_nine (by omega)
  · exact Nat.zero_le _
theorem cnum_any (x : Int) (w : World) : Calls Tryd.prog 28 #[.int .i64 x] w fun e w' => e = .returned (.string (numX x)) ∧ Below w.heap.size w w' := by
  by_cases h : 0 ≤ x ∧ x ≤ 4611686018427387904
  · have e : numX x = numS x.toNat := by unfold numX; rw [if_pos h]
    rw [e]
    exact num_v x h.1 h.2 w
  · have e : numX x = ⟨#[]⟩ := by unfold numX; rw [if_neg h]
    rw [e]
    refine code_Num.calls 11 x _ w ?_
    unfold code_Num.f
    by_cases h0 : x < 0
    · simp [h0, code_Num.j0]
    · have h1 : x > 4611686018427387904 := by omega
      simp [h1, code_Num.j0]
set_option maxHeartbeats 2000000 in
set_option maxRecDepth 100000 in
theorem lay_any (x y z : Int) (w : World) (hz0 : 0 ≤ z) (hz1 : z ≤ 4294967295) :
    Calls Tryd.prog 20 #[.agg (refA x y z)] w fun e w' => e = .returned (.string (numX x ++ numX y ++ numX z)) ∧ Below w.heap.size w w' := by
  have l1 := numX_le x
  have l2 := numX_le y
  have l3 := numX_le z
  have hu29 := Tryd.underlying30
  have k1 : (9223372036854775807 < (numX x).size + (numX y).size) = False := eq_false (by omega)
  have k2 : (9223372036854775807 < (numX x).size + (numX y).size + (numX z).size) = False := eq_false (by omega)
  have k3 : IntKind.i64.wrap z = z := IntWalk.i64_in _ (by omega)
  have HN := Held3.new w (.int .i64 x) (.int .i64 y) (.int .u32 z) 30
  have HN' := Lib.hid HN
  clear HN
  go_enter Tryd.func20, Tryd.ntmps20
  go_wp2_with fail
  go_region_held3 (fun w' => (w'.cell? ⟨w.heap.size, 0, none⟩ = some (.int .i64 x) ∧ w'.cell? ⟨w.heap.size, 1, none⟩ = some (.int .i64 y) ∧ w'.cell? ⟨w.heap.size, 2, none⟩ = some (.int .u32 z)) ∧ w.heap.size < w'.heap.size ∧ Below w.heap.size w w')
    (first | exact HN'.out | assumption | exact Held3.on (by assumption) hb)
    (first | (go_at_call 28; refine (cnum_any _ _).mono ?_; rintro e w' ⟨rfl, hb⟩))
  rename_i hS
  have HS := Lib.hid hS
  clear hS
  go_wp2_with fail
  go_ret
  exact ⟨rfl, HS.out.2.2⟩
/- a reader that is none -/
set_option maxHeartbeats 2000000 in
set_option maxRecDepth 100000 in
theorem safe_nil (F : Nat) (caps : Array Value) (w : World) : Calls Tryd.prog 34 #[.pointer none, .func (.func F) #[] caps] w fun ev w' => ev = .returned (errV 1) ∧ Below w.heap.size w w' := by
  have hmf : ∀ (fn : Fn) (first cap : Array Value) (w : World), (Instr.makeFunc fn first cap).run Tryd.prog w = .ok (.func fn first cap) w := fun _ _ _ _ => rfl
  go_enter_defers Tryd.func34, Tryd.ntmps34
  go_wp2_with fail
  simp [bodyPostD, Leaves, settle, results, Tryd.results34, go_sem]
  have hW : ∀ o1 o2 : Obj, Below w.heap.size w ((w.alloc o1).alloc o2) := fun o1 o2 => ((Below.refl w.heap.size w).alloc (Nat.le_refl _) o1).alloc (by simp) o2
  exact ⟨rfl, hW _ _⟩
def W3n (w : World) (most : Int) : World := ((w.alloc (.cells #[.pointer none] 54)).alloc (.cells #[.int .i64 most] 3)).alloc (.cells #[.int .i64 0] 3)
set_option maxHeartbeats 2000000 in
set_option maxRecDepth 100000 in
theorem num_nil (most : Int) (w : World) : Calls Tryd.prog 29 #[.pointer none, .int .i64 most] w fun ev w' => ev = .returned (.tuple #[.int .i64 0, errV 1]) ∧ Below w.heap.size w w' := by
  have hmf : ∀ (fn : Fn) (first cap : Array Value) (w : World), (Instr.makeFunc fn first cap).run Tryd.prog w = .ok (.func fn first cap) w := fun _ _ _ _ => rfl
  go_enter Tryd.func29, Tryd.ntmps29
  go_wp2_with fail
  obtain ⟨w1, hw1⟩ : ∃ w1, W3n w most = w1 := ⟨_, rfl⟩
  have hb : Below w.heap.size w (W3n w most) := by
    have h3 : ∀ o1 o2 o3 : Obj, Below w.heap.size w (((w.alloc o1).alloc o2).alloc o3) := fun o1 o2 o3 => (((Below.refl _ _).alloc (Nat.le_refl _) _).alloc (by simp) _).alloc (by simp; omega) _
    exact h3 _ _ _
  have hc : (W3n w most).cell? ⟨w.heap.size + 1 + 1, 0, none⟩ = some (.int .i64 0) := by
    have h := heap_alloc_last ((w.alloc (.cells #[.pointer none] 54)).alloc (.cells #[.int .i64 most] 3)) (.cells #[.int .i64 0] 3)
    rw [show ((w.alloc (.cells #[.pointer none] 54)).alloc (.cells #[.int .i64 most] 3)).heap.size = w.heap.size + 1 + 1 by simp] at h
    exact Err.cell_of_blk h 0
  have hl : w.heap.size + 1 + 1 < (W3n w most).heap.size := by unfold W3n; simp
  refine (safe_nil _ _ (W3n w most)).mono ?_
  rintro e w' ⟨rfl, hd⟩
  have hc2 := (hd.cell (p := ⟨w.heap.size + 1 + 1, 0, none⟩) hl).trans hc
  have HB := Lib.hid (hb.trans (hd.mono hb.size))
  clear hd hb hc hw1
  go_wp2_with fail
  go_ret2
  exact ⟨rfl, HB.out⟩
set_option maxHeartbeats 4000000 in
set_option maxRecDepth 100000 in
theorem bread_nil (w : World) : Calls Tryd.prog 21 #[.pointer none] w fun ev w' => ev = .returned (.tuple #[.agg (refA 0 0 0), errV 1]) ∧ Below w.heap.size w w' := by
  go_enter Tryd.func21, Tryd.ntmps21
  go_wp2_with fail
  have hb1 : Below w.heap.size w (w.alloc (Obj.cells (refA 0 0 0) 30 (0, 0))) := (Below.refl _ _).alloc (Nat.le_refl _) _
  have HZ1 := Lib.hid (Go.Deep.blk_alloc_new w (Obj.cells (refA 0 0 0) 30 (0, 0)))
  have HB1 := Lib.hid hb1
  obtain ⟨Z, hZ⟩ : ∃ Z, w.heap.size = Z := ⟨_, rfl⟩
  rw [hZ] at HZ1
  generalize (w.alloc (Obj.cells (refA 0 0 0) 30 (0, 0))) = w1 at *
  simp only [hZ]
  clear hb1
  refine (num_nil _ _).mono ?_
  rintro e w2 ⟨rfl, hd⟩
  have HB2 := below_to HB1 (by omega) hd
  have HZ2 := blk_to HZ1 hd
  clear hd HB1 HZ1
  go_wp2_with fail
  refine (num_nil _ _).mono ?_
  rintro e w3 ⟨rfl, hd⟩
  have HB3 := below_to HB2 (by omega) hd
  have HZ3 := blk_to HZ2 hd
  clear hd HB2 HZ2
  go_wp2_with fail
  refine (num_nil _ _).mono ?_
  rintro e w4 ⟨rfl, hd⟩
  have HB4 := below_to HB3 (by omega) hd
  have HZ4 := blk_to HZ3 hd
  clear hd HB3 HZ3
  have hE : Ev (errV 1) := .inr ⟨_, _, rfl⟩
  go_wp2_with (first
    | (refine Kd.event_run rfl (litE rfl rfl rfl rfl hE hE hE _) ?_))
  have hb5 : Below w4.heap.size w4 (w4.alloc (Obj.cells #[errV 1, errV 1, errV 1] 25 (0, 0))) := (Below.refl _ _).alloc (Nat.le_refl _) _
  have HK5 := Lib.hid (Go.Deep.blk_alloc_new w4 (Obj.cells #[errV 1, errV 1, errV 1] 25 (0, 0)))
  have HB5 := below_to HB4 (by omega) hb5
  have HZ5 := blk_to HZ4 hb5
  obtain ⟨K, hK⟩ : ∃ K, w4.heap.size = K := ⟨_, rfl⟩
  rw [hK] at HK5
  simp only [hK]
  generalize (w4.alloc (Obj.cells #[errV 1, errV 1, errV 1] 25 (0, 0))) = w5 at *
  clear hb5 HZ4 HB4
  go_loopg [32] 3 (fun kq v0 wr => kq = 3 ∧ v0 = .int .i64 0 ∧ wr = w5)
  case atStart => exact ⟨rfl, rfl, rfl⟩
  case round =>
    obtain ⟨rfl, rfl, rfl⟩ := hrel
    have hc : wr.cell? ⟨K, 0, none⟩ = some (.iface 58 (.int .i64 1)) := Err.cell_of_blk HK5.out 0
    obtain ⟨k0, k1, k2⟩ := ref_keep HZ5.out (Below.refl wr.heap.size wr)
    have f0 : wr.frozen? ⟨Z, 0, none⟩ = false := by simp [World.frozen?, HZ5.out]
    have f1 : wr.frozen? ⟨Z, 1, none⟩ = false := by simp [World.frozen?, HZ5.out]
    have f2 : wr.frozen? ⟨Z, 2, none⟩ = false := by simp [World.frozen?, HZ5.out]
    go_wp2_with fail
    (try simp only [Exit.inBlock, Exit.then])
    refine bodyPost_ret (v := .tuple #[.agg (refA 0 0 0), errV 1]) ?_ rfl ?_
    · exact bread_results _ _ Z 0 0 0 (errV 1) rfl rfl (set3 HZ5.out _ _ _)
    have hM3 := mod_set3 wr Z (.int .i64 0) (.int .i64 0) (.int .u32 0)
    have hB5 := HB5.out
    exact ⟨rfl, hB5.trans (hM3.below hB5.size (fun i hi (e : i = Z) => by omega))⟩
theorem eqRf (d : Nat) (w : World) (x1 x2 x3 y1 y2 y3 : Int) : (Op.equalIn (d + 2) 30 (.agg (refA x1 x2 x3)) (.agg (refA y1 y2 y3))).run Tryd.prog w = .ok (x1 == y1 && (x2 == y2 && (x3 == y3))) w := by
  refine eqA_of Tryd.underlying30 (by kernel_rfl) ?_
  refine eqf_cons (by rfl) (by go_simp; rfl) (by go_simp; rfl) (by go_simp) ?_
  refine eqf_cons (by rfl) (by go_simp; rfl) (by go_simp; rfl) (by go_simp) ?_
  exact eqf_last (by rfl) (by go_simp; rfl) (by go_simp; rfl) (by go_simp)
theorem eqRf_run (w : World) (x1 x2 x3 y1 y2 y3 : Int) : (binOp .eql 30 (.agg (refA x1 x2 x3)) (.agg (refA y1 y2 y3))).run Tryd.prog w = .ok (.bool (x1 == y1 && (x2 == y2 && (x3 == y3)))) w := by
  rw [run_eql_struct, eqRf 9998]
  rfl
theorem neRf_run (w : World) (x1 x2 x3 y1 y2 y3 : Int) : (binOp .neq 30 (.agg (refA x1 x2 x3)) (.agg (refA y1 y2 y3))).run Tryd.prog w = .ok (.bool (!(x1 == y1 && (x2 == y2 && (x3 == y3))))) w := by
  rw [run_neq_struct, eqRf 9998]
  rfl
theorem eqGRf (op : BinOp) (x y : Operand) (x1 x2 x3 y1 y2 y3 : Int) (w : World) : (eqGuard op 30 x y (.agg (refA x1 x2 x3)) (.agg (refA y1 y2 y3))).run Tryd.prog w = .ok () w := run_eqGuard_agg w op 30 x y _ _ (by kernel_rfl)
theorem exec_eqRf {ρ : Operand → Value} {o : Oper} {x y : Operand} {W : World} {x1 x2 x3 y1 y2 y3 : Int} {b : Bool} (ho : o.op = .binOp .eql 30 x y 30) (hx : ρ x = .agg (refA x1 x2 x3)) (hy : ρ y = .agg (refA y1 y2 y3)) (hb : (x1 == y1 && (x2 == y2 && (x3 == y3))) = b) : (execOp ρ o).run Tryd.prog W = .ok (.value (.bool b)) W := by
  unfold execOp; simp only [ho, hx, hy, eqGRf .eql x y x1 x2 x3 y1 y2 y3 W, eqRf_run W, Sem.run_bind, Sem.run_pure, Result.andThen_ok, hb]
theorem exec_neRf {ρ : Operand → Value} {o : Oper} {x y : Operand} {W : World} {x1 x2 x3 y1 y2 y3 : Int} {b : Bool} (ho : o.op = .binOp .neq 30 x y 30) (hx : ρ x = .agg (refA x1 x2 x3)) (hy : ρ y = .agg (refA y1 y2 y3)) (hb : (!(x1 == y1 && (x2 == y2 && (x3 == y3)))) = b) : (execOp ρ o).run Tryd.prog W = .ok (.value (.bool b)) W := by
  unfold execOp; simp only [ho, hx, hy, eqGRf .neq x y x1 x2 x3 y1 y2 y3 W, neRf_run W, Sem.run_bind, Sem.run_pure, Result.andThen_ok, hb]
theorem wg_neRf {ops : Array Oper} {rest : List Oper} {o : Oper} {a : Go.Act} {w : World} {Q : Exit → Go.Act → World → Prop} (x1 x2 x3 y1 y2 y3 : Int) (b : Bool) (hw : Region.wanted o (yielded ops a.tmps) = true) (x y : Operand) (ho : o.op = .binOp .neq 30 x y 30) (hx : a.eval x = .agg (refA x1 x2 x3)) (hy : a.eval y = .agg (refA y1 y2 y3)) (hb : (!(x1 == y1 && (x2 == y2 && (x3 == y3)))) = b)
    (h : wpList Tryd.prog ops Q rest (a.put o.dst (.bool b)) w) : wpList Tryd.prog ops Q (o :: rest) a w := wg_run hw (exec_neRf ho hx hy hb) h
theorem wg_eqRf {ops : Array Oper} {rest : List Oper} {o : Oper} {a : Go.Act} {w : World} {Q : Exit → Go.Act → World → Prop} (x1 x2 x3 y1 y2 y3 : Int) (b : Bool) (hw : Region.wanted o (yielded ops a.tmps) = true) (x y : Operand) (ho : o.op = .binOp .eql 30 x y 30) (hx : a.eval x = .agg (refA x1 x2 x3)) (hy : a.eval y = .agg (refA y1 y2 y3)) (hb : (x1 == y1 && (x2 == y2 && (x3 == y3))) = b)
    (h : wpList Tryd.prog ops Q rest (a.put o.dst (.bool b)) w) : wpList Tryd.prog ops Q (o :: rest) a w := wg_run hw (exec_eqRf ho hx hy hb) h
/-- a place fits on twenty sectors, as the law has it -/
theorem right20 (x y : Int) : rightV x y 20 = true ↔ (1 ≤ y ∧ y ≤ 1280 ∧ 0 ≤ x ∧ x ≤ 20 - (y + 63) / 64) := by
  unfold rightV pagesV
  simp only [Bool.and_eq_true, decide_eq_true_eq]
  split
  · omega
  · split
    · omega
    · omega
/- a place that came in -/
structure RefWf (x y z : Int) : Prop where
  x : (Lit.int .i64 x).wf = true
  y : (Lit.int .i64 y).wf = true
  z : (Lit.int .u32 z).wf = true
theorem RefWf.bounds {x y z : Int} (h : RefWf x y z) : (-9223372036854775808 ≤ x ∧ x < 9223372036854775808) ∧ (-9223372036854775808 ≤ y ∧ y < 9223372036854775808) ∧ (0 ≤ z ∧ z < 4294967296) := by
  obtain ⟨b, c, d⟩ := h
  simp [Lit.wf, IntKind.min, IntKind.max, IntKind.bits, IntKind.signed] at b c d
  omega
section
open Go.WideShapes
variable {H : Type} {enc : TypeId × Value → H} {w : World} {base : Nat} {spare : Nat → Bool} {held : Bool}
theorem trod3 {t : TypeId} {f0 f1 f2 : Field} {fuel : Nat} {cs : List Value} {x : DataW H × List MemPlace} (ht : Tryd.prog.underlying t = some (.struct #[f0, f1, f2])) (h : DataW.trod enc Tryd.prog w base spare held fuel t cs = some x) :
    ∃ y0 y1 y2 n, cs.length = Tryd.prog.cellsOf t ∧ DataW.trod enc Tryd.prog w base spare held n f0.type ((cs.drop f0.offset).take (Tryd.prog.cellsOf f0.type)) = some y0 ∧
      DataW.trod enc Tryd.prog w base spare held n f1.type ((cs.drop f1.offset).take (Tryd.prog.cellsOf f1.type)) = some y1 ∧ DataW.trod enc Tryd.prog w base spare held n f2.type ((cs.drop f2.offset).take (Tryd.prog.cellsOf f2.type)) = some y2 := by
  obtain ⟨xs, n, _, rfl, hl, hlen, hf⟩ := DataW.trod_struct ht h
  match xs, hlen with
  | [y0, y1, y2], _ => exact ⟨y0, y1, y2, n, hl, by simpa using hf 0 f0 rfl, by simpa using hf 1 f1 rfl, by simpa using hf 2 f2 rfl⟩
theorem trod_ref {fuel : Nat} {cs : List Value} {u : DataW H × List MemPlace} (h : DataW.trod enc Tryd.prog w base spare held fuel 30 cs = some u) : ∃ x y z : Int, cs = [.int .i64 x, .int .i64 y, .int .u32 z] ∧ RefWf x y z := by
  obtain ⟨y1, y2, y3, n, hl, h1, h2, h3⟩ := trod3 Tryd.underlying30 h
  have e3 : Tryd.prog.cellsOf 30 = 3 := by kernel_rfl
  have e2 : Tryd.prog.cellsOf 3 = 1 := by kernel_rfl
  have e1 : Tryd.prog.cellsOf 28 = 1 := by kernel_rfl
  simp only [e2, e1] at h1 h2 h3
  obtain ⟨a1, c1, _, w1⟩ := DataW.trod_int Tryd.underlying3 h1
  obtain ⟨a2, c2, _, w2⟩ := DataW.trod_int Tryd.underlying3 h2
  obtain ⟨a3, c3, _, w3⟩ := DataW.trod_int Tryd.underlying28 h3
  rw [e3] at hl
  refine ⟨a1, a2, a3, ?_, w1, w2, w3⟩
  match cs, hl with
  | [v1, v2, v3], _ =>
    simp at c1 c2 c3
    rw [c1, c2, c3]
set_option maxRecDepth 100000 in
theorem open_ref {r : Reach} {b0 : Nat} {v : Value} {D : DataW H} {p : List MemPlace} (hv : Value.okWide Tryd.prog w r b0 30 v) (h : DataW.Trod enc Tryd.prog w base spare held 30 v D p) : ∃ x y z : Int, v = .agg (refA x y z) ∧ RefWf x y z := by
  obtain ⟨cs, rfl, hsz⟩ := okWide_struct Tryd.underlying30 hv
  obtain ⟨fuel, hf⟩ := h
  obtain ⟨x, y, z, hc, hw⟩ := trod_ref hf
  exact ⟨x, y, z, by congr 1; apply Array.toList_inj.1; simpa [Value.cells] using hc, hw⟩
end
end Go.Proofs.YtkkikhbenhkfcaaDoor.Blb
