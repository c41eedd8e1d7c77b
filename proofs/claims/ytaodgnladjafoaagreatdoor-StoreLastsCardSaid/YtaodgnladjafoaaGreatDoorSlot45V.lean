/- Several texts in one: words that the proof of the law uses. -/
import Derived.Test.YtaodgnladjafoaaGreatDoorSlotAV
import Derived.Test.YtaodgnladjafoaaGreatDoorBlobReadV
set_option linter.unusedVariables false
set_option linter.unusedSimpArgs false
namespace Go.Proofs.YtaodgnladjafoaaGreatDoor.Slt
open Go.Proofs.YtaodgnladjafoaaGreatDoor.AdM (sum bl bl_length A B A_one A_lt B_lt)
open Go.RowKit Go.Proofs.YtaodgnladjafoaaGreatDoor.QStoreLasts Go.Proofs.YtaodgnladjafoaaGreatDoorW.PrintWords Go.Proofs.YtaodgnladjafoaaGreatDoorW.PrintLast Go.Proofs.YtaodgnladjafoaaGreatDoorW.PrintMore Go.Proofs.YtaodgnladjafoaaGreatDoor.CdM Go.Proofs.YtaodgnladjafoaaGreatDoor.Md Go.Proofs.YtaodgnladjafoaaGreatDoor.Dk Go.Proofs.YtaodgnladjafoaaGreatDoor.Blb
open Go.Extern.Stop (cell)
open Go.Proofs.YtaodgnladjafoaaGreatDoor.Err (Laid IsErr code_nil Chain at_some at_nil)
def SlotAt (w : World) (p : Pg) (g x y z : Int) (e : Value) : Prop :=
  (Rt g x y z ∧ layP g x y z = p ∧ e = .nilIface) ∨
  ((numV (sub p 60 4) ≠ sum (sub p 0 60) ∧ ∃ T u, e = .iface T u ∧ IsErr w e 12) ∧ g = 0 ∧ x = 0 ∧ y = 0 ∧ z = 0) ∨
  ((numV (sub p 60 4) = sum (sub p 0 60) ∧ (∀ g x y z, Rt g x y z → layP g x y z ≠ p) ∧ ∃ T u, e = .iface T u ∧ IsErr w e 13) ∧ g = 0 ∧ x = 0 ∧ y = 0 ∧ z = 0)
section
variable {ops : Array Oper} {rest : List Oper} {o : Oper} {a : Go.Act} {w : World} {Q : Exit → Go.Act → World → Prop}
theorem sl_one (g x y z : Int) : (slA g x y z).all (·.oneCell') = true := by simp [Value.oneCell']
theorem sizeS : (Tryz.prog.info? 62).map (·.size) = some 4 := by kernel_rfl
theorem storeS (w : World) (b : Nat) (g0 x0 y0 z0 g x y z : Int) (h : w.heap[b]? = some (Obj.cells (slA g0 x0 y0 z0) 62 (0, 0))) : (Instr.storeAt 62 (.pointer (some ⟨b, 0, none⟩)) (.agg (slA g x y z))).run Tryz.prog w = .ok () (w.setRow b (slA g x y z)) := by
  simp only [Instr.storeAt, Instr.sureAddr, Sem.run_bind, Sem.run_pure, Result.andThen_ok]
  exact run_storeVar_row w b 62 62 (slA g0 x0 y0 z0) (slA g x y z) h sizeS rfl (sl_one g x y z)
theorem wl_storeS (b : Nat) (g0 x0 y0 z0 g x y z : Int) (hp : w.heap[b]? = some (Obj.cells (slA g0 x0 y0 z0) 62 (0, 0))) (hgd : o.guard = none) (p q : Operand) (ho : o.op = .store 62 p q) (hx : a.eval p = .pointer (some ⟨b, 0, none⟩)) (hy : a.eval q = .agg (slA g x y z))
    (h : wpList Tryz.prog ops Q rest (a.put o.dst undef) (w.setRow b (slA g x y z))) : wpList Tryz.prog ops Q (o :: rest) a w :=
  wpList_plain hgd fun K hK => by
    unfold Oper.wp execOp
    simp only [ho, hx, hy, storeS w b g0 x0 y0 z0 g x y z hp, Sem.run_bind, Sem.run_pure, Result.andThen_ok]
    exact hK _ _ h
theorem wl_storeSn {W : World} (g0 x0 y0 z0 g x y z : Int) (hgd : o.guard = none) (p q : Operand) (ho : o.op = .store 62 p q) (hx : a.eval p = .pointer (some ⟨W.heap.size, 0, none⟩)) (hy : a.eval q = .agg (slA g x y z))
    (h : wpList Tryz.prog ops Q rest (a.put o.dst undef) (W.alloc (Obj.cells (slA g x y z) 62 (0, 0)))) : wpList Tryz.prog ops Q (o :: rest) a (W.alloc (Obj.cells (slA g0 x0 y0 z0) 62 (0, 0))) := by
  refine wl_storeS W.heap.size g0 x0 y0 z0 g x y z (heap_alloc_last _ _) hgd p q ho hx hy ?_
  rw [World.setRow_alloc_new]
  exact h
theorem wl_allocS (hgd : o.guard = none) (ho : o.op = .alloc 62) (h : wpList Tryz.prog ops Q rest (a.put o.dst (.pointer (some ⟨w.heap.size, 0, none⟩))) (w.alloc (Obj.cells (slA 0 0 0 0) 62 (0, 0)))) : wpList Tryz.prog ops Q (o :: rest) a w :=
  Kd.event_run hgd (by unfold execOp; simp only [ho]; kernel_rfl) h
theorem run_loadS (w : World) (b : Nat) (g x y z : Int) (h : w.heap[b]? = some (Obj.cells (slA g x y z) 62 (0, 0))) : (Instr.loadAt 62 (.pointer (some ⟨b, 0, none⟩))).run Tryz.prog w = .ok (.agg (slA g x y z)) w := by
  simp only [Instr.loadAt, Instr.sureAddr, Sem.run_bind, Sem.run_pure, Result.andThen_ok]
  exact run_loadVar_row w b 62 62 (slA g x y z) (0, 0) _ h Tryz.underlying62 rfl (by kernel_rfl)
theorem wl_loadS (b : Nat) (g x y z : Int) (hp : w.heap[b]? = some (Obj.cells (slA g x y z) 62 (0, 0))) (hgd : o.guard = none) (p : Operand) (ho : o.op = .load 62 p) (hx : a.eval p = .pointer (some ⟨b, 0, none⟩))
    (h : wpList Tryz.prog ops Q rest (a.put o.dst (.agg (slA g x y z))) w) : wpList Tryz.prog ops Q (o :: rest) a w :=
  Kd.event_run hgd (by unfold execOp; simp only [ho, hx, run_loadS w b g x y z hp, Sem.run_bind, Sem.run_pure, Result.andThen_ok]) h
end
theorem srow_at (W : World) (b : Nat) (g0 x0 y0 z0 g x y z : Int) (h : W.heap[b]? = some (Obj.cells (slA g0 x0 y0 z0) 62 (0, 0))) : (W.setRow b (slA g x y z)).heap[b]? = some (Obj.cells (slA g x y z) 62 (0, 0)) :=
  setRow_heap W b _ _ _ _ h
theorem read_results (tmps : Array Value) (W : World) (b : Nat) (g x y z : Int) (e : Value) (h4 : tmps.getD 2 undef = .pointer (some ⟨b, 0, none⟩)) (h5 : tmps.getD 3 undef = e) (h : W.heap[b]? = some (Obj.cells (slA g x y z) 62 (0, 0))) : (results Tryz.f51 tmps).run Tryz.prog W = .ok (.tuple #[.agg (slA g x y z), e]) W := by
  have hl : (loadVar 62 ⟨b, 0, none⟩).run Tryz.prog W = .ok (.agg (slA g x y z)) W := run_loadVar_row W b 62 62 (slA g x y z) (0, 0) _ h Tryz.underlying62 rfl (by kernel_rfl)
  have h4' : tmps[2]?.getD undef = .pointer (some ⟨b, 0, none⟩) := by simpa using h4
  have h5' : tmps[3]?.getD undef = e := by simpa using h5
  simp [results, Tryz.results51, asAddr, h4', h5', hl]
set_option maxHeartbeats 4000000 in
set_option maxRecDepth 100000 in
theorem read_sum (p : Pg) (w : World) (hne : Hid (numV (sub p 60 4) ≠ sum (sub p 0 60))) :
    Calls Tryz.prog 51 #[pv p] w fun ev w' => (∃ T u, ev = .returned (.tuple #[.agg (slA 0 0 0 0), .iface T u]) ∧ IsErr w' (.iface T u) 12) ∧ Below w.heap.size w w' := by
  have hpv := pv_eq p
  go_enter Tryz.func51, Tryz.ntmps51
  go_wp2_with fail
  obtain ⟨HPg, HRs, HB1⟩ := alloc2 w (Obj.cells (pa p) 100 (0, 0)) (Obj.cells (slA 0 0 0 0) 62 (0, 0))
  obtain ⟨B, hB⟩ : ∃ B, w.heap.size = B := ⟨_, rfl⟩
  rw [hB] at HPg HRs HB1
  simp only [hB]
  generalize ((w.alloc (Obj.cells (pa p) 100 (0, 0))).alloc (Obj.cells (slA 0 0 0 0) 62 (0, 0))) = w1 at *
  have HBd := Lib.hid (show Below w1.heap.size w1 w1.drew from (Below.refl _ _).drew)
  have HPd := blk_to HPg HBd.out
  have hs4 : (sub p 60 4).size = 4 := sub_size _ _ _ (by decide)
  have hs60 : (sub p 0 60).size = 60 := sub_size _ _ _ (by decide)
  have hcv1 := fun (W : World) (h : W.heap[B]? = some (Obj.cells (pa p) 100 (0, 0))) => conv_sub W B p 60 4 4 h (by decide)
  have hcv2 := fun (W : World) (h : W.heap[B]? = some (Obj.cells (pa p) 100 (0, 0))) => conv_sub W B p 0 60 64 h (by decide)
  obtain ⟨N1, hN1⟩ : ∃ N1, numV (sub p 60 4) = N1 := ⟨_, rfl⟩
  obtain ⟨N2, hN2⟩ : ∃ N2, sum (sub p 0 60) = N2 := ⟨_, rfl⟩
  have HN1 := Lib.hid hN1
  have HN2 := Lib.hid hN2
  have c1 : (N1 == N2) = false := beq_eq_false_iff_ne.2 (by rw [← hN1, ← hN2]; exact hne.out)
  have c2 : (N1 != N2) = true := by rw [bne, c1]; rfl
  clear hN1 hN2
  go_region_held3 (fun w' => w'.heap[B]? = some (Obj.cells (pa p) 100 (0, 0)))
    (first | with_reducible exact HPd.out | with_reducible exact HP5.out | with_reducible exact HP6.out | with_reducible assumption)
    (first
      | (go_at_call 75
         refine (number_c (sub p 60 4) N1 _ hs4 HN1).mono ?_
         rintro e w5 ⟨rfl, hd5⟩
         have HB5 := Lib.hid (HBd.out.trans (hd5.mono HBd.out.size))
         have HP5 := blk_to HPg HB5.out
         clear hd5)
      | (go_at_call 61
         refine (sum_c (sub p 0 60) _ (by omega)).mono ?_
         rintro e w6 ⟨rfl, hd6⟩
         have HB6 := Lib.hid (HB5.out.trans (hd6.mono HB5.out.size))
         have HP6 := blk_to HPg HB6.out
         rw [HN2.out]
         clear hd6)
      | fail)
  have HX6 := Lib.hid (HB1.out.trans (HB6.out.mono (by have := HB1.out.size; omega)))
  have HR6 := blk_to HRs HB6.out
  clear HB5 HB6 HP5 HP6 HBd HPd hcv1 hcv2 HRs HB1 c1 c2 hpv
  go_wp2_with fail
  refine (at_err _ _ 12 _).mono ?_
  rintro e w7 ⟨T, u, rfl, he, hd⟩
  have HE := Lib.hid he
  have HR7 := blk_to HR6 hd
  have HX7 := below_to HX6 (by have := HX6.out.size; omega) hd
  clear he hd HR6 HX6
  go_wp2_with (first | (refine wl_storeS (B + 1) 0 0 0 0 0 0 0 0 HR7.out rfl _ _ rfl rfl rfl ?_))
  (try simp only [Exit.inBlock, Exit.then])
  refine bodyPost_ret (v := .tuple #[.agg (slA 0 0 0 0), .iface T u]) ?_ rfl ?_
  · exact read_results _ _ (B + 1) 0 0 0 0 (.iface T u) rfl rfl (srow_at _ _ 0 0 0 0 _ _ _ _ HR7.out)
  have hB7 : B + 1 < w7.heap.size := Err.lt_of_block HR7.out
  have hm := mod_row w7 (B + 1) (slA 0 0 0 0)
  rw [hB]
  exact ⟨⟨T, u, rfl, Dk.isErr_mod HE.out hm (fun b cs hb (hf : b = B + 1) => by rw [hf, HR7.out] at hb; simp at hb)⟩, HX7.out.trans (hm.below (by have := HX7.out.size; omega) (fun i hi (e : i = B + 1) => by omega))⟩
theorem exec_load30 {ρ : Operand → Value} {o : Oper} {x : Operand} {W : World} {b : Nat} {p : Pg} (ho : o.op = .load 100 x) (hx : ρ x = .pointer (some ⟨b, 0, none⟩)) (hp : W.heap[b]? = some (Obj.cells (pa p) 100 (0, 0))) : (execOp ρ o).run Tryz.prog W = .ok (.value (pv p)) W := by
  unfold execOp; simp only [ho, hx, run_load30 W b p hp, Sem.run_bind, Sem.run_pure, Result.andThen_ok]
theorem exec_neq30 {ρ : Operand → Value} {o : Oper} {x y : Operand} {W : World} {p q : Pg} {b : Bool} (ho : o.op = .binOp .neq 100 x y 100) (hx : ρ x = pv p) (hy : ρ y = pv q) (hb : (p.1 != q.1) = b) : (execOp ρ o).run Tryz.prog W = .ok (.value (.bool b)) W := by
  unfold execOp; simp only [ho, hx, hy, eqG .neq x y p q W, neqP p q W, Sem.run_bind, Sem.run_pure, Result.andThen_ok, hb]
theorem lay_parse {g x y z : Int} {p : Pg} (h : Rt g x y z) (e : layP g x y z = p) : Rdr.NumTo (sub p 4 56) 0 2048 x.toNat ∧ Rdr.NumTo (sub p 4 56) (0 + (num x.toNat).length) 16384 y.toNat ∧ Rdr.NumTo (sub p 4 56) (0 + (num x.toNat).length + (num y.toNat).length) 4294967295 z.toNat := by
  obtain ⟨c, hc⟩ := lay_mid h
  rw [e] at hc
  have s1 := Rdr.stands_mid ByteArray.empty (numS y.toNat ++ numS z.toNat ++ c) x.toNat
  have s2 := Rdr.stands_mid (numS x.toNat) (numS z.toNat ++ c) y.toNat
  have s3 := Rdr.stands_mid (numS x.toNat ++ numS y.toNat) c z.toNat
  rw [hc]
  obtain ⟨_, _, x0, x1, y0, y1, z0, z1⟩ := h
  refine ⟨⟨by omega, by omega, ?_⟩, ⟨by omega, by omega, ?_⟩, ⟨by omega, by omega, ?_⟩⟩
  · have e1 : ByteArray.empty ++ numS x.toNat ++ (numS y.toNat ++ numS z.toNat ++ c) = numS x.toNat ++ numS y.toNat ++ numS z.toNat ++ c := by
      simp only [ByteArray.empty_append, ByteArray.append_assoc]
    rw [e1] at s1
    exact s1
  · have e1 : numS x.toNat ++ numS y.toNat ++ (numS z.toNat ++ c) = numS x.toNat ++ numS y.toNat ++ numS z.toNat ++ c := by simp only [ByteArray.append_assoc]
    rw [e1, numS_size] at s2
    rw [Nat.zero_add]
    exact s2
  · rw [ByteArray.size_append, numS_size, numS_size] at s3
    rw [Nat.zero_add]
    exact s3
theorem noslot {p : Pg} {g x y z : Int} (x0 : 0 ≤ x) (y0 : 0 ≤ y) (z0 : 0 ≤ z) (hg : numV (sub p 0 4) = g) (n1 : Rdr.NumTo (sub p 4 56) 0 2048 x.toNat) (n2 : Rdr.NumTo (sub p 4 56) (0 + (num x.toNat).length) 16384 y.toNat) (n3 : Rdr.NumTo (sub p 4 56) (0 + (num x.toNat).length + (num y.toNat).length) 4294967295 z.toNat) (hn : Rt g x y z → layP g x y z ≠ p) :
    ∀ g x y z, Rt g x y z → layP g x y z ≠ p := by
  intro g' x' y' z' h e
  obtain ⟨m1, m2, m3⟩ := lay_parse h e
  have e1 := Rdr.stands_one n1.2.2 m1.2.2
  rw [← e1] at m2 m3
  have e2 := Rdr.stands_one n2.2.2 m2.2.2
  rw [← e2] at m3
  have e3 := Rdr.stands_one n3.2.2 m3.2.2
  have e4 := lay_gen h
  rw [e] at e4
  obtain rfl : x' = x := by have := h.x0; omega
  obtain rfl : y' = y := by have := h.y0; omega
  obtain rfl : z' = z := by have := h.z0; omega
  obtain rfl : g' = g := by omega
  exact hn h e
def Kp (w : World) (B Z : Nat) (p : Pg) (x y z : Int) (w' : World) : Prop := w'.heap[B]? = some (Obj.cells (pa p) 100 (0, 0)) ∧ w'.heap[B + 1]? = some (Obj.cells (slA 0 0 0 0) 62 (0, 0)) ∧ (w'.cell? ⟨Z, 0, none⟩ = some (.int .i64 x) ∧ w'.cell? ⟨Z, 1, none⟩ = some (.int .i64 y) ∧ w'.cell? ⟨Z, 2, none⟩ = some (.int .u32 z)) ∧ Below w.heap.size w w'
theorem Kp.on {w : World} {B Z : Nat} {p : Pg} {x y z : Int} {w1 w2 : World} (h : Kp w B Z p x y z w1) (k : Below w1.heap.size w1 w2) : Kp w B Z p x y z w2 :=
  ⟨(k.block B (Err.lt_of_block h.1)).trans h.1, (k.block _ (Err.lt_of_block h.2.1)).trans h.2.1, ⟨(k.cell (lt_of h.2.2.1.1)).trans h.2.2.1.1, (k.cell (lt_of h.2.2.1.2.1)).trans h.2.2.1.2.1, (k.cell (lt_of h.2.2.1.2.2)).trans h.2.2.1.2.2⟩, h.2.2.2.trans (k.mono h.2.2.2.size)⟩
theorem mod_set4 (W : World) (b : Nat) (u x y z : Value) : Mod (· = b) W ((((W.setCell ⟨b, 0, none⟩ u).setCell ⟨b, 1, none⟩ x).setCell ⟨b, 2, none⟩ y).setCell ⟨b, 3, none⟩ z) :=
  ((((Mod.refl (· = b) W).set ⟨b, 0, none⟩ _ (.inl rfl)).set ⟨b, 1, none⟩ _ (.inl rfl)).set ⟨b, 2, none⟩ _ (.inl rfl)).set ⟨b, 3, none⟩ _ (.inl rfl)
theorem set4 {W : World} {b : Nat} {g0 x0 y0 z0 : Int} (h : W.heap[b]? = some (Obj.cells (slA g0 x0 y0 z0) 62 (0, 0))) (g x y z : Int) : ((((W.setCell ⟨b, 0, none⟩ (.int .u32 g)).setCell ⟨b, 1, none⟩ (.int .i64 x)).setCell ⟨b, 2, none⟩ (.int .i64 y)).setCell ⟨b, 3, none⟩ (.int .u32 z)).heap[b]? = some (Obj.cells (slA g x y z) 62 (0, 0)) :=
  set1 (set1 (set1 (set1 h 0 _) 1 _) 2 _) 3 _
theorem Kp.set4 {w0 : World} {B Z : Nat} {p : Pg} {x y z : Int} {w1 : World} (h0 : Kp w0 B Z p x y z w0) (h : Kp w0 B Z p x y z w1) (a b c d : Value) : Kp w0 B Z p x y z ((((w1.setCell ⟨w0.heap.size, 0, none⟩ a).setCell ⟨w0.heap.size, 1, none⟩ b).setCell ⟨w0.heap.size, 2, none⟩ c).setCell ⟨w0.heap.size, 3, none⟩ d) := by
  have k := mod_set4 w1 w0.heap.size a b c d
  have g1 := Err.lt_of_block h0.1
  have g2 := Err.lt_of_block h0.2.1
  have g3 : Z < w0.heap.size := lt_of h0.2.2.1.1
  exact ⟨k.blk h.1 (by omega), k.blk h.2.1 (by omega), ⟨k.cell h.2.2.1.1 (by show ¬ Z = _; omega), k.cell h.2.2.1.2.1 (by show ¬ Z = _; omega), k.cell h.2.2.1.2.2 (by show ¬ Z = _; omega)⟩, h.2.2.2.trans (k.below h.2.2.2.size (fun i hi (e : i = w0.heap.size) => by omega))⟩
set_option maxHeartbeats 8000000 in
set_option maxRecDepth 100000 in
theorem read_eq (p : Pg) (w : World) (heq : Hid (numV (sub p 60 4) = sum (sub p 0 60))) :
    Calls Tryz.prog 51 #[pv p] w fun ev w' => (∃ g x y z e, ev = .returned (.tuple #[.agg (slA g x y z), e]) ∧ SlotAt w' p g x y z e) ∧ Below w.heap.size w w' := by
  have hpv := pv_eq p
  go_enter Tryz.func51, Tryz.ntmps51
  go_wp2_with fail
  obtain ⟨HPg, HRs, HB1⟩ := alloc2 w (Obj.cells (pa p) 100 (0, 0)) (Obj.cells (slA 0 0 0 0) 62 (0, 0))
  obtain ⟨B, hB⟩ : ∃ B, w.heap.size = B := ⟨_, rfl⟩
  rw [hB] at HPg HRs HB1
  simp only [hB]
  generalize ((w.alloc (Obj.cells (pa p) 100 (0, 0))).alloc (Obj.cells (slA 0 0 0 0) 62 (0, 0))) = w1 at *
  have HBd := Lib.hid (show Below w1.heap.size w1 w1.drew from (Below.refl _ _).drew)
  have HPd := blk_to HPg HBd.out
  have hs4 : (sub p 60 4).size = 4 := sub_size _ _ _ (by decide)
  have hs60 : (sub p 0 60).size = 60 := sub_size _ _ _ (by decide)
  have hcv1 := fun (W : World) (h : W.heap[B]? = some (Obj.cells (pa p) 100 (0, 0))) => conv_sub W B p 60 4 4 h (by decide)
  have hcv2 := fun (W : World) (h : W.heap[B]? = some (Obj.cells (pa p) 100 (0, 0))) => conv_sub W B p 0 60 64 h (by decide)
  obtain ⟨N1, hN1⟩ : ∃ N1, numV (sub p 60 4) = N1 := ⟨_, rfl⟩
  have HN1 := Lib.hid hN1
  have HN2 := Lib.hid (heq.out.symm.trans hN1)
  clear hN1
  go_region_held3 (fun w' => w'.heap[B]? = some (Obj.cells (pa p) 100 (0, 0)))
    (first | with_reducible exact HPd.out | with_reducible exact HP5.out | with_reducible exact HP6.out | with_reducible assumption)
    (first
      | (go_at_call 75
         refine (number_c (sub p 60 4) N1 _ hs4 HN1).mono ?_
         rintro e w5 ⟨rfl, hd5⟩
         have HB5 := Lib.hid (HBd.out.trans (hd5.mono HBd.out.size))
         have HP5 := blk_to HPg HB5.out
         clear hd5)
      | (go_at_call 61
         refine (sum_c (sub p 0 60) _ (by omega)).mono ?_
         rintro e w6 ⟨rfl, hd6⟩
         have HB6 := Lib.hid (HB5.out.trans (hd6.mono HB5.out.size))
         have HP6 := blk_to HPg HB6.out
         rw [HN2.out]
         clear hd6)
      | fail)
  have HX6 := Lib.hid (HB1.out.trans (HB6.out.mono (by have := HB1.out.size; omega)))
  have HR6 := blk_to HRs HB6.out
  clear HB5 HB6 HP5 HBd HPd hcv1 hcv2 HRs HB1 hpv hs60 HPg HN1 HN2
  have hcv3 := conv_sub w6 B p 4 56 60 HP6.out (by decide)
  have hs56 : (sub p 4 56).size = 56 := sub_size _ _ _ (by decide)
  go_wp2_with fail
  refine (Rdr.new_v (sub p 4 56) _).mono ?_
  rintro e w7 ⟨R, hR, rfl, HH7, hd⟩
  have hB6 : B + 1 < w6.heap.size := Err.lt_of_block HR6.out
  have HP7 := blk_to HP6 hd
  have HR7 := blk_to HR6 hd
  have HX7 := Lib.hid (HX6.out.trans (hd.mono (by have := HX6.out.size; omega)))
  clear hd HP6 HR6 HX6 hcv3
  go_wp2_with fail
  refine (bread_c R (sub p 4 56) 0 _ HH7 (by omega)).mono ?_
  rintro e w8 ⟨v, e8, rfl, hra, hm⟩
  have HP8 := Lib.hid (hm.blk HP7.out (by omega))
  have HR8 := Lib.hid (hm.blk HR7.out (by omega))
  have HX8 := Lib.hid (HX7.out.trans (hm.below (by have := HX7.out.size; omega) (fun i hi (e : i = R) => by omega)))
  have HA8 := Lib.hid hra
  obtain ⟨rx, ry, rz, rfl⟩ : ∃ rx ry rz, v = .agg (refA rx ry rz) := by
    rcases hra with ⟨x, y, z, _, _, _, rfl, _⟩ | ⟨_, rfl, _⟩
    · exact ⟨_, _, _, rfl⟩
    · exact ⟨_, _, _, rfl⟩
  clear hra hm HH7 HP7 HR7 HX7
  go_wp2_with fail
  have hbz : Below w8.heap.size w8 (w8.alloc (Obj.cells (refA rx ry rz) 36 (0, 0))) := (Below.refl _ _).alloc (Nat.le_refl _) _
  have HX9 := Lib.hid (HX8.out.trans (hbz.mono (by have := HX8.out.size; have := Err.lt_of_block HP8.out; omega)))
  have HK := Lib.hid (show Kp (w8.alloc (Obj.cells (refA rx ry rz) 36 (0, 0))) B w8.heap.size p rx ry rz (w8.alloc (Obj.cells (refA rx ry rz) 36 (0, 0))) from ⟨(hbz.block B (Err.lt_of_block HP8.out)).trans HP8.out, (hbz.block _ (Err.lt_of_block HR8.out)).trans HR8.out, ref_keep (heap_alloc_last _ _) (Below.refl _ _), Below.refl _ _⟩)
  have HA9 := Lib.hid (HA8.out.on (w' := (w8.alloc (Obj.cells (refA rx ry rz) 36 (0, 0)))) (fun T u _ hi => hi.on hbz))
  obtain ⟨Z, hZ⟩ : ∃ Z, w8.heap.size = Z := ⟨_, rfl⟩
  rw [hZ] at HK
  simp only [hZ]
  generalize (w8.alloc (Obj.cells (refA rx ry rz) 36 (0, 0))) = w9 at *
  clear hbz HA8 HX8 HP8 HR8
  have hs4' : (sub p 0 4).size = 4 := sub_size _ _ _ (by decide)
  have hcv := fun (W : World) (h : W.heap[B]? = some (Obj.cells (pa p) 100 (0, 0))) => conv_sub W B p 0 4 64 h (by decide)
  obtain ⟨g, hg⟩ : ∃ g, numV (sub p 0 4) = g := ⟨_, rfl⟩
  have HG := Lib.hid hg
  clear hg
  have HKd := Lib.hid (HK.out.on (Below.refl _ _).drew)
  have HK9 := Lib.hid HK.out.2.1
  rename_i Q5 hh5 K5 h5
  have tail : Hid (∀ (W : World) (G : Nat), Kp w9 B Z p rx ry rz W → w9.heap.size ≤ G → W.heap[G]? = some (Obj.cells (slA g rx ry rz) 62 (0, 0)) → Exit.then K5 Q5 Exit.normal { tmps := #[Value.agg (pa p), Value.pointer (some ⟨B, 0, none⟩), Value.pointer (some ⟨B + 1, 0, none⟩), Value.nilIface, Value.pointer (some ⟨Z, 0, none⟩), e8, Value.pointer (some ⟨G, 0, none⟩), Value.slice (some ⟨B, 60, none⟩) 4 4, Value.string (sub p 60 4), Value.int IntKind.u32 N1, Value.slice (some ⟨B, 0, none⟩) 60 64, Value.string (sub p 0 60), Value.int IntKind.u32 N1, Value.bool false, undef, undef, undef, Value.tuple #[Value.agg (refA rx ry rz), e8],
          Value.slice (some ⟨B, 4, none⟩) 56 60, Value.string (sub p 4 56), Value.pointer (some ⟨R, 0, none⟩), Value.tuple #[Value.agg (refA rx ry rz), e8], Value.agg (refA rx ry rz), e8, Value.slice (some ⟨B, 0, none⟩) 4 64, Value.string (sub p 0 4), Value.int IntKind.u32 g, Value.agg #[Value.int IntKind.i64 rx, Value.int IntKind.i64 ry, Value.int IntKind.u32 rz],
          Value.agg #[Value.int IntKind.u32 g, Value.int IntKind.i64 rx, Value.int IntKind.i64 ry, Value.int IntKind.u32 rz], undef, undef, undef, undef, undef, undef, undef, undef, undef, undef, undef, undef, undef, undef, undef, undef, undef], defers := [] } W) := by
    refine Lib.hid ?_
    intro W G hK hG hS
    clear HK HKd
    have HKW := Lib.hid hK
    have HSW := Lib.hid hS
    have HAW := Lib.hid (HA9.out.on (w' := W) (fun T u _ hi => hi.on hK.2.2.2))
    have hGB : B + 1 < w9.heap.size := Err.lt_of_block HK9.out
    have HXW := Lib.hid (HX9.out.trans (hK.2.2.2.mono (by have := HX9.out.size; omega)))
    clear hK hS HA9 HX9 HK9
    have hsl := fun (W' : World) (b : Below W.heap.size W W') => sl_keep HSW.out b
    have HWd := Lib.hid (show Below W.heap.size W W.drew from (Below.refl _ _).drew)
    have hPd := (HWd.out.block B (Err.lt_of_block HKW.out.1)).trans HKW.out.1
    have hSd := hsl _ HWd.out
    show K5 _ _
    apply h5
    have HRW := Lib.hid HKW.out.2.1
    rcases HAW.out with ⟨x, y, z, n1, n2, n3, hv, he⟩ | ⟨hnot, hv, T, u, he, hi⟩
    · obtain ⟨rfl, rfl, rfl⟩ : rx = (x : Int) ∧ ry = (y : Int) ∧ rz = (z : Int) := by
        injection hv with hv
        simp at hv
        exact hv
      subst he
      have hno := fun hn => noslot (p := p) (g := g) (x := (x : Int)) (y := (y : Int)) (z := (z : Int)) (by omega) (by omega) (by omega) HG.out (by rw [Int.toNat_natCast]; exact n1) (by rw [Int.toNat_natCast, Int.toNat_natCast]; exact n2) (by rw [Int.toNat_natCast, Int.toNat_natCast, Int.toNat_natCast]; exact n3) hn
      have HNo := Lib.hid hno
      have hz1 := n3.2.1
      have hg1 := numV_lt (sub p 0 4)
      rw [HG.out] at hg1
      cases hrb : rightB g (x : Int) (y : Int) (z : Int) with
      | false =>
        have hrt := Lib.hid hrb
        have HNO := Lib.hid (HNo.out (fun h => by rw [rightB_true h] at hrb; cases hrb))
        clear hno hz1 hg1 hrb n1 n2 n3 hv HNo HAW
        go_wp2_with fail
        refine start_ (n := 13) (S := fun w' => w'.cell? ⟨G, 0, none⟩ = some (.int .u32 g) ∧ w'.cell? ⟨G, 1, none⟩ = some (.int .i64 (x : Int)) ∧ w'.cell? ⟨G, 2, none⟩ = some (.int .i64 (y : Int)) ∧ w'.cell? ⟨G, 3, none⟩ = some (.int .u32 (z : Int))) (ds := []) (bzz 13 0) (by kernel_rfl) rfl rfl ⟨hSd.1, hSd.2.1, hSd.2.2.1, hSd.2.2.2⟩ (fun hHeld => ?_)
        refine rpz 0 29 ?_ (bzz 13 1) rfl rfl ?_ ?_ ?_ ?_
        rotate_left
        · intro w'
          go_simp
          with_reducible rfl
        rotate_left
        · simp only [zaP, zsA, zsZ, zsS, i64_w, i32_w]
          rfl
        refine rpz 1 30 ?_ (bzz 13 3) rfl rfl ?_ ?_ ?_ ?_
        rotate_left
        · intro w'
          go_simp
          with_reducible rfl
        rotate_left
        · simp only [zaP, zsA, zsZ, zsS, i64_w, i32_w]
          rfl
        refine rpz 2 31 ?_ (bzz 13 7) rfl rfl ?_ ?_ ?_ ?_
        rotate_left
        · intro w'
          go_simp
          with_reducible rfl
        rotate_left
        · simp only [zaP, zsA, zsZ, zsS, i64_w, i32_w]
          rfl
        refine rtz 3 32 ?_ (bzz 13 15) rfl rfl hHeld ?_ ?_ ?_ ?_
        rotate_left
        · rintro w' ⟨s0, s1, s2, s3⟩
          go_simp
          with_reducible rfl
        rotate_left
        · simp only [zaP, zsA, zsZ, zsS, i64_w, i32_w]
          rfl
        refine roz 4 33 (bzz 13 31) rfl rfl (fun K hK => ?_)
        refine goes_ Tryz.func77 (by kernel_rfl) rfl #[.agg (slA g (x : Int) (y : Int) (z : Int))] (by rfl) rfl rfl (by simp only [List.map_toArray, List.map_cons, List.map_nil]; rfl) ?_
        with_reducible refine (right_c g (x : Int) (y : Int) (z : Int) false _ hrt).mono ?_
        rintro e w20 ⟨rfl, hd20⟩
        refine ⟨_, rfl, ?_⟩
        have HW20 := Lib.hid (HWd.out.trans (hd20.mono HWd.out.size))
        have hS20 := hsl _ HW20.out
        clear hd20
        refine hK.out _ _ ⟨hS20.1, hS20.2.1, hS20.2.2.1, hS20.2.2.2⟩ (fun hHeld => ?_)
        clear hK K
        refine norm_ (a' := ?_) ?_ ?_
        rotate_left
        · show Act.put _ (some 33) _ = _
          simp only [zaP, zsA, zsZ, zsS, i64_w, i32_w]
          rfl
        refine rpz 5 34 ?_ (bzz 13 63) rfl rfl ?_ ?_ ?_ ?_
        rotate_left
        · intro w'
          go_simp
          with_reducible rfl
        rotate_left
        · simp only [zaP, zsA, zsZ, zsS, i64_w, i32_w]
          rfl
        refine rpz 6 35 ?_ (bzz 13 127) rfl rfl ?_ ?_ ?_ ?_
        rotate_left
        · intro w'
          go_simp
          with_reducible rfl
        rotate_left
        · simp only [zaP, zsA, zsZ, zsS, i64_w, i32_w]
          rfl
        refine rpz 7 36 ?_ (bzz 13 255) rfl rfl ?_ ?_ ?_ ?_
        rotate_left
        · intro w'
          go_simp
          with_reducible rfl
        rotate_left
        · simp only [zaP, zsA, zsZ, zsS, i64_w, i32_w]
          rfl
        refine pure_ (i := 8) (N := some 37) (v := undef) (a' := ?_) (bzz 13 511) rfl rfl (by kernel_rfl) (fun _ _ _ h => h) (Or.inr ⟨by rfl, rfl⟩) ?_ ?_
        rotate_left
        · simp only [zaP, zsA, zsZ, zsS, i64_w, i32_w]
          rfl
        refine pure_ (i := 9) (N := some 38) (v := undef) (a' := ?_) (bzz 13 1023) rfl rfl (by kernel_rfl) (fun _ _ _ h => h) (Or.inr ⟨by rfl, rfl⟩) ?_ ?_
        rotate_left
        · simp only [zaP, zsA, zsZ, zsS, i64_w, i32_w]
          rfl
        refine pure_ (i := 10) (N := some 39) (v := undef) (a' := ?_) (bzz 13 2047) rfl rfl (by kernel_rfl) (fun _ _ _ h => h) (Or.inr ⟨by rfl, rfl⟩) ?_ ?_
        rotate_left
        · simp only [zaP, zsA, zsZ, zsS, i64_w, i32_w]
          rfl
        refine pure_ (i := 11) (N := some 40) (v := undef) (a' := ?_) (bzz 13 4095) rfl rfl (by kernel_rfl) (fun _ _ _ h => h) (Or.inr ⟨by rfl, rfl⟩) ?_ ?_
        rotate_left
        · simp only [zaP, zsA, zsZ, zsS, i64_w, i32_w]
          rfl
        refine rpz 12 41 ?_ (bzz 13 8191) rfl rfl ?_ ?_ ?_ ?_
        rotate_left
        · intro w'
          go_simp
          with_reducible rfl
        rotate_left
        · simp only [zaP, zsA, zsZ, zsS, i64_w, i32_w]
          rfl
        refine done_ (by kernel_rfl) ?_

        have HR20 := blk_to HRW HW20.out
        have HX20 := Lib.hid (HXW.out.trans (HW20.out.mono (by have := HXW.out.size; have := Err.lt_of_block HRW.out; omega)))
        go_wp2_with fail
        refine (at_err _ _ 13 _).mono ?_
        rintro e w30 ⟨T2, u2, rfl, he2, hd⟩
        have HE := Lib.hid he2
        have HR30 := blk_to HR20 hd
        have HX30 := below_to HX20 (by have := HX20.out.size; have := Err.lt_of_block HR20.out; omega) hd
        clear he2 hd
        go_wp2_with (first | (refine wl_storeS (B + 1) 0 0 0 0 0 0 0 0 HR30.out rfl _ _ rfl rfl rfl ?_))
        (try simp only [Exit.inBlock, Exit.then])
        refine bodyPost_ret (v := .tuple #[.agg (slA 0 0 0 0), .iface T2 u2]) ?_ rfl ?_
        · exact read_results _ _ (B + 1) 0 0 0 0 (.iface T2 u2) rfl rfl (srow_at _ _ 0 0 0 0 _ _ _ _ HR30.out)
        have hB30 : B + 1 < w30.heap.size := Err.lt_of_block HR30.out
        have hm := mod_row w30 (B + 1) (slA 0 0 0 0)
        refine ⟨⟨0, 0, 0, 0, _, rfl, .inr (.inr ⟨⟨heq.out, HNO.out, T2, u2, rfl, Dk.isErr_mod HE.out hm (fun b cs hb (hf : b = B + 1) => by rw [hf, HR30.out] at hb; simp at hb)⟩, rfl, rfl, rfl, rfl⟩)⟩, ?_⟩
        rw [hB]
        exact HX30.out.trans (hm.below (by have := HX30.out.size; omega) (fun i hi (e : i = B + 1) => by omega))
      | true =>
        have hrt := Lib.hid hrb
        have hrt2 : Rt g (x : Int) (y : Int) (z : Int) := rightB_rt hrb hg1.2 (by omega) (by omega)
        obtain ⟨b, hb⟩ : ∃ b, ((layP g (x : Int) (y : Int) (z : Int)).1 != p.1) = b := ⟨_, rfl⟩
        have HRT2 := Lib.hid hrt2
        have HBq := Lib.hid hb
        clear hno hz1 hg1 hrb n1 n2 n3 hv HAW
        go_wp2_with fail
        refine start_ (n := 13) (S := fun w' => w'.cell? ⟨G, 0, none⟩ = some (.int .u32 g) ∧ w'.cell? ⟨G, 1, none⟩ = some (.int .i64 (x : Int)) ∧ w'.cell? ⟨G, 2, none⟩ = some (.int .i64 (y : Int)) ∧ w'.cell? ⟨G, 3, none⟩ = some (.int .u32 (z : Int)) ∧ w'.heap[B]? = some (Obj.cells (pa p) 100 (0, 0))) (ds := []) (bzz 13 0) (by kernel_rfl) rfl rfl ⟨hSd.1, hSd.2.1, hSd.2.2.1, hSd.2.2.2, hPd⟩ (fun hHeld => ?_)
        refine rpz 0 29 ?_ (bzz 13 1) rfl rfl ?_ ?_ ?_ ?_
        rotate_left
        · intro w'
          go_simp
          with_reducible rfl
        rotate_left
        · simp only [zaP, zsA, zsZ, zsS, i64_w, i32_w]
          rfl
        refine rpz 1 30 ?_ (bzz 13 3) rfl rfl ?_ ?_ ?_ ?_
        rotate_left
        · intro w'
          go_simp
          with_reducible rfl
        rotate_left
        · simp only [zaP, zsA, zsZ, zsS, i64_w, i32_w]
          rfl
        refine rpz 2 31 ?_ (bzz 13 7) rfl rfl ?_ ?_ ?_ ?_
        rotate_left
        · intro w'
          go_simp
          with_reducible rfl
        rotate_left
        · simp only [zaP, zsA, zsZ, zsS, i64_w, i32_w]
          rfl
        refine rtz 3 32 ?_ (bzz 13 15) rfl rfl hHeld ?_ ?_ ?_ ?_
        rotate_left
        · rintro w' ⟨s0, s1, s2, s3, s4⟩
          go_simp
          with_reducible rfl
        rotate_left
        · simp only [zaP, zsA, zsZ, zsS, i64_w, i32_w]
          rfl
        refine roz 4 33 (bzz 13 31) rfl rfl (fun K hK => ?_)
        refine goes_ Tryz.func77 (by kernel_rfl) rfl #[.agg (slA g (x : Int) (y : Int) (z : Int))] (by rfl) rfl rfl (by simp only [List.map_toArray, List.map_cons, List.map_nil]; rfl) ?_
        with_reducible refine (right_c g (x : Int) (y : Int) (z : Int) true _ hrt).mono ?_
        rintro e w20 ⟨rfl, hd20⟩
        refine ⟨_, rfl, ?_⟩
        have HW20 := Lib.hid (HWd.out.trans (hd20.mono HWd.out.size))
        have hS20 := hsl _ HW20.out
        have hP20 := (HW20.out.block B (Err.lt_of_block HKW.out.1)).trans HKW.out.1
        clear hd20
        refine hK.out _ _ ⟨hS20.1, hS20.2.1, hS20.2.2.1, hS20.2.2.2, hP20⟩ (fun hHeld => ?_)
        clear hK K
        refine norm_ (a' := ?_) ?_ ?_
        rotate_left
        · show Act.put _ (some 33) _ = _
          simp only [zaP, zsA, zsZ, zsS, i64_w, i32_w]
          rfl
        refine rpz 5 34 ?_ (bzz 13 63) rfl rfl ?_ ?_ ?_ ?_
        rotate_left
        · intro w'
          go_simp
          with_reducible rfl
        rotate_left
        · simp only [zaP, zsA, zsZ, zsS, i64_w, i32_w]
          rfl
        refine rpz 6 35 ?_ (bzz 13 127) rfl rfl ?_ ?_ ?_ ?_
        rotate_left
        · intro w'
          go_simp
          with_reducible rfl
        rotate_left
        · simp only [zaP, zsA, zsZ, zsS, i64_w, i32_w]
          rfl
        refine rpz 7 36 ?_ (bzz 13 255) rfl rfl ?_ ?_ ?_ ?_
        rotate_left
        · intro w'
          go_simp
          with_reducible rfl
        rotate_left
        · simp only [zaP, zsA, zsZ, zsS, i64_w, i32_w]
          rfl
        refine rtz 8 37 ?_ (bzz 13 511) rfl rfl hHeld ?_ ?_ ?_ ?_
        rotate_left
        · rintro w' ⟨s0, s1, s2, s3, s4⟩
          go_simp
          with_reducible rfl
        rotate_left
        · simp only [zaP, zsA, zsZ, zsS, i64_w, i32_w]
          rfl
        refine rtz 10 39 ?_ (bzz 13 1535) rfl rfl hHeld ?_ ?_ ?_ ?_
        rotate_left
        · rintro w' ⟨s0, s1, s2, s3, s4⟩
          refine exec_load30 (x := .tmp 1) ?_ ?_ s4
          · rfl
          · rfl
        rotate_left
        · simp only [zaP, zsA, zsZ, zsS, i64_w, i32_w]
          rfl
        refine roz 9 38 (bzz 13 2047) rfl rfl (fun K hK => ?_)
        refine goes_ Tryz.func78 (by kernel_rfl) rfl #[.agg (slA g (x : Int) (y : Int) (z : Int))] (by rfl) rfl rfl (by simp only [List.map_toArray, List.map_cons, List.map_nil]; rfl) ?_
        with_reducible refine (laid_c g (x : Int) (y : Int) (z : Int) _ hrt2).mono ?_
        rintro e w21 ⟨rfl, hd21⟩
        refine ⟨_, rfl, ?_⟩
        have HW21 := Lib.hid (HW20.out.trans (hd21.mono HW20.out.size))
        have hS21 := hsl _ HW21.out
        have hP21 := (HW21.out.block B (Err.lt_of_block HKW.out.1)).trans HKW.out.1
        clear hd21
        refine hK.out _ _ ⟨hS21.1, hS21.2.1, hS21.2.2.1, hS21.2.2.2, hP21⟩ (fun hHeld => ?_)
        clear hK K
        refine norm_ (a' := ?_) ?_ ?_
        rotate_left
        · show Act.put _ (some 38) _ = _
          simp only [zaP, zsA, zsZ, zsS, i64_w, i32_w]
          rfl
        refine rpz 11 40 ?_ (bzz 13 4095) rfl rfl ?_ ?_ ?_ ?_
        rotate_left
        · intro w'
          refine exec_neq30 (x := .tmp 38) (y := .tmp 39) ?_ ?_ ?_ hb
          · rfl
          · rfl
          · rfl
        rotate_left
        · simp only [zaP, zsA, zsZ, zsS, i64_w, i32_w]
          rfl
        refine rpz 12 41 ?_ (bzz 13 8191) rfl rfl ?_ ?_ ?_ ?_
        rotate_left
        · intro w'
          go_simp
          with_reducible rfl
        rotate_left
        · simp only [zaP, zsA, zsZ, zsS, i64_w, i32_w]
          rfl
        refine done_ (by kernel_rfl) ?_

        have HR20 := blk_to HRW HW21.out
        have HX20 := Lib.hid (HXW.out.trans (HW21.out.mono (by have := HXW.out.size; have := Err.lt_of_block HRW.out; omega)))
        have HS20 := blk_to HSW HW21.out
        clear hrt2
        clear hb
        cases b with
        | true =>
          have HNO := Lib.hid (HNo.out (fun _ e => by have := HBq.out; rw [e] at this; simp at this))
          go_wp2_with fail
          refine (at_err _ _ 13 _).mono ?_
          rintro e w30 ⟨T2, u2, rfl, he2, hd⟩
          have HE := Lib.hid he2
          have HR30 := blk_to HR20 hd
          have HX30 := below_to HX20 (by have := HX20.out.size; have := Err.lt_of_block HR20.out; omega) hd
          clear he2 hd
          go_wp2_with (first | (refine wl_storeS (B + 1) 0 0 0 0 0 0 0 0 HR30.out rfl _ _ rfl rfl rfl ?_))
          (try simp only [Exit.inBlock, Exit.then])
          refine bodyPost_ret (v := .tuple #[.agg (slA 0 0 0 0), .iface T2 u2]) ?_ rfl ?_
          · exact read_results _ _ (B + 1) 0 0 0 0 (.iface T2 u2) rfl rfl (srow_at _ _ 0 0 0 0 _ _ _ _ HR30.out)
          have hB30 : B + 1 < w30.heap.size := Err.lt_of_block HR30.out
          have hm := mod_row w30 (B + 1) (slA 0 0 0 0)
          refine ⟨⟨0, 0, 0, 0, _, rfl, .inr (.inr ⟨⟨heq.out, HNO.out, T2, u2, rfl, Dk.isErr_mod HE.out hm (fun b cs hb (hf : b = B + 1) => by rw [hf, HR30.out] at hb; simp at hb)⟩, rfl, rfl, rfl, rfl⟩)⟩, ?_⟩
          rw [hB]
          exact HX30.out.trans (hm.below (by have := HX30.out.size; omega) (fun i hi (e : i = B + 1) => by omega))
        | false =>
          have hlay : layP g (x : Int) (y : Int) (z : Int) = p := by
            have := HBq.out
            rw [bne, Bool.not_eq_false', beq_iff_eq] at this
            exact Subtype.ext this
          have HLy := Lib.hid hlay
          clear hlay
          go_wp2_with (first
            | (refine wl_loadS G g (x : Int) (y : Int) (z : Int) HS20.out rfl _ rfl rfl ?_)
            | (refine wl_storeS (B + 1) 0 0 0 0 g (x : Int) (y : Int) (z : Int) HR20.out rfl _ _ rfl rfl rfl ?_))
          (try simp only [Exit.inBlock, Exit.then])
          refine bodyPost_ret (v := .tuple #[.agg (slA g (x : Int) (y : Int) (z : Int)), .nilIface]) ?_ rfl ?_
          · exact read_results _ _ (B + 1) g (x : Int) (y : Int) (z : Int) .nilIface rfl rfl (srow_at _ _ 0 0 0 0 _ _ _ _ HR20.out)
          have hB30 : B + 1 < w21.heap.size := Err.lt_of_block HR20.out
          have hm := mod_row w21 (B + 1) (slA g (x : Int) (y : Int) (z : Int))
          refine ⟨⟨g, x, y, z, _, rfl, .inl ⟨HRT2.out, HLy.out, rfl⟩⟩, ?_⟩
          rw [hB]
          exact HX20.out.trans (hm.below (by have := HX20.out.size; omega) (fun i hi (e : i = B + 1) => by omega))
    · subst he
      have HNO := Lib.hid (show ∀ g x y z, Rt g x y z → layP g x y z ≠ p from fun g x y z h e => by
        obtain ⟨m1, m2, m3⟩ := lay_parse h e
        exact hnot _ _ _ m1 m2 m3)
      clear hnot hi
      go_wp2_with fail
      refine start_ (n := 13) (S := fun w' => True) (ds := []) (bzz 13 0) (by kernel_rfl) rfl rfl trivial (fun hHeld => ?_)
      refine rpz 0 29 ?_ (bzz 13 1) rfl rfl ?_ ?_ ?_ ?_
      rotate_left
      · intro w'
        go_simp
        with_reducible rfl
      rotate_left
      · simp only [zaP, zsA, zsZ, zsS, i64_w, i32_w]
        rfl
      refine rpz 1 30 ?_ (bzz 13 3) rfl rfl ?_ ?_ ?_ ?_
      rotate_left
      · intro w'
        go_simp
        with_reducible rfl
      rotate_left
      · simp only [zaP, zsA, zsZ, zsS, i64_w, i32_w]
        rfl
      refine rpz 2 31 ?_ (bzz 13 7) rfl rfl ?_ ?_ ?_ ?_
      rotate_left
      · intro w'
        go_simp
        with_reducible rfl
      rotate_left
      · simp only [zaP, zsA, zsZ, zsS, i64_w, i32_w]
        rfl
      refine pure_ (i := 3) (N := some 32) (v := undef) (a' := ?_) (bzz 13 15) rfl rfl (by kernel_rfl) (fun _ _ _ h => h) (Or.inr ⟨by rfl, rfl⟩) ?_ ?_
      rotate_left
      · simp only [zaP, zsA, zsZ, zsS, i64_w, i32_w]
        rfl
      refine pure_ (i := 4) (N := some 33) (v := undef) (a' := ?_) (bzz 13 31) rfl rfl (by kernel_rfl) (fun _ _ _ h => h) (Or.inr ⟨by rfl, rfl⟩) ?_ ?_
      rotate_left
      · simp only [zaP, zsA, zsZ, zsS, i64_w, i32_w]
        rfl
      refine pure_ (i := 5) (N := some 34) (v := undef) (a' := ?_) (bzz 13 63) rfl rfl (by kernel_rfl) (fun _ _ _ h => h) (Or.inr ⟨by rfl, rfl⟩) ?_ ?_
      rotate_left
      · simp only [zaP, zsA, zsZ, zsS, i64_w, i32_w]
        rfl
      refine rpz 6 35 ?_ (bzz 13 127) rfl rfl ?_ ?_ ?_ ?_
      rotate_left
      · intro w'
        go_simp
        with_reducible rfl
      rotate_left
      · simp only [zaP, zsA, zsZ, zsS, i64_w, i32_w]
        rfl
      refine rpz 7 36 ?_ (bzz 13 255) rfl rfl ?_ ?_ ?_ ?_
      rotate_left
      · intro w'
        go_simp
        with_reducible rfl
      rotate_left
      · simp only [zaP, zsA, zsZ, zsS, i64_w, i32_w]
        rfl
      refine pure_ (i := 8) (N := some 37) (v := undef) (a' := ?_) (bzz 13 511) rfl rfl (by kernel_rfl) (fun _ _ _ h => h) (Or.inr ⟨by rfl, rfl⟩) ?_ ?_
      rotate_left
      · simp only [zaP, zsA, zsZ, zsS, i64_w, i32_w]
        rfl
      refine pure_ (i := 9) (N := some 38) (v := undef) (a' := ?_) (bzz 13 1023) rfl rfl (by kernel_rfl) (fun _ _ _ h => h) (Or.inr ⟨by rfl, rfl⟩) ?_ ?_
      rotate_left
      · simp only [zaP, zsA, zsZ, zsS, i64_w, i32_w]
        rfl
      refine pure_ (i := 10) (N := some 39) (v := undef) (a' := ?_) (bzz 13 2047) rfl rfl (by kernel_rfl) (fun _ _ _ h => h) (Or.inr ⟨by rfl, rfl⟩) ?_ ?_
      rotate_left
      · simp only [zaP, zsA, zsZ, zsS, i64_w, i32_w]
        rfl
      refine pure_ (i := 11) (N := some 40) (v := undef) (a' := ?_) (bzz 13 4095) rfl rfl (by kernel_rfl) (fun _ _ _ h => h) (Or.inr ⟨by rfl, rfl⟩) ?_ ?_
      rotate_left
      · simp only [zaP, zsA, zsZ, zsS, i64_w, i32_w]
        rfl
      refine rpz 12 41 ?_ (bzz 13 8191) rfl rfl ?_ ?_ ?_ ?_
      rotate_left
      · intro w'
        go_simp
        with_reducible rfl
      rotate_left
      · simp only [zaP, zsA, zsZ, zsS, i64_w, i32_w]
        rfl
      refine done_ (by kernel_rfl) ?_

      have HRD := blk_to HRW HWd.out
      have HXD := Lib.hid (HXW.out.trans (HWd.out.mono (by have := HXW.out.size; have := Err.lt_of_block HRW.out; omega)))
      go_wp2_with fail
      refine (at_err _ _ 13 _).mono ?_
      rintro e w30 ⟨T2, u2, rfl, he2, hd⟩
      have HE := Lib.hid he2
      have HR30 := blk_to HRD hd
      have HX30 := below_to HXD (by have := HXD.out.size; have := Err.lt_of_block HRD.out; omega) hd
      clear he2 hd
      go_wp2_with (first | (refine wl_storeS (B + 1) 0 0 0 0 0 0 0 0 HR30.out rfl _ _ rfl rfl rfl ?_))
      (try simp only [Exit.inBlock, Exit.then])
      refine bodyPost_ret (v := .tuple #[.agg (slA 0 0 0 0), .iface T2 u2]) ?_ rfl ?_
      · exact read_results _ _ (B + 1) 0 0 0 0 (.iface T2 u2) rfl rfl (srow_at _ _ 0 0 0 0 _ _ _ _ HR30.out)
      have hB30 : B + 1 < w30.heap.size := Err.lt_of_block HR30.out
      have hm := mod_row w30 (B + 1) (slA 0 0 0 0)
      refine ⟨⟨0, 0, 0, 0, _, rfl, .inr (.inr ⟨⟨heq.out, HNO.out, T2, u2, rfl, Dk.isErr_mod HE.out hm (fun b cs hb (hf : b = B + 1) => by rw [hf, HR30.out] at hb; simp at hb)⟩, rfl, rfl, rfl, rfl⟩)⟩, ?_⟩
      rw [hB]
      exact HX30.out.trans (hm.below (by have := HX30.out.size; omega) (fun i hi (e : i = B + 1) => by omega))
  go_region_held3 (fun w' => w'.heap[B]? = some (Obj.cells (pa p) 100 (0, 0)) ∧ w'.heap[B + 1]? = some (Obj.cells (slA 0 0 0 0) 62 (0, 0)) ∧ (w'.cell? ⟨Z, 0, none⟩ = some (.int .i64 rx) ∧ w'.cell? ⟨Z, 1, none⟩ = some (.int .i64 ry) ∧ w'.cell? ⟨Z, 2, none⟩ = some (.int .u32 rz)) ∧ Below w9.heap.size w9 w')
    (first | exact HKn.out | exact Kp.on HKn.out ((Below.refl _ _).alloc (Nat.le_refl _) _) | exact Kp.set4 HK.out HKn.out _ _ _ _ | exact HKd.out | exact Kp.on HKd.out ((Below.refl _ _).alloc (Nat.le_refl _) _) | with_reducible assumption)
    (first
      | (go_at_call 75
         refine (number_c (sub p 0 4) g _ hs4' HG).mono ?_
         rintro e w5 ⟨rfl, hd5⟩
         have HKn := Lib.hid (Kp.on (by first | exact HKd.out | exact Kp.on HKd.out ((Below.refl _ _).alloc (Nat.le_refl _) _)) hd5)
         (try
           have hG5 : w5.heap[w9.heap.size]? = some (Obj.cells (slA 0 0 0 0) 62 (0, 0)) := (hd5.block _ (by simp)).trans (heap_alloc_last w9.drew _)
           have hc0 : w5.cell? ⟨w9.heap.size, 0, none⟩ = some (.int .u32 0) := Err.cell_of_blk hG5 0
           have hc1 : w5.cell? ⟨w9.heap.size, 1, none⟩ = some (.int .i64 0) := Err.cell_of_blk hG5 1
           have hc2 : w5.cell? ⟨w9.heap.size, 2, none⟩ = some (.int .i64 0) := Err.cell_of_blk hG5 2
           have hc3 : w5.cell? ⟨w9.heap.size, 3, none⟩ = some (.int .u32 0) := Err.cell_of_blk hG5 3
           have hf0 : w5.frozen? ⟨w9.heap.size, 0, none⟩ = false := by simp [World.frozen?, hG5]
           have hf1 : w5.frozen? ⟨w9.heap.size, 1, none⟩ = false := by simp [World.frozen?, hG5]
           have hf2 : w5.frozen? ⟨w9.heap.size, 2, none⟩ = false := by simp [World.frozen?, hG5]
           have hf3 : w5.frozen? ⟨w9.heap.size, 3, none⟩ = false := by simp [World.frozen?, hG5])
         clear hd5)
      | fail)
  · with_reducible refine tail.out _ _ ?_ ?_ ?_
    · exact Kp.on HKn.out ((Below.refl _ _).alloc (Nat.le_refl _) _)
    · exact HKn.out.2.2.2.size
    · exact heap_alloc_last _ _
  · with_reducible refine tail.out _ _ ?_ ?_ ?_
    · with_reducible exact Kp.set4 HK.out HKn.out _ _ _ _
    · exact Nat.le_refl _
    · with_reducible exact set4 hG5 _ _ _ _
end Go.Proofs.YtaodgnladjafoaaGreatDoor.Slt
