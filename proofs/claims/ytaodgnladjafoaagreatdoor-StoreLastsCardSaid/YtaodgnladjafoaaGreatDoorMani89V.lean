/- Several texts in one: words that the proof of the law uses. -/
import Derived.Test.YtaodgnladjafoaaGreatDoorMani67V
set_option linter.unusedVariables false
set_option linter.unusedSimpArgs false
namespace Go.Proofs.YtaodgnladjafoaaGreatDoor.Mni
open Go.RowKit Go.Proofs.YtaodgnladjafoaaGreatDoorW.PrintWords Go.Proofs.YtaodgnladjafoaaGreatDoorW.PrintLast Go.Proofs.YtaodgnladjafoaaGreatDoorW.PrintMore Go.Proofs.YtaodgnladjafoaaGreatDoor.Md Go.Proofs.YtaodgnladjafoaaGreatDoor.QStoreLasts Go.Proofs.YtaodgnladjafoaaGreatDoor.CdM
open Go.Proofs.YtaodgnladjafoaaGreatDoor.Err (Laid IsErr code_nil code_c Chain at_some at_nil)
def ra (r : Rf) : Array Value := #[.int .i64 r.f0, .int .i64 r.f1, .int .u32 r.f2]
theorem ra_one (r : Rf) : (ra r).all (·.oneCell') = true := by simp [ra, Value.oneCell']
theorem run_loadR (w : World) (b : Nat) (r : Rf) (h : w.heap[b]? = some (Obj.cells (ra r) 36 (0, 0))) : (Instr.loadAt 36 (.pointer (some ⟨b, 0, none⟩))).run Tryz.prog w = .ok (.agg (ra r)) w := by
 simp only [Instr.loadAt, Instr.sureAddr, Sem.run_bind, Sem.run_pure, Result.andThen_ok]
 exact run_loadVar_row w b 36 36 (ra r) (0, 0) _ h Tryz.underlying36 rfl (by kernel_rfl)
theorem exec_loadR {ρ : Operand → Value} {oo : Oper} {x : Operand} {W : World} {b : Nat} {r : Rf} (ho : oo.op = .load 36 x) (hx : ρ x = .pointer (some ⟨b, 0, none⟩)) (hp : W.heap[b]? = some (Obj.cells (ra r) 36 (0, 0))) : (execOp ρ oo).run Tryz.prog W = .ok (.value (.agg (ra r))) W := by
 unfold execOp; simp only [ho, hx, run_loadR W b r hp, Sem.run_bind, Sem.run_pure, Result.andThen_ok]
theorem sizeR : (Tryz.prog.info? 36).map (·.size) = some 3 := by kernel_rfl
section
variable {ops : Array Oper} {rest : List Oper} {oo : Oper} {a : Go.Act} {w : World} {Q : Exit → Go.Act → World → Prop}
theorem wl_loadR (b : Nat) (r : Rf) (hp : w.heap[b]? = some (Obj.cells (ra r) 36 (0, 0))) (hgd : oo.guard = none) (p_ : Operand) (ho : oo.op = .load 36 p_) (hx : a.eval p_ = .pointer (some ⟨b, 0, none⟩))
  (h : wpList Tryz.prog ops Q rest (a.put oo.dst (.agg (ra r))) w) : wpList Tryz.prog ops Q (oo :: rest) a w :=
 Kd.event_run hgd (exec_loadR ho hx hp) h
theorem wl_storeR (b : Nat) (cs0 : Array Value) (hcs : cs0.size = 3) (r : Rf) (hp : w.heap[b]? = some (Obj.cells cs0 36 (0, 0))) (hgd : oo.guard = none) (p_ q_ : Operand) (ho : oo.op = .store 36 p_ q_) (hx : a.eval p_ = .pointer (some ⟨b, 0, none⟩)) (hy : a.eval q_ = .agg (ra r))
  (h : wpList Tryz.prog ops Q rest (a.put oo.dst undef) (w.setRow b (ra r))) : wpList Tryz.prog ops Q (oo :: rest) a w :=
 wpList_plain hgd fun K hK => by
  have hrun : (Instr.storeAt 36 (.pointer (some ⟨b, 0, none⟩)) (.agg (ra r))).run Tryz.prog w = .ok () (w.setRow b (ra r)) := by
   simp only [Instr.storeAt, Instr.sureAddr, Sem.run_bind, Sem.run_pure, Result.andThen_ok]
   exact run_storeVar_row w b 36 36 cs0 (ra r) hp sizeR (by rw [hcs]; rfl) (ra_one r)
  unfold Oper.wp execOp
  simp only [ho, hx, hy, Sem.run_bind, hrun, Result.andThen_ok]
  exact hK _ _ h
theorem wl_storeRn {W : World} (cs0 : Array Value) (hcs : cs0.size = 3) (r : Rf) (hgd : oo.guard = none) (p_ q_ : Operand) (ho : oo.op = .store 36 p_ q_) (hx : a.eval p_ = .pointer (some ⟨W.heap.size, 0, none⟩)) (hy : a.eval q_ = .agg (ra r))
  (h : wpList Tryz.prog ops Q rest (a.put oo.dst undef) (W.alloc (Obj.cells (ra r) 36 (0, 0)))) : wpList Tryz.prog ops Q (oo :: rest) a (W.alloc (Obj.cells cs0 36 (0, 0))) := by
 refine wl_storeR W.heap.size cs0 hcs r (heap_alloc_last _ _) hgd p_ q_ ho hx hy ?_
 rw [World.setRow_alloc_new]
 exact h
theorem wl_allocR (hgd : oo.guard = none) (ho : oo.op = .alloc 36) (h : wpList Tryz.prog ops Q rest (a.put oo.dst (.pointer (some ⟨w.heap.size, 0, none⟩))) (w.alloc (Obj.cells #[.int .i64 0, .int .i64 0, .int .u32 0] 36 (0, 0)))) : wpList Tryz.prog ops Q (oo :: rest) a w :=
 Kd.event_run hgd (by unfold execOp; simp only [ho]; kernel_rfl) h
end
theorem litI (x : Int) (W : World) : (Instr.buildSlice 40 1 #[(0, .int .i64 x)]).run Tryz.prog W = .ok (.slice (some ⟨W.heap.size, 0, none⟩) 1 1) (W.alloc (.cells #[.int .i64 x] 3 (0, 0))) := by kernel_rfl
theorem exec_litI {a : Operand → Value} {o : Oper} {x : Operand} {p : Int} (ho : o.op = .buildSlice 40 1 #[(0, x)]) (hx : a x = .int .i64 p) (W : World) : (execOp a o).run Tryz.prog W = .ok (.value (.slice (some ⟨W.heap.size, 0, none⟩) 1 1)) (W.alloc (.cells #[.int .i64 p] 3 (0, 0))) := by
 have h2 := litI p W
 unfold execOp
 simp only [ho]
 have e : (#[((0 : Nat), x)] : Array (Nat × Operand)).map (fun (y : Nat × Operand) => (y.1, a y.2)) = #[(0, .int .i64 p)] := by simp [hx]
 show (Sem.run _ (do let v ← Instr.buildSlice _ 1 (Array.map _ _); _) _) = _
 rw [e, Sem.run_bind, h2]
 rfl
theorem litI2 (x y : Int) (W : World) : (Instr.buildSlice 40 2 #[(0, .int .i64 x), (1, .int .i64 y)]).run Tryz.prog W = .ok (.slice (some ⟨W.heap.size, 0, none⟩) 2 2) (W.alloc (.cells #[.int .i64 x, .int .i64 y] 3 (0, 0))) := by kernel_rfl
theorem exec_litI2 {a : Operand → Value} {o : Oper} {x y : Operand} {p q : Int} (ho : o.op = .buildSlice 40 2 #[(0, x), (1, y)]) (hx : a x = .int .i64 p) (hy : a y = .int .i64 q) (W : World) : (execOp a o).run Tryz.prog W = .ok (.value (.slice (some ⟨W.heap.size, 0, none⟩) 2 2)) (W.alloc (.cells #[.int .i64 p, .int .i64 q] 3 (0, 0))) := by
 have h2 := litI2 p q W
 unfold execOp
 simp only [ho]
 have e : (#[((0 : Nat), x), (1, y)] : Array (Nat × Operand)).map (fun (y : Nat × Operand) => (y.1, a y.2)) = #[(0, .int .i64 p), (1, .int .i64 q)] := by simp [hx, hy]
 show (Sem.run _ (do let v ← Instr.buildSlice _ 2 (Array.map _ _); _) _) = _
 rw [e, Sem.run_bind, h2]
 rfl
section
variable {ops : Array Oper} {rest : List Oper} {o : Oper} {a : Go.Act} {w : World} {Q : Exit → Go.Act → World → Prop}
theorem wl_litI (p : Int) (hgd : o.guard = none) (x : Operand) (ho : o.op = .buildSlice 40 1 #[(0, x)]) (hx : a.eval x = .int .i64 p) (h : wpList Tryz.prog ops Q rest (a.put o.dst (.slice (some ⟨w.heap.size, 0, none⟩) 1 1)) (w.alloc (.cells #[.int .i64 p] 3 (0, 0)))) : wpList Tryz.prog ops Q (o :: rest) a w :=
 Kd.event_run hgd (exec_litI ho hx w) h
theorem wl_loadRf (p : Addr) (r : Rf) (h0 : w.cell? p = some (.int .i64 r.f0)) (h1 : w.cell? ⟨p.block, p.off + 1, none⟩ = some (.int .i64 r.f1)) (h2 : w.cell? ⟨p.block, p.off + 2, none⟩ = some (.int .u32 r.f2)) (hgd : o.guard = none) (p_ : Operand) (ho : o.op = .load 36 p_) (hx : a.eval p_ = .pointer (some p))
  (h : wpList Tryz.prog ops Q rest (a.put o.dst (.agg (ra r))) w) : wpList Tryz.prog ops Q (o :: rest) a w := by
 refine Kd.event_run (v := .agg (ra r)) (w1 := w) hgd ?_ h
 have hl : (loadCells p 3).run Tryz.prog w = .ok (ra r) w := run_loadCells_list (P := Tryz.prog) w p [.int .i64 r.f0, .int .i64 r.f1, .int .u32 r.f2] (fun j v hj => by
  rcases j with _ | _ | _ | j
  ·cases hj; exact h0
  ·cases hj; rw [show p.add (0 + 1) = ⟨p.block, p.off + 1, none⟩ from by unfold Addr.add; rw [if_neg (by omega)]]; exact h1
  ·cases hj; rw [show p.add (0 + 1 + 1) = ⟨p.block, p.off + 2, none⟩ from by unfold Addr.add; rw [if_neg (by omega)]]; exact h2
  ·simp at hj)
 have hagg := Tryz.isAgg36
 have hi := sizeR
 have hrun : (Instr.loadAt 36 (.pointer (some p))).run Tryz.prog w = .ok (.agg (ra r)) w := by
  cases hq : Tryz.prog.info? 36 with
  | none => rw [hq] at hi; simp at hi
  | some i =>
   have hs : i.size = 3 := by rw [hq] at hi; simpa using hi
   simp only [Instr.loadAt, Instr.sureAddr, Sem.run_bind, Sem.run_pure, Result.andThen_ok]
   simp [loadVar, Sem.run_bind, hagg, sizeOf, typeInfo, hq, hs, hl]
 unfold execOp
 simp only [ho, hx, hrun, Sem.run_bind, Sem.run_pure, Result.andThen_ok]
end
theorem c_ints {w : World} {g : Nat} {cs : Array Value} {t : TypeId} (l : List Int) (h : w.heap[g]? = some (.cells cs t (0, 0))) (hl : cs.toList = l.map (Value.int .i64)) (hn : 0 < l.length) (hm : l.length ≤ 1000) : Kd.C (Kd.int .i64) w (some ⟨g, 0, none⟩) l.length l := by
 refine ⟨rfl, by omega, fun _ => ⟨⟨g, 0, none⟩, rfl, fun j x hj => ⟨[.int .i64 x], rfl, rfl, fun i u hi => ?_⟩⟩⟩
 have hi0 : i = 0 := by
  have := (List.getElem?_eq_some_iff.1 hi).1
  simp at this; exact this
 subst hi0
 cases hi
 have e : (⟨g, 0, none⟩ : Addr).add (j * (Kd.int .i64).sz + 0) = ⟨g, j, none⟩ := by
  show (⟨g, 0, none⟩ : Addr).add (j * 1 + 0) = _
  unfold Addr.add
  by_cases h0 : j = 0
  ·subst h0; rfl
  ·rw [if_neg (by omega)]; simp
 rw [e, Err.cell_of_blk h j, ← Array.getElem?_toList, hl, List.getElem?_map, hj]
 rfl
theorem refsS_snoc (l : List Rf) (r : Rf) : refsS (l ++ [r]) = refsS l ++ refS r := by
 induction l with
 | nil => show refS r ++ (⟨#[]⟩ : ByteArray) = ⟨#[]⟩ ++ refS r; rw [append_empty, empty_append]
 | cons x l ih => show refS x ++ refsS (l ++ [r]) = (refS x ++ refsS l) ++ refS r; rw [ih, ByteArray.append_assoc]
theorem snapsS_snoc (t : List (List Int)) (l : List Int) : snapsS (t ++ [l]) = snapsS t ++ (numsS [(l.length : Int)] ++ numsS l) := by
 induction t with
 | nil => show (numsS [(l.length : Int)] ++ numsS l) ++ (⟨#[]⟩ : ByteArray) = ⟨#[]⟩ ++ (numsS [(l.length : Int)] ++ numsS l); rw [append_empty, empty_append]
 | cons x t ih => show (numsS [(x.length : Int)] ++ numsS x) ++ snapsS (t ++ [l]) = ((numsS [(x.length : Int)] ++ numsS x) ++ snapsS t) ++ (numsS [(l.length : Int)] ++ numsS l); simp only [ih, ByteArray.append_assoc]
theorem one_nat (n : Nat) (h : n ≤ 1000) : ∀ x ∈ [(n : Int)], 0 ≤ x ∧ x ≤ 4611686018427387904 := fun x hx => by
 rw [List.mem_singleton.1 hx]; omega
theorem nums1_c (g : Nat) (p : Int) (w : World) (hp : 0 ≤ p ∧ p ≤ 4611686018427387904) (h : w.heap[g]? = some (.cells #[.int .i64 p] 3 (0, 0))) (s : ByteArray) (hs : Hid (numsS [p] = s)) :
  Calls Tryz.prog 63 #[.slice (some ⟨g, 0, none⟩) 1 1] w fun e w' => e = .returned (.string s) ∧ Below w.heap.size w w' :=
 nums_c (some ⟨g, 0, none⟩) 1 [p] w (fun x hx => by rw [List.mem_singleton.1 hx]; exact hp) (by simp) (by simp) (c_ints [p] h rfl (by simp) (by simp)) s hs
theorem nums2_c (g : Nat) (p q : Int) (w : World) (hp : ∀ x ∈ [p, q], 0 ≤ x ∧ x ≤ 4611686018427387904) (h : w.heap[g]? = some (.cells #[.int .i64 p, .int .i64 q] 3 (0, 0))) (s : ByteArray) (hs : Hid (numsS [p, q] = s)) :
  Calls Tryz.prog 63 #[.slice (some ⟨g, 0, none⟩) 2 2] w fun e w' => e = .returned (.string s) ∧ Below w.heap.size w w' :=
 nums_c (some ⟨g, 0, none⟩) 2 [p, q] w hp (by simp) (by simp) (c_ints [p, q] h rfl (by simp) (by simp)) s hs
set_option maxHeartbeats 8000000 in
set_option maxRecDepth 100000 in
theorem lay_yes (o : Loc) (m : Man) (size : Int) (w : World) (h : Hid (At w o m)) (hm : m.snaps.length ≤ 1000000) (hr : m.refs.length ≤ 1000000) (hR : Hid (rightM m size = true)) (hF : Hid (Fits m)) :
  Calls Tryz.prog 38 #[.agg (o.a m), .int .i64 size] w fun e w' => e = .returned (.tuple #[.string (layM m), .nilIface]) ∧ Below w.heap.size w w' := by
 obtain ⟨T, hT⟩ : ∃ T, layM m = T := ⟨_, rfl⟩
 have HT := Lib.hid hT
 rw [hT]
 clear hT
 have hd0 : Below w.heap.size w (w.alloc (Obj.cells (o.a m) 43 (0, 0))) := (Below.refl _ _).alloc (Nat.le_refl _) _
 have H1 := Lib.hid (h.out.on hd0)
 have HB1 := Lib.hid hd0
 have HX1 := Lib.hid (heap_alloc_last w (Obj.cells (o.a m) 43 (0, 0)))
 go_enter Tryz.func38, Tryz.ntmps38
 go_upto_region 1 with fail
 obtain ⟨X, hX⟩ : ∃ X, w.heap.size = X := ⟨_, rfl⟩
 rw [hX] at HX1
 simp only [hX]
 generalize hw1 : w.alloc (Obj.cells (o.a m) 43 (0, 0)) = w1 at *
 clear hw1 hd0 h hX
 go_wp2_with (first | (refine wl_loadM X o m HX1.out rfl _ rfl rfl ?_))
 refine (right_c o m size w1 H1 hm hr).mono ?_
 rintro e w2 ⟨rfl, hd⟩
 rw [hR.out]
 have H2 := Lib.hid (H1.out.on hd)
 have HB2 := below_to HB1 (Nat.le_refl _) hd
 have HX2 := blk_to HX1 hd
 clear hd H1 HB1 HX1
 obtain ⟨c0, _, _, _⟩ := box_cells HX2
 have hn64 := hF.out.2.2.2.2.2.1
 have hs8 := hF.out.2.2.2.2.2.2.1
 have hq16 := hF.out.2.2.2.2.2.2.2
 obtain ⟨n, hn⟩ : ∃ n, m.refs.length = n := ⟨_, rfl⟩
 rw [hn] at c0 hn64
 have HN := Lib.hid hn
 clear hn
 go_wp2_with (first | (refine wl_litI (n : Int) rfl _ rfl rfl ?_))
 have hd : Below w2.heap.size w2 (w2.alloc (.cells #[.int .i64 (n : Int)] 3 (0, 0))) := (Below.refl _ _).alloc (Nat.le_refl _) _
 have hL := heap_alloc_last w2 (.cells #[.int .i64 (n : Int)] 3 (0, 0))
 have hC := c_ints [(n : Int)] hL rfl (by simp) (by simp)
 have H3 := Lib.hid (H2.out.on hd)
 have HB3 := below_to HB2 (Nat.le_refl _) hd
 have HX3 := blk_to HX2 hd
 obtain ⟨s0, hs0⟩ : ∃ s, numsS [(n : Int)] = s := ⟨_, rfl⟩
 have hs0s := numsS_size [(n : Int)] (one_nat n (by omega))
 rw [hs0] at hs0s
 simp only [List.length_singleton] at hs0s
 have HS0 := Lib.hid hs0
 generalize (w2.alloc (.cells #[.int .i64 (n : Int)] 3 (0, 0))) = w3 at *
 refine (nums_c _ 1 [(n : Int)] w3 (one_nat n (by omega)) (by simp) (by simp) hC s0 HS0).mono ?_
 rintro e w4 ⟨rfl, hd4⟩
 have H4 := Lib.hid (H3.out.on hd4)
 have HB4 := below_to HB3 (Nat.le_refl _) hd4
 have HX4 := blk_to HX3 hd4
 clear hd hd4 hL hC hs0 H2 HB2 HX2 H3 HB3 HX3 c0
 obtain ⟨c0, _, _, _⟩ := box_cells HX4
 obtain ⟨P0, hP0⟩ : ∃ P, o.p0 = P := ⟨_, rfl⟩
 rw [HN.out, hP0] at c0
 have HP0 := Lib.hid hP0
 clear hP0
 go_wp2_with fail
 clear c0
 go_loopg [6, 25] n (fun kq v6 v25 wr => ∃ (j : Nat) (s : ByteArray), v6 = .string s ∧ v25 = .int .i64 (j : Int) ∧ kq + j = n ∧ s.size ≤ 9 + 27 * j ∧ Hid (s = s0 ++ refsS (m.refs.take j)) ∧ Hid (At wr o m) ∧ Hid (Below w.heap.size w wr) ∧ Hid (wr.heap[X]? = some (Obj.cells (o.a m) 43 (0, 0))))
 case atStart => exact ⟨0, s0, rfl, rfl, by omega, by omega, Lib.hid (by show s0 = s0 ++ (⟨#[]⟩ : ByteArray); rw [append_empty]), H4, HB4, HX4⟩
 case round =>
  clear H4 HB4 HX4
  obtain ⟨j, s, rfl, rfl, hk, hss, HS, H, HB, HX⟩ := hrel
  generalize wr = w5 at *
  cases gk with
  | zero =>
   have hj : j = n := by omega
   have c1 : decide ((j : Int) < (n : Int)) = false := decide_eq_false (by omega)
   have c1b : decide (j < n) = false := decide_eq_false (by omega)
   have HS2 := Lib.hid (show s = s0 ++ refsS m.refs by rw [HS.out, hj, ← HN.out, List.take_length])
   have hss2 : s.size ≤ 2000 := by omega
   clear hj hk HS hss
   obtain ⟨t1, ht1⟩ : ∃ t, numsS [(m.stack.length : Int)] = t := ⟨_, rfl⟩
   obtain ⟨t2, ht2⟩ : ∃ t, numsS m.stack = t := ⟨_, rfl⟩
   obtain ⟨t3, ht3⟩ : ∃ t, numsS [m.upper + 1, (m.snaps.length : Int)] = t := ⟨_, rfl⟩
   have hup := hF.out.2.2.1
   have hstk : ∀ x ∈ m.stack, 0 ≤ x ∧ x ≤ 4611686018427387904 := hF.out.2.1
   have hup2 := hF.out.2.2.2.1
   have htwo : ∀ x ∈ [m.upper + 1, (m.snaps.length : Int)], 0 ≤ x ∧ x ≤ 4611686018427387904 := fun x hx => by
    rcases List.mem_cons.1 hx with rfl | hx
    ·omega
    ·rw [List.mem_singleton.1 hx]; omega
   have l1 := numsS_size [(m.stack.length : Int)] (one_nat _ (by omega))
   have l2 := numsS_size m.stack hF.out.2.1
   have l3 := numsS_size [m.upper + 1, (m.snaps.length : Int)] htwo
   rw [ht1] at l1
   rw [ht2] at l2
   rw [ht3] at l3
   simp only [List.length_cons, List.length_nil] at l1 l3
   have HT1 := Lib.hid ht1
   have HT2 := Lib.hid ht2
   have HT3 := Lib.hid ht3
   have q6 : IntKind.i64.wrap (m.upper + 1) = m.upper + 1 := IntWalk.i64_in _ (by omega)
   have k1 : (9223372036854775807 < t1.size + t2.size) = False := eq_false (by omega)
   have k2 : (9223372036854775807 < t1.size + t2.size + t3.size) = False := eq_false (by omega)
   have k3 : (9223372036854775807 < s.size + (t1.size + t2.size + t3.size)) = False := eq_false (by omega)
   clear ht1 ht2 ht3
   go_wp2_with fail
   have HQ := Lib.hid (show Below w5.heap.size w5 w5.drew from (Below.refl _ _).drew)
   have hS := fun {w' : World} (k : Below w5.heap.size w5 w') => (show w'.cell? ⟨X, 1, none⟩ = some (.slice o.p1 m.stack.length o.c1) ∧ w'.cell? ⟨X, 2, none⟩ = some (.int .i64 m.upper) ∧ w'.cell? ⟨X, 3, none⟩ = some (.slice o.p3 m.snaps.length o.c3) from
    ⟨(box_cells (blk_to HX k)).2.1, (box_cells (blk_to HX k)).2.2.1, (box_cells (blk_to HX k)).2.2.2⟩)
   refine start_ (n := 21) (S := fun w' => w'.cell? ⟨X, 1, none⟩ = some (.slice o.p1 m.stack.length o.c1) ∧ w'.cell? ⟨X, 2, none⟩ = some (.int .i64 m.upper) ∧ w'.cell? ⟨X, 3, none⟩ = some (.slice o.p3 m.snaps.length o.c3)) (ds := []) (bzz 21 0) (by kernel_rfl) rfl rfl ⟨(hS HQ.out).1, (hS HQ.out).2.1, (hS HQ.out).2.2⟩ (fun hHeld => ?_)
   refine rpz 0 34 ?_ (bzz 21 1) rfl rfl ?_ ?_ ?_ ?_
   rotate_left
   ·intro w'
    go_simp
    with_reducible rfl
   rotate_left
   ·simp only [zaP, zsA, zsZ, zsS, i64_w, i32_w]
    rfl
   refine rpz 1 35 ?_ (bzz 21 3) rfl rfl ?_ ?_ ?_ ?_
   rotate_left
   ·intro w'
    go_simp
    with_reducible rfl
   rotate_left
   ·simp only [zaP, zsA, zsZ, zsS, i64_w, i32_w]
    rfl
   refine rpz 6 40 ?_ (bzz 21 67) rfl rfl ?_ ?_ ?_ ?_
   rotate_left
   ·intro w'
    go_simp
    with_reducible rfl
   rotate_left
   ·simp only [zaP, zsA, zsZ, zsS, i64_w, i32_w]
    rfl
   refine rpz 10 44 ?_ (bzz 21 1091) rfl rfl ?_ ?_ ?_ ?_
   rotate_left
   ·intro w'
    go_simp
    with_reducible rfl
   rotate_left
   ·simp only [zaP, zsA, zsZ, zsS, i64_w, i32_w]
    rfl
   refine rpz 13 47 ?_ (bzz 21 9283) rfl rfl ?_ ?_ ?_ ?_
   rotate_left
   ·intro w'
    go_simp
    with_reducible rfl
   rotate_left
   ·simp only [zaP, zsA, zsZ, zsS, i64_w, i32_w]
    rfl
   refine rtz 2 36 ?_ (bzz 21 9287) rfl rfl hHeld ?_ ?_ ?_ ?_
   rotate_left
   ·rintro w' ⟨s0, s1, s2⟩
    go_simp
    with_reducible rfl
   rotate_left
   ·simp only [zaP, zsA, zsZ, zsS, i64_w, i32_w]
    rfl
   refine rpz 3 37 ?_ (bzz 21 9295) rfl rfl ?_ ?_ ?_ ?_
   rotate_left
   ·intro w'
    go_simp
    with_reducible rfl
   rotate_left
   ·simp only [zaP, zsA, zsZ, zsS, i64_w, i32_w]
    rfl
   refine rtz 7 41 ?_ (bzz 21 9423) rfl rfl hHeld ?_ ?_ ?_ ?_
   rotate_left
   ·rintro w' ⟨s0, s1, s2⟩
    go_simp
    with_reducible rfl
   rotate_left
   ·simp only [zaP, zsA, zsZ, zsS, i64_w, i32_w]
    rfl
   refine rtz 11 45 ?_ (bzz 21 11471) rfl rfl hHeld ?_ ?_ ?_ ?_
   rotate_left
   ·rintro w' ⟨s0, s1, s2⟩
    go_simp
    with_reducible rfl
   rotate_left
   ·simp only [zaP, zsA, zsZ, zsS, i64_w, i32_w]
    rfl
   refine rpz 12 46 ?_ (bzz 21 15567) rfl rfl ?_ ?_ ?_ ?_
   rotate_left
   ·intro w'
    go_simp
    with_reducible rfl
   rotate_left
   ·simp only [zaP, zsA, zsZ, zsS, i64_w, i32_w]
    rfl
   refine rtz 14 48 ?_ (bzz 21 31951) rfl rfl hHeld ?_ ?_ ?_ ?_
   rotate_left
   ·rintro w' ⟨s0, s1, s2⟩
    go_simp
    with_reducible rfl
   rotate_left
   ·simp only [zaP, zsA, zsZ, zsS, i64_w, i32_w]
    rfl
   refine rpz 15 49 ?_ (bzz 21 64719) rfl rfl ?_ ?_ ?_ ?_
   rotate_left
   ·intro w'
    go_simp
    with_reducible rfl
   rotate_left
   ·simp only [zaP, zsA, zsZ, zsS, i64_w, i32_w]
    rfl
   refine join_ (σ := Nat × Nat) 4 #[true, true, true, true, true, true, true, true, true, true, true, true, true, true, true, true, true, false, false, false, false] (fun s => [(38, .slice (some ⟨s.1, 0, none⟩) 1 1), (39, .string t1), (42, .string t2), (43, .string (t1 ++ t2)), (50, .slice (some ⟨s.2, 0, none⟩) 2 2)]) (fun s w' => Below w5.heap.size w5 w' ∧ w'.heap[s.2]? = some (Obj.cells #[.int .i64 (m.upper + 1), .int .i64 (m.snaps.length : Int)] 3 (0, 0))) ?_ ?_
   rotate_left
   ·intro hCont
    refine two_ (i := 4) (j := 16) (Ni := some 38) (Nj := some 50) (bzz 21 64735) (bzz 21 130255) rfl rfl rfl rfl (by kernel_rfl) (by decide) (by decide) (fun K hK => ?_) (fun K hK => ?_)
    ·skip
     refine value_ (by rfl) rfl (exec_litI rfl rfl _) ?_
     have hd : Below (w5.drew).heap.size w5.drew (World.alloc w5.drew (Obj.cells #[.int .i64 (m.stack.length : Int)] 3 (0, 0))) := (Below.refl _ _).alloc (Nat.le_refl _) _
     have HL4_4 := Lib.hid (heap_alloc_last w5.drew (Obj.cells #[.int .i64 (m.stack.length : Int)] 3 (0, 0)))
     have HQ4 := Lib.hid (HQ.out.trans (hd.mono HQ.out.size))
     generalize (World.alloc w5.drew (Obj.cells #[.int .i64 (m.stack.length : Int)] 3 (0, 0))) = z4 at *
     clear hd
     refine hK.out _ _ ⟨(hS HQ4.out).1, (hS HQ4.out).2.1, (hS HQ4.out).2.2⟩ (fun hHeld => ?_)
     clear hK K
     refine norm_ (a' := ?_) ?_ ?_
     rotate_left
     ·show Act.put _ (some 38) _ = _
      simp only [zaP, zsA, zsZ, zsS, i64_w, i32_w]
      rfl
     refine two_ (i := 5) (j := 16) (Ni := some 39) (Nj := some 50) (bzz 21 64767) (bzz 21 130271) rfl rfl rfl rfl (by kernel_rfl) (by decide) (by decide) (fun K hK => ?_) (fun K hK => ?_)
     ·skip
      refine goes_ Tryz.func63 (by kernel_rfl) rfl #[.slice (some ⟨(w5.drew).heap.size, 0, none⟩) 1 1] (by rfl) rfl rfl (by simp only [List.map_toArray, List.map_cons, List.map_nil]; rfl) ?_
      with_reducible refine (nums1_c ((w5.drew).heap.size) (m.stack.length : Int) _ (by omega) HL4_4.out t1 HT1).mono ?_
      rintro e z4_5 ⟨rfl, hd⟩
      refine ⟨_, rfl, ?_⟩
      have HQ4_5 := Lib.hid (HQ4.out.trans (hd.mono HQ4.out.size))
      have HL4_4_5 := Lib.hid ((hd.block _ (Err.lt_of_block HL4_4.out)).trans HL4_4.out)
      clear hd
      refine hK.out _ _ ⟨(hS HQ4_5.out).1, (hS HQ4_5.out).2.1, (hS HQ4_5.out).2.2⟩ (fun hHeld => ?_)
      clear hK K
      refine norm_ (a' := ?_) ?_ ?_
      rotate_left
      ·show Act.put _ (some 39) _ = _
       simp only [zaP, zsA, zsZ, zsS, i64_w, i32_w]
       rfl
      refine two_ (i := 8) (j := 16) (Ni := some 42) (Nj := some 50) (bzz 21 65023) (bzz 21 130303) rfl rfl rfl rfl (by kernel_rfl) (by decide) (by decide) (fun K hK => ?_) (fun K hK => ?_)
      ·skip
       refine goes_ Tryz.func63 (by kernel_rfl) rfl #[.slice o.p1 m.stack.length o.c1] (by rfl) rfl rfl (by simp only [List.map_toArray, List.map_cons, List.map_nil]; rfl) ?_
       with_reducible refine (nums_c o.p1 o.c1 m.stack _ hstk (by omega) H.out.sc (H.out.on HQ4_5.out).s t2 HT2).mono ?_
       rintro e z4_5_8 ⟨rfl, hd⟩
       refine ⟨_, rfl, ?_⟩
       have HQ4_5_8 := Lib.hid (HQ4_5.out.trans (hd.mono HQ4_5.out.size))
       have HL4_4_5_8 := Lib.hid ((hd.block _ (Err.lt_of_block HL4_4_5.out)).trans HL4_4_5.out)
       clear hd
       refine hK.out _ _ ⟨(hS HQ4_5_8.out).1, (hS HQ4_5_8.out).2.1, (hS HQ4_5_8.out).2.2⟩ (fun hHeld => ?_)
       clear hK K
       refine norm_ (a' := ?_) ?_ ?_
       rotate_left
       ·show Act.put _ (some 42) _ = _
        simp only [zaP, zsA, zsZ, zsS, i64_w, i32_w]
        rfl
       refine rpz 9 43 ?_ (bzz 21 65535) rfl rfl ?_ ?_ ?_ ?_
       rotate_left
       ·intro w'
        go_simp
        with_reducible rfl
       rotate_left
       ·simp only [zaP, zsA, zsZ, zsS, i64_w, i32_w]
        rfl
       refine roz 16 50 (bzz 21 131071) rfl rfl (fun K hK => ?_)
       refine value_ (by rfl) rfl (exec_litI2 rfl rfl rfl _) ?_
       have hd : Below (z4_5_8).heap.size z4_5_8 (World.alloc z4_5_8 (Obj.cells #[.int .i64 (m.upper + 1), .int .i64 (m.snaps.length : Int)] 3 (0, 0))) := (Below.refl _ _).alloc (Nat.le_refl _) _
       have HL16_4_5_8_16 := Lib.hid (heap_alloc_last z4_5_8 (Obj.cells #[.int .i64 (m.upper + 1), .int .i64 (m.snaps.length : Int)] 3 (0, 0)))
       have HQ4_5_8_16 := Lib.hid (HQ4_5_8.out.trans (hd.mono HQ4_5_8.out.size))
       have HL4_4_5_8_16 := Lib.hid ((hd.block _ (Err.lt_of_block HL4_4_5_8.out)).trans HL4_4_5_8.out)
       generalize (World.alloc z4_5_8 (Obj.cells #[.int .i64 (m.upper + 1), .int .i64 (m.snaps.length : Int)] 3 (0, 0))) = z4_5_8_16 at *
       clear hd
       refine hK.out _ _ ⟨(hS HQ4_5_8_16.out).1, (hS HQ4_5_8_16.out).2.1, (hS HQ4_5_8_16.out).2.2⟩ (fun hHeld => ?_)
       clear hK K
       refine norm_ (a' := ?_) ?_ ?_
       rotate_left
       ·show Act.put _ (some 50) _ = _
        simp only [zaP, zsA, zsZ, zsS, i64_w, i32_w]
        rfl
       exact norm_ (by simp only [putAll, Act.put, List.setIfInBounds_toArray, List.set_cons_zero, List.set_cons_succ]) (hCont (((w5.drew).heap.size, (z4_5_8).heap.size) : Nat × Nat) _ ⟨HQ4_5_8_16.out, HL16_4_5_8_16.out⟩)
      ·skip
       refine value_ (by rfl) rfl (exec_litI2 rfl rfl rfl _) ?_
       have hd : Below (z4_5).heap.size z4_5 (World.alloc z4_5 (Obj.cells #[.int .i64 (m.upper + 1), .int .i64 (m.snaps.length : Int)] 3 (0, 0))) := (Below.refl _ _).alloc (Nat.le_refl _) _
       have HL16_4_5_16 := Lib.hid (heap_alloc_last z4_5 (Obj.cells #[.int .i64 (m.upper + 1), .int .i64 (m.snaps.length : Int)] 3 (0, 0)))
       have HQ4_5_16 := Lib.hid (HQ4_5.out.trans (hd.mono HQ4_5.out.size))
       have HL4_4_5_16 := Lib.hid ((hd.block _ (Err.lt_of_block HL4_4_5.out)).trans HL4_4_5.out)
       generalize (World.alloc z4_5 (Obj.cells #[.int .i64 (m.upper + 1), .int .i64 (m.snaps.length : Int)] 3 (0, 0))) = z4_5_16 at *
       clear hd
       refine hK.out _ _ ⟨(hS HQ4_5_16.out).1, (hS HQ4_5_16.out).2.1, (hS HQ4_5_16.out).2.2⟩ (fun hHeld => ?_)
       clear hK K
       refine norm_ (a' := ?_) ?_ ?_
       rotate_left
       ·show Act.put _ (some 50) _ = _
        simp only [zaP, zsA, zsZ, zsS, i64_w, i32_w]
        rfl
       refine roz 8 42 (bzz 21 130559) rfl rfl (fun K hK => ?_)
       refine goes_ Tryz.func63 (by kernel_rfl) rfl #[.slice o.p1 m.stack.length o.c1] (by rfl) rfl rfl (by simp only [List.map_toArray, List.map_cons, List.map_nil]; rfl) ?_
       with_reducible refine (nums_c o.p1 o.c1 m.stack _ hstk (by omega) H.out.sc (H.out.on HQ4_5_16.out).s t2 HT2).mono ?_
       rintro e z4_5_16_8 ⟨rfl, hd⟩
       refine ⟨_, rfl, ?_⟩
       have HQ4_5_16_8 := Lib.hid (HQ4_5_16.out.trans (hd.mono HQ4_5_16.out.size))
       have HL4_4_5_16_8 := Lib.hid ((hd.block _ (Err.lt_of_block HL4_4_5_16.out)).trans HL4_4_5_16.out)
       have HL16_4_5_16_8 := Lib.hid ((hd.block _ (Err.lt_of_block HL16_4_5_16.out)).trans HL16_4_5_16.out)
       clear hd
       refine hK.out _ _ ⟨(hS HQ4_5_16_8.out).1, (hS HQ4_5_16_8.out).2.1, (hS HQ4_5_16_8.out).2.2⟩ (fun hHeld => ?_)
       clear hK K
       refine norm_ (a' := ?_) ?_ ?_
       rotate_left
       ·show Act.put _ (some 42) _ = _
        simp only [zaP, zsA, zsZ, zsS, i64_w, i32_w]
        rfl
       refine rpz 9 43 ?_ (bzz 21 131071) rfl rfl ?_ ?_ ?_ ?_
       rotate_left
       ·intro w'
        go_simp
        with_reducible rfl
       rotate_left
       ·simp only [zaP, zsA, zsZ, zsS, i64_w, i32_w]
        rfl
       exact norm_ (by simp only [putAll, Act.put, List.setIfInBounds_toArray, List.set_cons_zero, List.set_cons_succ]) (hCont (((w5.drew).heap.size, (z4_5).heap.size) : Nat × Nat) _ ⟨HQ4_5_16_8.out, HL16_4_5_16_8.out⟩)
     ·skip
      refine value_ (by rfl) rfl (exec_litI2 rfl rfl rfl _) ?_
      have hd : Below (z4).heap.size z4 (World.alloc z4 (Obj.cells #[.int .i64 (m.upper + 1), .int .i64 (m.snaps.length : Int)] 3 (0, 0))) := (Below.refl _ _).alloc (Nat.le_refl _) _
      have HL16_4_16 := Lib.hid (heap_alloc_last z4 (Obj.cells #[.int .i64 (m.upper + 1), .int .i64 (m.snaps.length : Int)] 3 (0, 0)))
      have HQ4_16 := Lib.hid (HQ4.out.trans (hd.mono HQ4.out.size))
      have HL4_4_16 := Lib.hid ((hd.block _ (Err.lt_of_block HL4_4.out)).trans HL4_4.out)
      generalize (World.alloc z4 (Obj.cells #[.int .i64 (m.upper + 1), .int .i64 (m.snaps.length : Int)] 3 (0, 0))) = z4_16 at *
      clear hd
      refine hK.out _ _ ⟨(hS HQ4_16.out).1, (hS HQ4_16.out).2.1, (hS HQ4_16.out).2.2⟩ (fun hHeld => ?_)
      clear hK K
      refine norm_ (a' := ?_) ?_ ?_
      rotate_left
      ·show Act.put _ (some 50) _ = _
       simp only [zaP, zsA, zsZ, zsS, i64_w, i32_w]
       rfl
      refine roz 5 39 (bzz 21 130303) rfl rfl (fun K hK => ?_)
      refine goes_ Tryz.func63 (by kernel_rfl) rfl #[.slice (some ⟨(w5.drew).heap.size, 0, none⟩) 1 1] (by rfl) rfl rfl (by simp only [List.map_toArray, List.map_cons, List.map_nil]; rfl) ?_
      with_reducible refine (nums1_c ((w5.drew).heap.size) (m.stack.length : Int) _ (by omega) HL4_4_16.out t1 HT1).mono ?_
      rintro e z4_16_5 ⟨rfl, hd⟩
      refine ⟨_, rfl, ?_⟩
      have HQ4_16_5 := Lib.hid (HQ4_16.out.trans (hd.mono HQ4_16.out.size))
      have HL4_4_16_5 := Lib.hid ((hd.block _ (Err.lt_of_block HL4_4_16.out)).trans HL4_4_16.out)
      have HL16_4_16_5 := Lib.hid ((hd.block _ (Err.lt_of_block HL16_4_16.out)).trans HL16_4_16.out)
      clear hd
      refine hK.out _ _ ⟨(hS HQ4_16_5.out).1, (hS HQ4_16_5.out).2.1, (hS HQ4_16_5.out).2.2⟩ (fun hHeld => ?_)
      clear hK K
      refine norm_ (a' := ?_) ?_ ?_
      rotate_left
      ·show Act.put _ (some 39) _ = _
       simp only [zaP, zsA, zsZ, zsS, i64_w, i32_w]
       rfl
      refine roz 8 42 (bzz 21 130559) rfl rfl (fun K hK => ?_)
      refine goes_ Tryz.func63 (by kernel_rfl) rfl #[.slice o.p1 m.stack.length o.c1] (by rfl) rfl rfl (by simp only [List.map_toArray, List.map_cons, List.map_nil]; rfl) ?_
      with_reducible refine (nums_c o.p1 o.c1 m.stack _ hstk (by omega) H.out.sc (H.out.on HQ4_16_5.out).s t2 HT2).mono ?_
      rintro e z4_16_5_8 ⟨rfl, hd⟩
      refine ⟨_, rfl, ?_⟩
      have HQ4_16_5_8 := Lib.hid (HQ4_16_5.out.trans (hd.mono HQ4_16_5.out.size))
      have HL4_4_16_5_8 := Lib.hid ((hd.block _ (Err.lt_of_block HL4_4_16_5.out)).trans HL4_4_16_5.out)
      have HL16_4_16_5_8 := Lib.hid ((hd.block _ (Err.lt_of_block HL16_4_16_5.out)).trans HL16_4_16_5.out)
      clear hd
      refine hK.out _ _ ⟨(hS HQ4_16_5_8.out).1, (hS HQ4_16_5_8.out).2.1, (hS HQ4_16_5_8.out).2.2⟩ (fun hHeld => ?_)
      clear hK K
      refine norm_ (a' := ?_) ?_ ?_
      rotate_left
      ·show Act.put _ (some 42) _ = _
       simp only [zaP, zsA, zsZ, zsS, i64_w, i32_w]
       rfl
      refine rpz 9 43 ?_ (bzz 21 131071) rfl rfl ?_ ?_ ?_ ?_
      rotate_left
      ·intro w'
       go_simp
       with_reducible rfl
      rotate_left
      ·simp only [zaP, zsA, zsZ, zsS, i64_w, i32_w]
       rfl
      exact norm_ (by simp only [putAll, Act.put, List.setIfInBounds_toArray, List.set_cons_zero, List.set_cons_succ]) (hCont (((w5.drew).heap.size, (z4).heap.size) : Nat × Nat) _ ⟨HQ4_16_5_8.out, HL16_4_16_5_8.out⟩)
    ·skip
     refine value_ (by rfl) rfl (exec_litI2 rfl rfl rfl _) ?_
     have hd : Below (w5.drew).heap.size w5.drew (World.alloc w5.drew (Obj.cells #[.int .i64 (m.upper + 1), .int .i64 (m.snaps.length : Int)] 3 (0, 0))) := (Below.refl _ _).alloc (Nat.le_refl _) _
     have HL16_16 := Lib.hid (heap_alloc_last w5.drew (Obj.cells #[.int .i64 (m.upper + 1), .int .i64 (m.snaps.length : Int)] 3 (0, 0)))
     have HQ16 := Lib.hid (HQ.out.trans (hd.mono HQ.out.size))
     generalize (World.alloc w5.drew (Obj.cells #[.int .i64 (m.upper + 1), .int .i64 (m.snaps.length : Int)] 3 (0, 0))) = z16 at *
     clear hd
     refine hK.out _ _ ⟨(hS HQ16.out).1, (hS HQ16.out).2.1, (hS HQ16.out).2.2⟩ (fun hHeld => ?_)
     clear hK K
     refine norm_ (a' := ?_) ?_ ?_
     rotate_left
     ·show Act.put _ (some 50) _ = _
      simp only [zaP, zsA, zsZ, zsS, i64_w, i32_w]
      rfl
     refine roz 4 38 (bzz 21 130271) rfl rfl (fun K hK => ?_)
     refine value_ (by rfl) rfl (exec_litI rfl rfl _) ?_
     have hd : Below (z16).heap.size z16 (World.alloc z16 (Obj.cells #[.int .i64 (m.stack.length : Int)] 3 (0, 0))) := (Below.refl _ _).alloc (Nat.le_refl _) _
     have HL4_16_4 := Lib.hid (heap_alloc_last z16 (Obj.cells #[.int .i64 (m.stack.length : Int)] 3 (0, 0)))
     have HQ16_4 := Lib.hid (HQ16.out.trans (hd.mono HQ16.out.size))
     have HL16_16_4 := Lib.hid ((hd.block _ (Err.lt_of_block HL16_16.out)).trans HL16_16.out)
     generalize (World.alloc z16 (Obj.cells #[.int .i64 (m.stack.length : Int)] 3 (0, 0))) = z16_4 at *
     clear hd
     refine hK.out _ _ ⟨(hS HQ16_4.out).1, (hS HQ16_4.out).2.1, (hS HQ16_4.out).2.2⟩ (fun hHeld => ?_)
     clear hK K
     refine norm_ (a' := ?_) ?_ ?_
     rotate_left
     ·show Act.put _ (some 38) _ = _
      simp only [zaP, zsA, zsZ, zsS, i64_w, i32_w]
      rfl
     refine roz 5 39 (bzz 21 130303) rfl rfl (fun K hK => ?_)
     refine goes_ Tryz.func63 (by kernel_rfl) rfl #[.slice (some ⟨(z16).heap.size, 0, none⟩) 1 1] (by rfl) rfl rfl (by simp only [List.map_toArray, List.map_cons, List.map_nil]; rfl) ?_
     with_reducible refine (nums1_c ((z16).heap.size) (m.stack.length : Int) _ (by omega) HL4_16_4.out t1 HT1).mono ?_
     rintro e z16_4_5 ⟨rfl, hd⟩
     refine ⟨_, rfl, ?_⟩
     have HQ16_4_5 := Lib.hid (HQ16_4.out.trans (hd.mono HQ16_4.out.size))
     have HL4_16_4_5 := Lib.hid ((hd.block _ (Err.lt_of_block HL4_16_4.out)).trans HL4_16_4.out)
     have HL16_16_4_5 := Lib.hid ((hd.block _ (Err.lt_of_block HL16_16_4.out)).trans HL16_16_4.out)
     clear hd
     refine hK.out _ _ ⟨(hS HQ16_4_5.out).1, (hS HQ16_4_5.out).2.1, (hS HQ16_4_5.out).2.2⟩ (fun hHeld => ?_)
     clear hK K
     refine norm_ (a' := ?_) ?_ ?_
     rotate_left
     ·show Act.put _ (some 39) _ = _
      simp only [zaP, zsA, zsZ, zsS, i64_w, i32_w]
      rfl
     refine roz 8 42 (bzz 21 130559) rfl rfl (fun K hK => ?_)
     refine goes_ Tryz.func63 (by kernel_rfl) rfl #[.slice o.p1 m.stack.length o.c1] (by rfl) rfl rfl (by simp only [List.map_toArray, List.map_cons, List.map_nil]; rfl) ?_
     with_reducible refine (nums_c o.p1 o.c1 m.stack _ hstk (by omega) H.out.sc (H.out.on HQ16_4_5.out).s t2 HT2).mono ?_
     rintro e z16_4_5_8 ⟨rfl, hd⟩
     refine ⟨_, rfl, ?_⟩
     have HQ16_4_5_8 := Lib.hid (HQ16_4_5.out.trans (hd.mono HQ16_4_5.out.size))
     have HL4_16_4_5_8 := Lib.hid ((hd.block _ (Err.lt_of_block HL4_16_4_5.out)).trans HL4_16_4_5.out)
     have HL16_16_4_5_8 := Lib.hid ((hd.block _ (Err.lt_of_block HL16_16_4_5.out)).trans HL16_16_4_5.out)
     clear hd
     refine hK.out _ _ ⟨(hS HQ16_4_5_8.out).1, (hS HQ16_4_5_8.out).2.1, (hS HQ16_4_5_8.out).2.2⟩ (fun hHeld => ?_)
     clear hK K
     refine norm_ (a' := ?_) ?_ ?_
     rotate_left
     ·show Act.put _ (some 42) _ = _
      simp only [zaP, zsA, zsZ, zsS, i64_w, i32_w]
      rfl
     refine rpz 9 43 ?_ (bzz 21 131071) rfl rfl ?_ ?_ ?_ ?_
     rotate_left
     ·intro w'
      go_simp
      with_reducible rfl
     rotate_left
     ·simp only [zaP, zsA, zsZ, zsS, i64_w, i32_w]
      rfl
     exact norm_ (by simp only [putAll, Act.put, List.setIfInBounds_toArray, List.set_cons_zero, List.set_cons_succ]) (hCont (((z16).heap.size, (w5.drew).heap.size) : Nat × Nat) _ ⟨HQ16_4_5_8.out, HL16_16_4_5_8.out⟩)
   rintro ⟨g4, g16⟩ z ⟨hq, hl⟩
   have HQj := Lib.hid hq
   have HLj := Lib.hid hl
   clear hq hl
   have hHeld := hS HQj.out
   refine norm_ (a' := ?_) ?_ ?_
   rotate_left
   ·simp only [putAll, Act.put, List.setIfInBounds_toArray, List.set_cons_zero, List.set_cons_succ]
    rfl
   refine roz 17 51 (bzz 21 262143) rfl rfl (fun K hK => ?_)
   refine goes_ Tryz.func63 (by kernel_rfl) rfl #[.slice (some ⟨g16, 0, none⟩) 2 2] (by rfl) rfl rfl (by simp only [List.map_toArray, List.map_cons, List.map_nil]; rfl) ?_
   with_reducible refine (nums2_c g16 (m.upper + 1) (m.snaps.length : Int) _ htwo HLj.out t3 HT3).mono ?_
   rintro e w9 ⟨rfl, hd⟩
   refine ⟨_, rfl, ?_⟩
   have HQ9 := Lib.hid (HQj.out.trans (hd.mono HQj.out.size))
   clear hd
   refine hK.out _ _ ⟨(hS HQ9.out).1, (hS HQ9.out).2.1, (hS HQ9.out).2.2⟩ (fun hHeld => ?_)
   clear hK K
   refine norm_ (a' := ?_) ?_ ?_
   rotate_left
   ·show Act.put _ (some 51) _ = _
    simp only [zaP, zsA, zsZ, zsS, i64_w, i32_w]
    rfl
   refine rpz 18 52 ?_ (bzz 21 524287) rfl rfl ?_ ?_ ?_ ?_
   rotate_left
   ·intro w'
    go_simp
    with_reducible rfl
   rotate_left
   ·simp only [zaP, zsA, zsZ, zsS, i64_w, i32_w]
    rfl
   refine rpz 19 53 ?_ (bzz 21 1048575) rfl rfl ?_ ?_ ?_ ?_
   rotate_left
   ·intro w'
    go_simp
    with_reducible rfl
   rotate_left
   ·simp only [zaP, zsA, zsZ, zsS, i64_w, i32_w]
    rfl
   refine rpz 20 6 ?_ (bzz 21 2097151) rfl rfl ?_ ?_ ?_ ?_
   rotate_left
   ·intro w'
    go_simp
    with_reducible rfl
   rotate_left
   ·simp only [zaP, zsA, zsZ, zsS, i64_w, i32_w]
    rfl
   refine done_ (by kernel_rfl) ?_
   have H9 := Lib.hid (H.out.on HQ9.out)
   have HB9 := below_to HB (Nat.le_refl _) HQ9.out
   have HX9 := blk_to HX HQ9.out
   obtain ⟨q, hq⟩ : ∃ q, m.snaps.length = q := ⟨_, rfl⟩
   rw [hq] at hq16
   have HQn := Lib.hid hq
   obtain ⟨s1, hs1⟩ : ∃ s1, s ++ (t1 ++ t2 ++ t3) = s1 := ⟨_, rfl⟩
   rw [hs1]
   have hs1s : s1.size ≤ 3000 := by rw [← hs1]; simp only [ByteArray.size_append]; omega
   have HS3 := Lib.hid (show s1 = s0 ++ refsS m.refs ++ midS m by
    rw [← hs1, HS2.out]
    unfold midS
    rw [HT1.out, HT2.out, HT3.out])
   obtain ⟨_, _, _, c3⟩ := box_cells HX9
   obtain ⟨P3, hP3⟩ : ∃ P, o.p3 = P := ⟨_, rfl⟩
   rw [hq, hP3] at c3
   have HP3 := Lib.hid hP3
   clear hP3
   clear hs1 hq hHeld hS HQ HQ9 HQj HLj H HB HX k1 k2 k3 l1 l2 l3 htwo q6 hss2 HS2
   go_wp2_with fail
   clear c3
   go_loopg [6, 57] q (fun kq v6 v57 wr => ∃ (j : Nat) (s : ByteArray), v6 = .string s ∧ v57 = .int .i64 (j : Int) ∧ kq + j = q ∧ s.size ≤ 3000 + 100 * j ∧ Hid (s = s1 ++ snapsS (m.snaps.take j)) ∧ Hid (At wr o m) ∧ Hid (Below w.heap.size w wr))
   case atStart => exact ⟨0, s1, rfl, rfl, by omega, by omega, Lib.hid (by show s1 = s1 ++ (⟨#[]⟩ : ByteArray); rw [append_empty]), H9, HB9⟩
   case round =>
    clear H9 HB9 HX9
    obtain ⟨j, s, rfl, rfl, hk, hss, HS, H, HB⟩ := hrel
    generalize wr = w5 at *
    cases gk with
    | zero =>
     have hj : j = q := by omega
     have d1 : decide ((j : Int) < (q : Int)) = false := decide_eq_false (by omega)
     have d1b : decide (j < q) = false := decide_eq_false (by omega)
     obtain rfl : T = s := by
      rw [← HT.out, HS.out, hj, ← HQn.out, List.take_length, HS3.out]
      unfold layM
      rw [HN.out, HS0.out]
     clear HS hk hj hss
     go_wp2_with fail
     go_ret2
     exact ⟨rfl, HB.out⟩
    | succ k2 =>
     have hj : j < q := by omega
     have hjl : j < m.snaps.length := by rw [HQn.out]; exact hj
     have d1 : decide ((j : Int) < (q : Int)) = true := decide_eq_true (by omega)
     have d1b : decide (j < q) = true := decide_eq_true hj
     have p1 : (0 ≤ (j : Int)) = True := eq_true (by omega)
     have p2 : ((j : Int) < (q : Int)) = True := eq_true (by omega)
     have q5 : IntKind.i64.wrap ((j : Int) + 1) = (j : Int) + 1 := IntWalk.i64_in _ (by omega)
     obtain ⟨ad, A0, a0, ead, hcell, hla, hCl⟩ := at_L1 H.out.n (j : Int) (by omega) (by omega)
     rw [rd_L1_get m.snaps j hjl] at hcell hla hCl
     simp only [Int.toNat_natCast] at hcell
     have hfit := hF.out.2.2.2.2.1 m.snaps[j] (List.getElem_mem hjl)
     obtain ⟨l, hl⟩ : ∃ l, m.snaps[j] = l := ⟨_, rfl⟩
     rw [hl] at hcell hla hCl hfit
     have HSn := Lib.hid (show snapsS (m.snaps.take (j + 1)) = snapsS (m.snaps.take j) ++ (numsS [(l.length : Int)] ++ numsS l) by
      rw [← List.take_append_getElem hjl, hl, snapsS_snoc])
     obtain ⟨u1, hu1⟩ : ∃ t, numsS [(l.length : Int)] = t := ⟨_, rfl⟩
     obtain ⟨u2, hu2⟩ : ∃ t, numsS l = t := ⟨_, rfl⟩
     have l1 := numsS_size [(l.length : Int)] (one_nat _ (by omega))
     have l2 := numsS_size l hfit.2
     rw [hu1] at l1
     rw [hu2] at l2
     simp only [List.length_cons, List.length_nil] at l1
     have HU1 := Lib.hid hu1
     have HU2 := Lib.hid hu2
     have k1 : (9223372036854775807 < u1.size + u2.size) = False := eq_false (by omega)
     have k3 : (9223372036854775807 < s.size + (u1.size + u2.size)) = False := eq_false (by omega)
     obtain ⟨ll, hll⟩ : ∃ ll, l.length = ll := ⟨_, rfl⟩
     have HCl := Lib.hid hCl
     have HLl := Lib.hid hll
     rw [hll] at hcell
     obtain rfl : P3 = some ad := by rw [← HP3.out]; exact ead
     clear hl hu1 hu2 hCl ead hll
     go_wp2_with (first | (refine wl_litI (ll : Int) rfl _ rfl rfl ?_))
     have hd : Below w5.heap.size w5 (w5.alloc (.cells #[.int .i64 (ll : Int)] 3 (0, 0))) := (Below.refl _ _).alloc (Nat.le_refl _) _
     have hL := heap_alloc_last w5 (.cells #[.int .i64 (ll : Int)] 3 (0, 0))
     have H6 := Lib.hid (H.out.on hd)
     have HB6 := below_to HB (Nat.le_refl _) hd
     have HC6 := Lib.hid (Kd.C_below HCl.out hd)
     generalize (w5.alloc (.cells #[.int .i64 (ll : Int)] 3 (0, 0))) = w6 at *
     refine (nums1_c _ (ll : Int) w6 (by have := HLl.out; omega) hL u1 (Lib.hid (by rw [← HU1.out, HLl.out]))).mono ?_
     rintro e w7 ⟨rfl, hd7⟩
     have H7 := Lib.hid (H6.out.on hd7)
     have HB7 := below_to HB6 (Nat.le_refl _) hd7
     have HC7 := Lib.hid (Kd.C_below HC6.out hd7)
     clear hd hd7 hL H HB HCl H6 HB6 HC6 hcell
     go_wp2_with fail
     have hn2 := nums_c A0 a0 l w7 hfit.2 (by omega) hla HC7.out u2 HU2
     rw [HLl.out] at hn2
     refine hn2.mono ?_
     rintro e w8 ⟨rfl, hd⟩
     have H8 := Lib.hid (H7.out.on hd)
     have HB8 := below_to HB7 (Nat.le_refl _) hd
     clear hd hn2 H7 HB7 HC7
     go_wp2_with fail
     go_roundg k2
     case measure => exact Nat.lt_succ_self _
     case rel => exact ⟨j + 1, s ++ (u1 ++ u2), rfl, by simp, by omega, by simp only [ByteArray.size_append]; omega, Lib.hid (by rw [HSn.out, HU1.out, HU2.out, HS.out, ByteArray.append_assoc]), H8, HB8⟩
  | succ k1 =>
   have hj : j < n := by omega
   have hjl : j < m.refs.length := by rw [HN.out]; exact hj
   have c1 : decide ((j : Int) < (n : Int)) = true := decide_eq_true (by omega)
   have c1b : decide (j < n) = true := decide_eq_true hj
   have p1 : (0 ≤ (j : Int)) = True := eq_true (by omega)
   have p2 : ((j : Int) < (n : Int)) = True := eq_true (by omega)
   have q5 : IntKind.i64.wrap ((j : Int) + 1) = (j : Int) + 1 := IntWalk.i64_in _ (by omega)
   obtain ⟨ad, ead, x0, x1, x2⟩ := at_T36 H.out.r (j : Int) (by omega) (by omega)
   have ex : rd_T36 m.refs (j : Int) = m.refs[j] := by
    unfold rd_T36
    simp [List.getD_eq_getElem?_getD, List.getElem?_eq_getElem hjl]
   rw [ex] at x0 x1 x2
   simp only [Int.toNat_natCast] at x0 x1 x2
   have hfit := hF.out.1 m.refs[j] (List.getElem_mem hjl)
   obtain ⟨x, hx⟩ : ∃ x, m.refs[j] = x := ⟨_, rfl⟩
   rw [hx] at x0 x1 x2 hfit
   have HXs := Lib.hid (show refsS (m.refs.take (j + 1)) = refsS (m.refs.take j) ++ refS x by
    rw [← List.take_append_getElem hjl, hx, refsS_snoc])
   have HEad := Lib.hid ead
   have HX0 := Lib.hid x0
   have HX1 := Lib.hid x1
   have HX2 := Lib.hid x2
   clear hx ex ead x0 x1 x2
   obtain rfl : P0 = some ad := by rw [← HP0.out]; exact HEad.out
   go_upto_region 7 with (first
    | (refine wl_loadRf (ad.add (j * 3)) x HX0.out HX1.out HX2.out rfl _ rfl rfl ?_)
    | (refine wl_allocR rfl rfl ?_)
    | (refine wl_storeRn #[.int .i64 0, .int .i64 0, .int .u32 0] rfl x rfl _ _ rfl rfl rfl ?_))
   have hd : Below w5.heap.size w5 (w5.alloc (Obj.cells (ra x) 36 (0, 0))) := (Below.refl _ _).alloc (Nat.le_refl _) _
   have HK6 := Lib.hid (heap_alloc_last w5 (Obj.cells (ra x) 36 (0, 0)))
   have H6 := Lib.hid (H.out.on hd)
   have HB6 := below_to HB (Nat.le_refl _) hd
   have HX6 := blk_to HX hd
   obtain ⟨K, hK⟩ : ∃ K, w5.heap.size = K := ⟨_, rfl⟩
   rw [hK] at HK6
   simp only [hK]
   generalize (w5.alloc (Obj.cells (ra x) 36 (0, 0))) = w6 at *
   clear hd hK H HB HX HX0 HX1 HX2
   go_wp2_with (first | (refine wl_loadR K x HK6.out rfl _ rfl rfl ?_))
   refine (lay_a x.f0 x.f1 x.f2 w6 hfit.1 hfit.2.1 hfit.2.2.1 hfit.2.2.2.1 hfit.2.2.2.2.1 hfit.2.2.2.2.2).mono ?_
   rintro e w7 ⟨rfl, hd⟩
   have H7 := Lib.hid (H6.out.on hd)
   have HB7 := below_to HB6 (Nat.le_refl _) hd
   have HX7 := blk_to HX6 hd
   obtain ⟨t, ht⟩ : ∃ t, refS x = t := ⟨_, rfl⟩
   rw [show numS x.f0.toNat ++ numS x.f1.toNat ++ numS x.f2.toNat = t from ht]
   have hts := refS_size x hfit
   rw [ht] at hts
   have HTt := Lib.hid ht
   have kk1 : (9223372036854775807 < s.size + t.size) = False := eq_false (by omega)
   clear ht hd H6 HB6 HX6 HK6 hfit
   go_wp2_with fail
   go_roundg k1
   case measure => exact Nat.lt_succ_self _
   case rel => exact ⟨j + 1, s ++ t, rfl, by simp, by omega, by rw [ByteArray.size_append]; omega, Lib.hid (by rw [HXs.out, HTt.out, HS.out, ByteArray.append_assoc]), H7, HB7, HX7⟩
def emptyM : Man := ⟨[], [], -1, []⟩
theorem empty_fits : Fits emptyM := by
 refine ⟨fun r h => (List.not_mem_nil h).elim, fun r h => (List.not_mem_nil h).elim, by decide, by decide, fun r h => (List.not_mem_nil h).elim, by decide, by decide, by decide⟩
theorem numS_zero : numS 0 = ⟨#[0]⟩ := by
 unfold numS digs
 rw [num_small (by decide)]
 decide
theorem empty_lay : layM emptyM = ⟨#[0, 0, 0, 0]⟩ := by
 have e : layM emptyM = (numS 0 ++ ⟨#[]⟩) ++ ⟨#[]⟩ ++ ((numS 0 ++ ⟨#[]⟩) ++ ⟨#[]⟩ ++ (numS 0 ++ (numS 0 ++ ⟨#[]⟩))) ++ ⟨#[]⟩ := rfl
 rw [e, numS_zero]
 decide
end Go.Proofs.YtaodgnladjafoaaGreatDoor.Mni
