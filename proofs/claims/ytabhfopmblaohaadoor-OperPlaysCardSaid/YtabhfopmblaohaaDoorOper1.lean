/- oper.Lay: an op's bytes, or an error. -/
import Derived.Test.YtabhfopmblaohaaDoorOper0
import Derived.Test.YtabhfopmblaohaaDoorCodeQ
import Derived.Deep.WholeRow
import Derived.Deep.RegionHeld3
set_option linter.unusedVariables false
set_option linter.unusedSimpArgs false
namespace Go.Proofs.YtabhfopmblaohaaDoor.Opr
open Go.RowKit Go.Proofs.YtabhfopmblaohaaDoor.QOperBack Go.Proofs.YtabhfopmblaohaaDoorW.PrintWords Go.Proofs.YtabhfopmblaohaaDoorW.PrintLast Go.Proofs.YtabhfopmblaohaaDoorW.PrintMore Go.Proofs.YtabhfopmblaohaaDoor.CdM Go.Proofs.YtabhfopmblaohaaDoor.Md
open Go.Proofs.YtabhfopmblaohaaDoor.Err (Laid IsErr code_nil code_c Chain at_some at_nil)
def errV (n : Int) : Value := .iface 53 (.int .i64 n)
theorem at_err (op path : ByteArray) (n : Int) (w : World) : Calls Tryd.prog 21 #[.string op, .string path, errV n] w fun ev w' => ∃ T x, ev = .returned (.iface T x) ∧ IsErr w' (.iface T x) n ∧ Below w.heap.size w w' := by
  refine (at_some op path _ _ w).mono ?_
  rintro e w' ⟨rfl, rfl⟩
  exact ⟨_, _, rfl, .inr ⟨_, .wrap _ op path _ n [] (heap_alloc_last w _) (.base n)⟩, (Below.refl _ _).alloc (Nat.le_refl _) _⟩
theorem blk_to {w1 w2 : World} {k : Nat} {ob : Obj} (h : Hid (w1.heap[k]? = some ob)) (b : Below w1.heap.size w1 w2) : Hid (w2.heap[k]? = some ob) := (b.block k (Err.lt_of_block h.out)).trans h.out
/-- the five parts, one behind the other -/
theorem five (a b c d e : ByteArray) : (([a, b, c, d, e] : List ByteArray).map (·.data.toList)).flatten = (a ++ (b ++ (c ++ (d ++ e)))).data.toList := by
  simp [ByteArray.data_append, Array.toList_append]
theorem strS_size (s : ByteArray) : (strS s).size = (num s.size).length + s.size := by unfold strS; rw [ByteArray.size_append, numS_size]
theorem strS_le (s : ByteArray) (h : s.size ≤ 4611686018427387904) : (strS s).size ≤ 9 + s.size := by
  have := numS_nine h
  unfold strS; rw [ByteArray.size_append]; omega
theorem num_t (n : Nat) (w : World) (h : n ≤ 4611686018427387904) : Calls Tryd.prog 23 #[.int .i64 (n : Int)] w fun e w' => e = .returned (.string (numS n)) ∧ Below w.heap.size w w' := Rdr.cnum_c n w h
theorem num_z (x : Int) (h0 : 0 ≤ x) (h1 : x ≤ 4611686018427387904) (w : World) : Calls Tryd.prog 23 #[.int .i64 x] w fun e w' => e = .returned (.string (numS x.toNat)) ∧ Below w.heap.size w w' := by
  have h := Rdr.cnum_c x.toNat w (by omega)
  rw [show ((x.toNat : Nat) : Int) = x by omega] at h
  exact h
theorem str_t (s : ByteArray) (w : World) (h : s.size ≤ 4611686018427387904) : Calls Tryd.prog 24 #[.string s] w fun e w' => e = .returned (.string (strS s)) ∧ Below w.heap.size w w' := Rdr.cstr_c s w h
theorem turnN_le {n : Int} (h0 : -1073741824 ≤ n) (h1 : n ≤ 1073741824) : turnN n ≤ 2147483648 := by unfold turnN; split <;> omega
theorem Op.lay_size {o : Op} (h : o.Ok) : o.lay.size ≤ 409 := by
  have h1 := numS_nine (n := o.d.toNat) (by have := h.d1; omega)
  have h2 := numS_nine (n := turnN o.n) (by have := turnN_le h.n0 h.n1; omega)
  have h3 := strS_le o.p (by have := h.p; omega)
  have h4 := strS_le o.q (by have := h.q; omega)
  have h5 := strS_le o.s (by have := h.s; omega)
  unfold Op.lay
  simp only [ByteArray.size_append]
  have := h.p; have := h.q; have := h.s
  omega
theorem joined5 (bk : Nat) (a b c d e t : ByteArray) (w : World) (hc : Hid (w.heap[bk]? = some (Obj.cells #[.string a, .string b, .string c, .string d, .string e] 9 (0, 0)))) (ht : Hid (a ++ (b ++ (c ++ (d ++ e))) = t)) (hl : t.size ≤ 1000000) :
    Calls Tryd.prog 22 #[.slice (some ⟨bk, 0, none⟩) 5 5] w fun ev w' => ev = .returned (.string t) ∧ Below w.heap.size w w' := by
  refine joined_c bk [a, b, c, d, e] w ?_ (Err.lt_of_block hc.out) (by simp) t (by rw [five, ht.out]) hl
  intro j x hj
  rw [Err.cell_of_blk hc.out, Nat.zero_add]
  match j, hj with
  | 0, h => simpa using h
  | 1, h => simpa using h
  | 2, h => simpa using h
  | 3, h => simpa using h
  | 4, h => simpa using h
  | (j + 5), h => simp at h
theorem op_one (o : Op) : o.a.all (·.oneCell') = true := by simp [Op.a, Value.oneCell']
theorem op_cells {w : World} {b : Nat} {o : Op} {t : TypeId} (h : Hid (w.heap[b]? = some (Obj.cells o.a t (0, 0)))) : w.cell? ⟨b, 0, none⟩ = some (.int .i64 o.d) ∧ w.cell? ⟨b, 1, none⟩ = some (.string o.p) ∧ w.cell? ⟨b, 2, none⟩ = some (.string o.q) ∧ w.cell? ⟨b, 3, none⟩ = some (.int .i64 o.n) ∧ w.cell? ⟨b, 4, none⟩ = some (.string o.s) :=
  ⟨Err.cell_of_blk h.out 0, Err.cell_of_blk h.out 1, Err.cell_of_blk h.out 2, Err.cell_of_blk h.out 3, Err.cell_of_blk h.out 4⟩
theorem run_loadO (w : World) (b : Nat) (o : Op) (h : w.heap[b]? = some (Obj.cells o.a 30 (0, 0))) : (Instr.loadAt 30 (.pointer (some ⟨b, 0, none⟩))).run Tryd.prog w = .ok (.agg o.a) w := by
  simp only [Instr.loadAt, Instr.sureAddr, Sem.run_bind, Sem.run_pure, Result.andThen_ok]
  exact run_loadVar_row w b 30 30 o.a (0, 0) _ h Tryd.underlying30 rfl (by kernel_rfl)
theorem exec_loadO {ρ : Operand → Value} {oo : Oper} {x : Operand} {W : World} {b : Nat} {o : Op} (ho : oo.op = .load 30 x) (hx : ρ x = .pointer (some ⟨b, 0, none⟩)) (hp : W.heap[b]? = some (Obj.cells o.a 30 (0, 0))) : (execOp ρ oo).run Tryd.prog W = .ok (.value (.agg o.a)) W := by
  unfold execOp; simp only [ho, hx, run_loadO W b o hp, Sem.run_bind, Sem.run_pure, Result.andThen_ok]
theorem sizeO : (Tryd.prog.info? 30).map (·.size) = some 5 := by kernel_rfl
section
variable {ops : Array Oper} {rest : List Oper} {oo : Oper} {a : Go.Act} {w : World} {Q : Exit → Go.Act → World → Prop}
theorem wl_loadO (b : Nat) (o : Op) (hp : w.heap[b]? = some (Obj.cells o.a 30 (0, 0))) (hgd : oo.guard = none) (p_ : Operand) (ho : oo.op = .load 30 p_) (hx : a.eval p_ = .pointer (some ⟨b, 0, none⟩))
    (h : wpList Tryd.prog ops Q rest (a.put oo.dst (.agg o.a)) w) : wpList Tryd.prog ops Q (oo :: rest) a w :=
  Kd.event_run hgd (exec_loadO ho hx hp) h
theorem wg_loadO (b : Nat) (o : Op) (hp : w.heap[b]? = some (Obj.cells o.a 30 (0, 0))) (hw : Region.wanted oo (yielded ops a.tmps) = true) (p_ : Operand) (ho : oo.op = .load 30 p_) (hx : a.eval p_ = .pointer (some ⟨b, 0, none⟩))
    (h : wpList Tryd.prog ops Q rest (a.put oo.dst (.agg o.a)) w) : wpList Tryd.prog ops Q (oo :: rest) a w := by
  have hrun := exec_loadO (ρ := a.eval) ho hx hp
  refine BigFrame.wpList_want hw fun K hK => ?_
  unfold Oper.wp
  rw [hrun]
  exact hK _ _ h
theorem wl_storeO (b : Nat) (cs0 : Array Value) (hcs : cs0.size = 5) (o : Op) (hp : w.heap[b]? = some (Obj.cells cs0 30 (0, 0))) (hgd : oo.guard = none) (p_ q_ : Operand) (ho : oo.op = .store 30 p_ q_) (hx : a.eval p_ = .pointer (some ⟨b, 0, none⟩)) (hy : a.eval q_ = .agg o.a)
    (h : wpList Tryd.prog ops Q rest (a.put oo.dst undef) (w.setRow b o.a)) : wpList Tryd.prog ops Q (oo :: rest) a w :=
  wpList_plain hgd fun K hK => by
    have hrun : (Instr.storeAt 30 (.pointer (some ⟨b, 0, none⟩)) (.agg o.a)).run Tryd.prog w = .ok () (w.setRow b o.a) := by
      simp only [Instr.storeAt, Instr.sureAddr, Sem.run_bind, Sem.run_pure, Result.andThen_ok]
      exact run_storeVar_row w b 30 30 cs0 o.a hp sizeO (by rw [hcs]; rfl) (op_one o)
    unfold Oper.wp execOp
    simp only [ho, hx, hy, Sem.run_bind, hrun, Result.andThen_ok]
    exact hK _ _ h
theorem wl_storeOn {W : World} (cs0 : Array Value) (hcs : cs0.size = 5) (o : Op) (hgd : oo.guard = none) (p_ q_ : Operand) (ho : oo.op = .store 30 p_ q_) (hx : a.eval p_ = .pointer (some ⟨W.heap.size, 0, none⟩)) (hy : a.eval q_ = .agg o.a)
    (h : wpList Tryd.prog ops Q rest (a.put oo.dst undef) (W.alloc (Obj.cells o.a 30 (0, 0)))) : wpList Tryd.prog ops Q (oo :: rest) a (W.alloc (Obj.cells cs0 30 (0, 0))) := by
  refine wl_storeO W.heap.size cs0 hcs o (heap_alloc_last _ _) hgd p_ q_ ho hx hy ?_
  rw [World.setRow_alloc_new]
  exact h
theorem wl_allocO (hgd : oo.guard = none) (ho : oo.op = .alloc 30) (h : wpList Tryd.prog ops Q rest (a.put oo.dst (.pointer (some ⟨w.heap.size, 0, none⟩))) (w.alloc (Obj.cells Op.zero.a 30 (0, 0)))) : wpList Tryd.prog ops Q (oo :: rest) a w :=
  Kd.event_run hgd (by unfold execOp; simp only [ho]; kernel_rfl) h
end
theorem run_loadR (w : World) (b : Nat) (o : Op) (h : w.heap[b]? = some (Obj.cells o.a 23 (0, 0))) : (Instr.loadAt 23 (.pointer (some ⟨b, 0, none⟩))).run Tryd.prog w = .ok (.agg o.a) w := by
  simp only [Instr.loadAt, Instr.sureAddr, Sem.run_bind, Sem.run_pure, Result.andThen_ok]
  exact run_loadVar_row w b 23 23 o.a (0, 0) _ h Tryd.underlying23 rfl (by kernel_rfl)
theorem exec_loadR {ρ : Operand → Value} {oo : Oper} {x : Operand} {W : World} {b : Nat} {o : Op} (ho : oo.op = .load 23 x) (hx : ρ x = .pointer (some ⟨b, 0, none⟩)) (hp : W.heap[b]? = some (Obj.cells o.a 23 (0, 0))) : (execOp ρ oo).run Tryd.prog W = .ok (.value (.agg o.a)) W := by
  unfold execOp; simp only [ho, hx, run_loadR W b o hp, Sem.run_bind, Sem.run_pure, Result.andThen_ok]
theorem sizeR : (Tryd.prog.info? 23).map (·.size) = some 5 := by kernel_rfl
section
variable {ops : Array Oper} {rest : List Oper} {oo : Oper} {a : Go.Act} {w : World} {Q : Exit → Go.Act → World → Prop}
theorem wl_loadR (b : Nat) (o : Op) (hp : w.heap[b]? = some (Obj.cells o.a 23 (0, 0))) (hgd : oo.guard = none) (p_ : Operand) (ho : oo.op = .load 23 p_) (hx : a.eval p_ = .pointer (some ⟨b, 0, none⟩))
    (h : wpList Tryd.prog ops Q rest (a.put oo.dst (.agg o.a)) w) : wpList Tryd.prog ops Q (oo :: rest) a w :=
  Kd.event_run hgd (exec_loadR ho hx hp) h
theorem wg_loadR (b : Nat) (o : Op) (hp : w.heap[b]? = some (Obj.cells o.a 23 (0, 0))) (hw : Region.wanted oo (yielded ops a.tmps) = true) (p_ : Operand) (ho : oo.op = .load 23 p_) (hx : a.eval p_ = .pointer (some ⟨b, 0, none⟩))
    (h : wpList Tryd.prog ops Q rest (a.put oo.dst (.agg o.a)) w) : wpList Tryd.prog ops Q (oo :: rest) a w := by
  have hrun := exec_loadR (ρ := a.eval) ho hx hp
  refine BigFrame.wpList_want hw fun K hK => ?_
  unfold Oper.wp
  rw [hrun]
  exact hK _ _ h
theorem wl_storeR (b : Nat) (cs0 : Array Value) (hcs : cs0.size = 5) (o : Op) (hp : w.heap[b]? = some (Obj.cells cs0 23 (0, 0))) (hgd : oo.guard = none) (p_ q_ : Operand) (ho : oo.op = .store 23 p_ q_) (hx : a.eval p_ = .pointer (some ⟨b, 0, none⟩)) (hy : a.eval q_ = .agg o.a)
    (h : wpList Tryd.prog ops Q rest (a.put oo.dst undef) (w.setRow b o.a)) : wpList Tryd.prog ops Q (oo :: rest) a w :=
  wpList_plain hgd fun K hK => by
    have hrun : (Instr.storeAt 23 (.pointer (some ⟨b, 0, none⟩)) (.agg o.a)).run Tryd.prog w = .ok () (w.setRow b o.a) := by
      simp only [Instr.storeAt, Instr.sureAddr, Sem.run_bind, Sem.run_pure, Result.andThen_ok]
      exact run_storeVar_row w b 23 23 cs0 o.a hp sizeR (by rw [hcs]; rfl) (op_one o)
    unfold Oper.wp execOp
    simp only [ho, hx, hy, Sem.run_bind, hrun, Result.andThen_ok]
    exact hK _ _ h
theorem wl_storeRn {W : World} (cs0 : Array Value) (hcs : cs0.size = 5) (o : Op) (hgd : oo.guard = none) (p_ q_ : Operand) (ho : oo.op = .store 23 p_ q_) (hx : a.eval p_ = .pointer (some ⟨W.heap.size, 0, none⟩)) (hy : a.eval q_ = .agg o.a)
    (h : wpList Tryd.prog ops Q rest (a.put oo.dst undef) (W.alloc (Obj.cells o.a 23 (0, 0)))) : wpList Tryd.prog ops Q (oo :: rest) a (W.alloc (Obj.cells cs0 23 (0, 0))) := by
  refine wl_storeR W.heap.size cs0 hcs o (heap_alloc_last _ _) hgd p_ q_ ho hx hy ?_
  rw [World.setRow_alloc_new]
  exact h
theorem wl_allocR (hgd : oo.guard = none) (ho : oo.op = .alloc 23) (h : wpList Tryd.prog ops Q rest (a.put oo.dst (.pointer (some ⟨w.heap.size, 0, none⟩))) (w.alloc (Obj.cells Op.zero.a 23 (0, 0)))) : wpList Tryd.prog ops Q (oo :: rest) a w :=
  Kd.event_run hgd (by unfold execOp; simp only [ho]; kernel_rfl) h
end
set_option maxHeartbeats 8000000 in
set_option maxRecDepth 100000 in
theorem lay_ok (o : Op) (w : World) (hok : Hid o.Ok) : Calls Tryd.prog 10 #[.agg o.a] w fun e w' => e = .returned (.tuple #[.string o.lay, .nilIface]) ∧ Below w.heap.size w w' := by
  go_enter Tryd.func10, Tryd.ntmps10
  go_wp2_with (first | (refine wl_loadO w.heap.size o (heap_alloc_last _ _) rfl _ rfl rfl ?_))
  have hb1 : Below w.heap.size w (w.alloc (Obj.cells o.a 30 (0, 0))) := (Below.refl _ _).alloc (Nat.le_refl _) _
  have HB1 := Lib.hid (heap_alloc_last w (Obj.cells o.a 30 (0, 0)))
  have HX1 := Lib.hid hb1
  obtain ⟨B, hB⟩ : ∃ B, w.heap.size = B := ⟨_, rfl⟩
  rw [hB] at HB1
  simp only [hB]
  generalize (w.alloc (Obj.cells o.a 30 (0, 0))) = w1 at *
  clear hb1
  refine (right_c o _).mono ?_
  rintro e w2 ⟨rfl, hd⟩
  rw [Op.okB_true.2 hok.out]
  have HB2 := blk_to HB1 hd
  have HX2 := Lib.hid (HX1.out.trans (hd.mono HX1.out.size))
  clear hd HB1 HX1
  go_wp2_with fail
  have HD := Lib.hid (show Below w2.heap.size w2 w2.drew from (Below.refl _ _).drew)
  have hOp := fun {w' : World} (k : Below w2.heap.size w2 w') => op_cells (blk_to HB2 k)
  refine start_ (n := 20) (S := fun w' => w'.cell? ⟨B, 0, none⟩ = some (.int .i64 o.d) ∧ w'.cell? ⟨B, 1, none⟩ = some (.string o.p) ∧ w'.cell? ⟨B, 2, none⟩ = some (.string o.q) ∧ w'.cell? ⟨B, 3, none⟩ = some (.int .i64 o.n) ∧ w'.cell? ⟨B, 4, none⟩ = some (.string o.s)) (ds := []) #[false, false, false, false, false, false, false, false, false, false, false, false, false, false, false, false, false, false, false, false] (by kernel_rfl) rfl rfl ⟨(hOp HD.out).1, (hOp HD.out).2.1, (hOp HD.out).2.2.1, (hOp HD.out).2.2.2.1, (hOp HD.out).2.2.2.2⟩ (fun hHeld => ?_)
  refine pure_ (i := 0) (N := some 11) (v := ?_) (a' := ?_) #[true, false, false, false, false, false, false, false, false, false, false, false, false, false, false, false, false, false, false, false] rfl rfl (by kernel_rfl) (fun _ _ _ h => h) (Or.inl ⟨by rfl, ?_⟩) ?_ ?_
  rotate_left
  · intro w'
    go_simp
    with_reducible rfl
  rotate_left
  · simp only [Act.put, List.setIfInBounds_toArray, List.set_cons_zero, List.set_cons_succ, i64_w, i32_w]
    rfl
  refine pure_ (i := 3) (N := some 14) (v := ?_) (a' := ?_) #[true, false, false, true, false, false, false, false, false, false, false, false, false, false, false, false, false, false, false, false] rfl rfl (by kernel_rfl) (fun _ _ _ h => h) (Or.inl ⟨by rfl, ?_⟩) ?_ ?_
  rotate_left
  · intro w'
    go_simp
    with_reducible rfl
  rotate_left
  · simp only [Act.put, List.setIfInBounds_toArray, List.set_cons_zero, List.set_cons_succ, i64_w, i32_w]
    rfl
  refine pure_ (i := 6) (N := some 17) (v := ?_) (a' := ?_) #[true, false, false, true, false, false, true, false, false, false, false, false, false, false, false, false, false, false, false, false] rfl rfl (by kernel_rfl) (fun _ _ _ h => h) (Or.inl ⟨by rfl, ?_⟩) ?_ ?_
  rotate_left
  · intro w'
    go_simp
    with_reducible rfl
  rotate_left
  · simp only [Act.put, List.setIfInBounds_toArray, List.set_cons_zero, List.set_cons_succ, i64_w, i32_w]
    rfl
  refine pure_ (i := 9) (N := some 20) (v := ?_) (a' := ?_) #[true, false, false, true, false, false, true, false, false, true, false, false, false, false, false, false, false, false, false, false] rfl rfl (by kernel_rfl) (fun _ _ _ h => h) (Or.inl ⟨by rfl, ?_⟩) ?_ ?_
  rotate_left
  · intro w'
    go_simp
    with_reducible rfl
  rotate_left
  · simp only [Act.put, List.setIfInBounds_toArray, List.set_cons_zero, List.set_cons_succ, i64_w, i32_w]
    rfl
  refine pure_ (i := 13) (N := some 24) (v := ?_) (a' := ?_) #[true, false, false, true, false, false, true, false, false, true, false, false, false, true, false, false, false, false, false, false] rfl rfl (by kernel_rfl) (fun _ _ _ h => h) (Or.inl ⟨by rfl, ?_⟩) ?_ ?_
  rotate_left
  · intro w'
    go_simp
    with_reducible rfl
  rotate_left
  · simp only [Act.put, List.setIfInBounds_toArray, List.set_cons_zero, List.set_cons_succ, i64_w, i32_w]
    rfl
  refine take_ (i := 1) (N := some 12) (v := ?_) (a' := ?_) #[true, true, false, true, false, false, true, false, false, true, false, false, false, true, false, false, false, false, false, false] rfl rfl (by kernel_rfl) (fun _ _ _ h => h) (Or.inl ⟨by rfl, ?_⟩) hHeld ?_ ?_
  rotate_left
  · rintro w' ⟨s0, s1, s2, s3, s4⟩
    go_simp
    with_reducible rfl
  rotate_left
  · simp only [Act.put, List.setIfInBounds_toArray, List.set_cons_zero, List.set_cons_succ, i64_w, i32_w]
    rfl
  refine take_ (i := 4) (N := some 15) (v := ?_) (a' := ?_) #[true, true, false, true, true, false, true, false, false, true, false, false, false, true, false, false, false, false, false, false] rfl rfl (by kernel_rfl) (fun _ _ _ h => h) (Or.inl ⟨by rfl, ?_⟩) hHeld ?_ ?_
  rotate_left
  · rintro w' ⟨s0, s1, s2, s3, s4⟩
    go_simp
    with_reducible rfl
  rotate_left
  · simp only [Act.put, List.setIfInBounds_toArray, List.set_cons_zero, List.set_cons_succ, i64_w, i32_w]
    rfl
  refine take_ (i := 7) (N := some 18) (v := ?_) (a' := ?_) #[true, true, false, true, true, false, true, true, false, true, false, false, false, true, false, false, false, false, false, false] rfl rfl (by kernel_rfl) (fun _ _ _ h => h) (Or.inl ⟨by rfl, ?_⟩) hHeld ?_ ?_
  rotate_left
  · rintro w' ⟨s0, s1, s2, s3, s4⟩
    go_simp
    with_reducible rfl
  rotate_left
  · simp only [Act.put, List.setIfInBounds_toArray, List.set_cons_zero, List.set_cons_succ, i64_w, i32_w]
    rfl
  refine take_ (i := 10) (N := some 21) (v := ?_) (a' := ?_) #[true, true, false, true, true, false, true, true, false, true, true, false, false, true, false, false, false, false, false, false] rfl rfl (by kernel_rfl) (fun _ _ _ h => h) (Or.inl ⟨by rfl, ?_⟩) hHeld ?_ ?_
  rotate_left
  · rintro w' ⟨s0, s1, s2, s3, s4⟩
    go_simp
    with_reducible rfl
  rotate_left
  · simp only [Act.put, List.setIfInBounds_toArray, List.set_cons_zero, List.set_cons_succ, i64_w, i32_w]
    rfl
  refine take_ (i := 14) (N := some 25) (v := ?_) (a' := ?_) #[true, true, false, true, true, false, true, true, false, true, true, false, false, true, true, false, false, false, false, false] rfl rfl (by kernel_rfl) (fun _ _ _ h => h) (Or.inl ⟨by rfl, ?_⟩) hHeld ?_ ?_
  rotate_left
  · rintro w' ⟨s0, s1, s2, s3, s4⟩
    go_simp
    with_reducible rfl
  rotate_left
  · simp only [Act.put, List.setIfInBounds_toArray, List.set_cons_zero, List.set_cons_succ, i64_w, i32_w]
    rfl
  refine one_ (i := 2) (N := some 13) #[true, true, true, true, true, false, true, true, false, true, true, false, false, true, true, false, false, false, false, false] rfl rfl (by kernel_rfl) (by decide) (fun K hK => ?_)
  refine goes_ Tryd.func23 (by kernel_rfl) rfl #[.int .i64 o.d] (by rfl) rfl rfl (by simp only [List.map_toArray, List.map_cons, List.map_nil]; rfl) ?_
  with_reducible refine (num_z o.d hok.out.d0 (by have := hok.out.d1; omega) _).mono ?_
  rintro e v10 ⟨rfl, hd⟩
  refine ⟨_, rfl, ?_⟩
  have Hv10 := Lib.hid (HD.out.trans (hd.mono HD.out.size))
  clear hd
  refine hK.out _ _ ⟨(hOp Hv10.out).1, (hOp Hv10.out).2.1, (hOp Hv10.out).2.2.1, (hOp Hv10.out).2.2.2.1, (hOp Hv10.out).2.2.2.2⟩ (fun hHeld => ?_)
  clear hK K
  refine norm_ (a' := ?_) ?_ ?_
  rotate_left
  · show Act.put _ (some 13) _ = _
    simp only [Act.put, List.setIfInBounds_toArray, List.set_cons_zero, List.set_cons_succ, i64_w, i32_w]
    rfl
  refine one_ (i := 5) (N := some 16) #[true, true, true, true, true, true, true, true, false, true, true, false, false, true, true, false, false, false, false, false] rfl rfl (by kernel_rfl) (by decide) (fun K hK => ?_)
  refine goes_ Tryd.func24 (by kernel_rfl) rfl #[.string o.p] (by rfl) rfl rfl (by simp only [List.map_toArray, List.map_cons, List.map_nil]; rfl) ?_
  with_reducible refine (str_t o.p _ (by have := hok.out.p; omega)).mono ?_
  rintro e v11 ⟨rfl, hd⟩
  refine ⟨_, rfl, ?_⟩
  have Hv11 := Lib.hid (Hv10.out.trans (hd.mono Hv10.out.size))
  clear hd
  refine hK.out _ _ ⟨(hOp Hv11.out).1, (hOp Hv11.out).2.1, (hOp Hv11.out).2.2.1, (hOp Hv11.out).2.2.2.1, (hOp Hv11.out).2.2.2.2⟩ (fun hHeld => ?_)
  clear hK K
  refine norm_ (a' := ?_) ?_ ?_
  rotate_left
  · show Act.put _ (some 16) _ = _
    simp only [Act.put, List.setIfInBounds_toArray, List.set_cons_zero, List.set_cons_succ, i64_w, i32_w]
    rfl
  refine one_ (i := 8) (N := some 19) #[true, true, true, true, true, true, true, true, true, true, true, false, false, true, true, false, false, false, false, false] rfl rfl (by kernel_rfl) (by decide) (fun K hK => ?_)
  refine goes_ Tryd.func24 (by kernel_rfl) rfl #[.string o.q] (by rfl) rfl rfl (by simp only [List.map_toArray, List.map_cons, List.map_nil]; rfl) ?_
  with_reducible refine (str_t o.q _ (by have := hok.out.q; omega)).mono ?_
  rintro e v12 ⟨rfl, hd⟩
  refine ⟨_, rfl, ?_⟩
  have Hv12 := Lib.hid (Hv11.out.trans (hd.mono Hv11.out.size))
  clear hd
  refine hK.out _ _ ⟨(hOp Hv12.out).1, (hOp Hv12.out).2.1, (hOp Hv12.out).2.2.1, (hOp Hv12.out).2.2.2.1, (hOp Hv12.out).2.2.2.2⟩ (fun hHeld => ?_)
  clear hK K
  refine norm_ (a' := ?_) ?_ ?_
  rotate_left
  · show Act.put _ (some 19) _ = _
    simp only [Act.put, List.setIfInBounds_toArray, List.set_cons_zero, List.set_cons_succ, i64_w, i32_w]
    rfl
  refine one_ (i := 11) (N := some 22) #[true, true, true, true, true, true, true, true, true, true, true, true, false, true, true, false, false, false, false, false] rfl rfl (by kernel_rfl) (by decide) (fun K hK => ?_)
  refine goes_ Tryd.func25 (by kernel_rfl) rfl #[.int .i64 o.n] (by rfl) rfl rfl (by simp only [List.map_toArray, List.map_cons, List.map_nil]; rfl) ?_
  with_reducible refine (turned_c o.n _ hok.out.n0 hok.out.n1).mono ?_
  rintro e v13 ⟨rfl, hd⟩
  refine ⟨_, rfl, ?_⟩
  have Hv13 := Lib.hid (Hv12.out.trans (hd.mono Hv12.out.size))
  clear hd
  refine hK.out _ _ ⟨(hOp Hv13.out).1, (hOp Hv13.out).2.1, (hOp Hv13.out).2.2.1, (hOp Hv13.out).2.2.2.1, (hOp Hv13.out).2.2.2.2⟩ (fun hHeld => ?_)
  clear hK K
  refine norm_ (a' := ?_) ?_ ?_
  rotate_left
  · show Act.put _ (some 22) _ = _
    simp only [Act.put, List.setIfInBounds_toArray, List.set_cons_zero, List.set_cons_succ, i64_w, i32_w]
    rfl
  refine one_ (i := 12) (N := some 23) #[true, true, true, true, true, true, true, true, true, true, true, true, true, true, true, false, false, false, false, false] rfl rfl (by kernel_rfl) (by decide) (fun K hK => ?_)
  refine goes_ Tryd.func23 (by kernel_rfl) rfl #[.int .i64 ((turnN o.n : Nat) : Int)] (by rfl) rfl rfl (by simp only [List.map_toArray, List.map_cons, List.map_nil]; rfl) ?_
  with_reducible refine (num_t (turnN o.n) _ (by have := turnN_le hok.out.n0 hok.out.n1; omega)).mono ?_
  rintro e v14 ⟨rfl, hd⟩
  refine ⟨_, rfl, ?_⟩
  have Hv14 := Lib.hid (Hv13.out.trans (hd.mono Hv13.out.size))
  clear hd
  refine hK.out _ _ ⟨(hOp Hv14.out).1, (hOp Hv14.out).2.1, (hOp Hv14.out).2.2.1, (hOp Hv14.out).2.2.2.1, (hOp Hv14.out).2.2.2.2⟩ (fun hHeld => ?_)
  clear hK K
  refine norm_ (a' := ?_) ?_ ?_
  rotate_left
  · show Act.put _ (some 23) _ = _
    simp only [Act.put, List.setIfInBounds_toArray, List.set_cons_zero, List.set_cons_succ, i64_w, i32_w]
    rfl
  refine one_ (i := 15) (N := some 26) #[true, true, true, true, true, true, true, true, true, true, true, true, true, true, true, true, false, false, false, false] rfl rfl (by kernel_rfl) (by decide) (fun K hK => ?_)
  refine goes_ Tryd.func24 (by kernel_rfl) rfl #[.string o.s] (by rfl) rfl rfl (by simp only [List.map_toArray, List.map_cons, List.map_nil]; rfl) ?_
  with_reducible refine (str_t o.s _ (by have := hok.out.s; omega)).mono ?_
  rintro e v15 ⟨rfl, hd⟩
  refine ⟨_, rfl, ?_⟩
  have Hv15 := Lib.hid (Hv14.out.trans (hd.mono Hv14.out.size))
  clear hd
  refine hK.out _ _ ⟨(hOp Hv15.out).1, (hOp Hv15.out).2.1, (hOp Hv15.out).2.2.1, (hOp Hv15.out).2.2.2.1, (hOp Hv15.out).2.2.2.2⟩ (fun hHeld => ?_)
  clear hK K
  refine norm_ (a' := ?_) ?_ ?_
  rotate_left
  · show Act.put _ (some 26) _ = _
    simp only [Act.put, List.setIfInBounds_toArray, List.set_cons_zero, List.set_cons_succ, i64_w, i32_w]
    rfl
  refine one_ (i := 16) (N := some 27) #[true, true, true, true, true, true, true, true, true, true, true, true, true, true, true, true, true, false, false, false] rfl rfl (by kernel_rfl) (by decide) (fun K hK => ?_)
  refine value_ (w1 := ?_) (v := ?_) (by rfl) rfl ?_ ?_
  rotate_left 2
  · go_simp
    constructor
    · rfl
    · rfl
  have hd : Below v15.heap.size v15 (v15.alloc (Obj.cells #[.string (numS o.d.toNat), .string (strS o.p), .string (strS o.q), .string (numS (turnN o.n)), .string (strS o.s)] 9 (0, 0))) := (Below.refl _ _).alloc (Nat.le_refl _) _
  have HP := Lib.hid (heap_alloc_last v15 (Obj.cells #[.string (numS o.d.toNat), .string (strS o.p), .string (strS o.q), .string (numS (turnN o.n)), .string (strS o.s)] 9 (0, 0)))
  have Hv16 := Lib.hid (Hv15.out.trans (hd.mono Hv15.out.size))
  clear hd
  generalize (v15.alloc (Obj.cells #[.string (numS o.d.toNat), .string (strS o.p), .string (strS o.q), .string (numS (turnN o.n)), .string (strS o.s)] 9 (0, 0))) = v16 at *
  refine hK.out _ _ ⟨(hOp Hv16.out).1, (hOp Hv16.out).2.1, (hOp Hv16.out).2.2.1, (hOp Hv16.out).2.2.2.1, (hOp Hv16.out).2.2.2.2⟩ (fun hHeld => ?_)
  clear hK K
  refine norm_ (a' := ?_) ?_ ?_
  rotate_left
  · show Act.put _ (some 27) _ = _
    simp only [Act.put, List.setIfInBounds_toArray, List.set_cons_zero, List.set_cons_succ, i64_w, i32_w]
    rfl
  refine one_ (i := 17) (N := some 28) #[true, true, true, true, true, true, true, true, true, true, true, true, true, true, true, true, true, true, false, false] rfl rfl (by kernel_rfl) (by decide) (fun K hK => ?_)
  refine goes_ Tryd.func22 (by kernel_rfl) rfl #[.slice (some ⟨v15.heap.size, 0, none⟩) 5 5] (by rfl) rfl rfl (by simp only [List.map_toArray, List.map_cons, List.map_nil]; rfl) ?_
  with_reducible refine (joined5 v15.heap.size _ _ _ _ _ o.lay _ HP (Lib.hid rfl) (by have := Op.lay_size hok.out; omega)).mono ?_
  rintro e v17 ⟨rfl, hd⟩
  refine ⟨_, rfl, ?_⟩
  have Hv17 := Lib.hid (Hv16.out.trans (hd.mono Hv16.out.size))
  clear hd
  refine hK.out _ _ ⟨(hOp Hv17.out).1, (hOp Hv17.out).2.1, (hOp Hv17.out).2.2.1, (hOp Hv17.out).2.2.2.1, (hOp Hv17.out).2.2.2.2⟩ (fun hHeld => ?_)
  clear hK K
  refine norm_ (a' := ?_) ?_ ?_
  rotate_left
  · show Act.put _ (some 28) _ = _
    simp only [Act.put, List.setIfInBounds_toArray, List.set_cons_zero, List.set_cons_succ, i64_w, i32_w]
    rfl
  refine pure_ (i := 18) (N := some 2) (v := ?_) (a' := ?_) #[true, true, true, true, true, true, true, true, true, true, true, true, true, true, true, true, true, true, true, false] rfl rfl (by kernel_rfl) (fun _ _ _ h => h) (Or.inl ⟨by rfl, ?_⟩) ?_ ?_
  rotate_left
  · intro w'
    go_simp
    with_reducible rfl
  rotate_left
  · simp only [Act.put, List.setIfInBounds_toArray, List.set_cons_zero, List.set_cons_succ, i64_w, i32_w]
    rfl
  refine pure_ (i := 19) (N := some 3) (v := ?_) (a' := ?_) #[true, true, true, true, true, true, true, true, true, true, true, true, true, true, true, true, true, true, true, true] rfl rfl (by kernel_rfl) (fun _ _ _ h => h) (Or.inl ⟨by rfl, ?_⟩) ?_ ?_
  rotate_left
  · intro w'
    go_simp
    with_reducible rfl
  rotate_left
  · simp only [Act.put, List.setIfInBounds_toArray, List.set_cons_zero, List.set_cons_succ, i64_w, i32_w]
    rfl
  refine done_ (by kernel_rfl) ?_
  go_wp2_with fail
  go_ret2
  exact ⟨rfl, HX2.out.trans (Hv17.out.mono HX2.out.size)⟩
set_option maxHeartbeats 4000000 in
set_option maxRecDepth 100000 in
theorem lay_no (o : Op) (w : World) (hno : Hid (o.okB = false)) : Calls Tryd.prog 10 #[.agg o.a] w fun e w' => (∃ T u, e = .returned (.tuple #[.string ⟨#[]⟩, .iface T u]) ∧ IsErr w' (.iface T u) 1) ∧ Below w.heap.size w w' := by
  go_enter Tryd.func10, Tryd.ntmps10
  go_wp2_with (first | (refine wl_loadO w.heap.size o (heap_alloc_last _ _) rfl _ rfl rfl ?_))
  have hb1 : Below w.heap.size w (w.alloc (Obj.cells o.a 30 (0, 0))) := (Below.refl _ _).alloc (Nat.le_refl _) _
  have HB1 := Lib.hid (heap_alloc_last w (Obj.cells o.a 30 (0, 0)))
  have HX1 := Lib.hid hb1
  obtain ⟨B, hB⟩ : ∃ B, w.heap.size = B := ⟨_, rfl⟩
  rw [hB] at HB1
  simp only [hB]
  generalize (w.alloc (Obj.cells o.a 30 (0, 0))) = w1 at *
  clear hb1
  refine (right_c o _).mono ?_
  rintro e w2 ⟨rfl, hd⟩
  rw [hno.out]
  have HB2 := blk_to HB1 hd
  have HX2 := Lib.hid (HX1.out.trans (hd.mono HX1.out.size))
  clear hd HB1 HX1
  have hc := (op_cells HB2).2.1
  go_wp2_with fail
  refine (at_err _ o.p 1 _).mono ?_
  rintro e w3 ⟨T, u, rfl, he, hd⟩
  have HE := Lib.hid he
  have HX3 := Lib.hid (HX2.out.trans (hd.mono HX2.out.size))
  clear hd he hc
  go_wp2_with fail
  go_ret2
  exact ⟨⟨T, u, rfl, HE.out⟩, HX3.out⟩
end Go.Proofs.YtabhfopmblaohaaDoor.Opr
