/- oper.Read at any bytes, the walk. -/
import Derived.Test.YtabhfopmblaohaaDoorOper4
set_option linter.unusedVariables false
set_option linter.unusedSimpArgs false
namespace Go.Proofs.YtabhfopmblaohaaDoor.Opr
open Go.RowKit Go.Proofs.YtabhfopmblaohaaDoor.QOperBack Go.Proofs.YtabhfopmblaohaaDoorW.PrintWords Go.Proofs.YtabhfopmblaohaaDoorW.PrintLast Go.Proofs.YtabhfopmblaohaaDoorW.PrintMore Go.Proofs.YtabhfopmblaohaaDoor.CdM Go.Proofs.YtabhfopmblaohaaDoor.Md Go.Proofs.YtabhfopmblaohaaDoor.Rdr
open Go.WideShapes
open Go.Proofs.YtabhfopmblaohaaDoor.Err (Laid IsErr code_nil code_c Chain at_some at_nil)
def ea (a b c d e : Value) : Array Value := #[a, b, c, d, e]
theorem wl_allocE {ops : Array Oper} {rest : List Oper} {oo : Oper} {a : Go.Act} {w : World} {Q : Exit → Go.Act → World → Prop} (hgd : oo.guard = none) (ho : oo.op = .alloc 63) (h : wpList Tryd.prog ops Q rest (a.put oo.dst (.pointer (some ⟨w.heap.size, 0, none⟩))) (w.alloc (Obj.cells (ea .nilIface .nilIface .nilIface .nilIface .nilIface) 63 (0, 0)))) : wpList Tryd.prog ops Q (oo :: rest) a w :=
  Kd.event_run hgd (by unfold execOp; simp only [ho]; kernel_rfl) h
theorem run_loadE (w : World) (b : Nat) (x y z u v : Value) (h : w.heap[b]? = some (Obj.cells (ea x y z u v) 63 (0, 0))) : (Instr.loadAt 63 (.pointer (some ⟨b, 0, none⟩))).run Tryd.prog w = .ok (.agg (ea x y z u v)) w := by
  simp only [Instr.loadAt, Instr.sureAddr, Sem.run_bind, Sem.run_pure, Result.andThen_ok]
  exact run_loadVar_row w b 63 63 (ea x y z u v) (0, 0) _ h Tryd.underlying63 rfl (by kernel_rfl)
theorem wl_loadE {ops : Array Oper} {rest : List Oper} {oo : Oper} {a : Go.Act} {w : World} {Q : Exit → Go.Act → World → Prop} (b : Nat) (x y z u v : Value) (hp : w.heap[b]? = some (Obj.cells (ea x y z u v) 63 (0, 0))) (hgd : oo.guard = none) (p_ : Operand) (ho : oo.op = .load 63 p_) (hx : a.eval p_ = .pointer (some ⟨b, 0, none⟩))
    (h : wpList Tryd.prog ops Q rest (a.put oo.dst (.agg (ea x y z u v))) w) : wpList Tryd.prog ops Q (oo :: rest) a w :=
  Kd.event_run hgd (by unfold execOp; simp only [ho, hx, run_loadE w b x y z u v hp, Sem.run_bind, Sem.run_pure, Result.andThen_ok]) h
/-- the walk's state -/
structure St (w wk : World) (R : Nat) (s : ByteArray) (q Z O E : Nat) (o : Op) (es : Array Value) : Prop where
  z : wk.heap[Z]? = some (Obj.cells Op.zero.a 30 (0, 0))
  o : wk.heap[O]? = some (Obj.cells o.a 30 (0, 0))
  e : wk.heap[E]? = some (Obj.cells es 63 (0, 0))
  has : Has wk R s q
  mod : Mod (· = R) w wk
  rz : R < w.heap.size
  hz : w.heap.size ≤ Z
  ho : w.heap.size ≤ O
  he : w.heap.size ≤ E
  zo : ¬ Z = O
  ze : ¬ Z = E
  oe : ¬ O = E
section
variable {w wk w' : World} {R : Nat} {s : ByteArray} {q q' Z O E : Nat} {o o' : Op} {es es' : Array Value}
theorem St.call (h : St w wk R s q Z O E o es) (hm : Mod (· = R) wk w') (hh : Has w' R s q') : St w w' R s q' Z O E o es :=
  have := h.rz; have := h.hz; have := h.ho; have := h.he
  ⟨hm.blk h.z (by omega), hm.blk h.o (by omega), hm.blk h.e (by omega), hh, h.mod.tr hm, h.rz, h.hz, h.ho, h.he, h.zo, h.ze, h.oe⟩
theorem St.mod2 (h : St w wk R s q Z O E o es) (i j : Nat) (u v : Value) : Mod (fun k => k = O ∨ k = E) wk ((wk.setCell ⟨O, i, none⟩ u).setCell ⟨E, j, none⟩ v) :=
  ((Mod.refl _ _).set _ _ (.inl (.inl rfl))).set _ _ (.inl (.inr rfl))
theorem set_blk {W : World} {b : Nat} {cs : Array Value} {t : TypeId} (h : W.heap[b]? = some (Obj.cells cs t (0, 0))) (j : Nat) (u : Value) : (W.setCell ⟨b, j, none⟩ u).heap[b]? = some (Obj.cells (cs.setIfInBounds j u) t (0, 0)) := by
  show (W.heap.modify b _)[b]? = _
  rw [Array.getElem?_modify]
  simp [h]
theorem St.set (h : St w wk R s q Z O E o es) (i j : Nat) (u v : Value) (h1 : o.a.setIfInBounds i u = o'.a) (h2 : es.setIfInBounds j v = es') : St w ((wk.setCell ⟨O, i, none⟩ u).setCell ⟨E, j, none⟩ v) R s q Z O E o' es' := by
  have hm := h.mod2 i j u v
  have hoe := h.oe
  have := h.rz; have := h.hz; have := h.ho; have := h.he
  refine ⟨hm.blk h.z (by rintro (e | e); exact h.zo e; exact h.ze e), ?_, ?_, hm.blk h.has (by rintro (e | e) <;> omega), ?_, h.rz, h.hz, h.ho, h.he, h.zo, h.ze, h.oe⟩
  · rw [← h1]
    have h3 := set_blk h.o i u
    exact (Below.heap_setCell _ ⟨E, j, none⟩ v O hoe).trans h3
  · rw [← h2]
    have h3 : (wk.setCell ⟨O, i, none⟩ u).heap[E]? = some (Obj.cells es 63 (0, 0)) := (Below.heap_setCell wk ⟨O, i, none⟩ u E (fun e => hoe e.symm)).trans h.e
    exact set_blk h3 j v
  · exact (h.mod.set _ _ (.inr h.ho)).set _ _ (.inr h.he)
theorem St.err (h : St w wk R s q Z O E o es) (i j : Nat) (u v : Value) (T : TypeId) (x : Value) (hi : IsErr wk (.iface T x) 13) : IsErr ((wk.setCell ⟨O, i, none⟩ u).setCell ⟨E, j, none⟩ v) (.iface T x) 13 :=
  Rdr.isErr_mod hi (h.mod2 i j u v) (fun b cs hb hf => by
    rcases hf with rfl | rfl
    · rw [h.o] at hb; simp at hb
    · rw [h.e] at hb; simp at hb)
theorem St.errc (h : St w wk R s q Z O E o es) (hm : Mod (· = R) wk w') (T : TypeId) (x : Value) (hi : IsErr wk (.iface T x) 13) : IsErr w' (.iface T x) 13 := Rdr.isErr_has hi h.has hm
theorem St.co (h : St w wk R s q Z O E o es) (i : Nat) : wk.cell? ⟨O, i, none⟩ = o.a[i]? := Err.cell_of_blk h.o i
theorem St.ce (h : St w wk R s q Z O E o es) (i : Nat) : wk.cell? ⟨E, i, none⟩ = es[i]? := Err.cell_of_blk h.e i
theorem St.fo (h : St w wk R s q Z O E o es) (i : Nat) : wk.frozen? ⟨O, i, none⟩ = false := by simp [World.frozen?, h.o]
theorem St.fe (h : St w wk R s q Z O E o es) (i : Nat) : wk.frozen? ⟨E, i, none⟩ = false := by simp [World.frozen?, h.e]
end
theorem read_results (tmps : Array Value) (W : World) (b : Nat) (o : Op) (e : Value) (h4 : tmps.getD 2 undef = .pointer (some ⟨b, 0, none⟩)) (h5 : tmps.getD 3 undef = e) (h : W.heap[b]? = some (Obj.cells o.a 30 (0, 0))) : (results Tryd.f16 tmps).run Tryd.prog W = .ok (.tuple #[.agg o.a, e]) W := by
  have hl : (loadVar 30 ⟨b, 0, none⟩).run Tryd.prog W = .ok (.agg o.a) W := run_loadVar_row W b 30 30 o.a (0, 0) _ h Tryd.underlying30 rfl (by kernel_rfl)
  have h4' : tmps[2]?.getD undef = .pointer (some ⟨b, 0, none⟩) := by simpa using h4
  have h5' : tmps[3]?.getD undef = e := by simpa using h5
  simp [results, Tryd.results16, asAddr, h4', h5', hl]
theorem mod_row (W : World) (b : Nat) (cs : Array Value) : Mod (· = b) W (W.setRow b cs) :=
  ⟨rfl, rfl, rfl, by simp, fun k hk hs => by
    show (W.heap.modify b _)[k]? = _
    rw [Array.getElem?_modify, if_neg (fun e => hs e.symm)]⟩
theorem run_storeE (w : World) (b j : Nat) (v old : Value) (hv : Ev v) (hc : w.cell? ⟨b, j, none⟩ = some old) (hf : w.frozen? ⟨b, j, none⟩ = false) : (Instr.storeAt 27 (.pointer (some ⟨b, j, none⟩)) v).run Tryd.prog w = .ok () (w.setCell ⟨b, j, none⟩ v) := by
  have ha := Tryd.isAgg27
  rcases hv with rfl | ⟨T, x, rfl⟩
  · go_simp
  · go_simp
theorem wl_storeV {ops : Array Oper} {rest : List Oper} {oo : Oper} {a : Go.Act} {w : World} {Q : Exit → Go.Act → World → Prop} (b j : Nat) (v old : Value) (hv : Ev v) (hc : w.cell? ⟨b, j, none⟩ = some old) (hf : w.frozen? ⟨b, j, none⟩ = false) (hgd : oo.guard = none) (p_ q_ : Operand) (ho : oo.op = .store 27 p_ q_) (hx : a.eval p_ = .pointer (some ⟨b, j, none⟩)) (hy : a.eval q_ = v)
    (h : wpList Tryd.prog ops Q rest (a.put oo.dst undef) (w.setCell ⟨b, j, none⟩ v)) : wpList Tryd.prog ops Q (oo :: rest) a w :=
  wpList_plain hgd fun K hK => by
    unfold Oper.wp execOp
    simp only [ho, hx, hy, Sem.run_bind, run_storeE w b j v old hv hc hf, Result.andThen_ok]
    exact hK _ _ h
theorem ix0 (w : World) (x y z u v : Value) : (Instr.index 63 (.agg (ea x y z u v)) (.int .i64 0)).run Tryd.prog w = .ok x w := by kernel_rfl
theorem ix1 (w : World) (x y z u v : Value) : (Instr.index 63 (.agg (ea x y z u v)) (.int .i64 1)).run Tryd.prog w = .ok y w := by kernel_rfl
theorem ix2 (w : World) (x y z u v : Value) : (Instr.index 63 (.agg (ea x y z u v)) (.int .i64 2)).run Tryd.prog w = .ok z w := by kernel_rfl
theorem ix3 (w : World) (x y z u v : Value) : (Instr.index 63 (.agg (ea x y z u v)) (.int .i64 3)).run Tryd.prog w = .ok u w := by kernel_rfl
theorem ix4 (w : World) (x y z u v : Value) : (Instr.index 63 (.agg (ea x y z u v)) (.int .i64 4)).run Tryd.prog w = .ok v w := by kernel_rfl
theorem run_indexE (w : World) (x y z u v V : Value) (i : Nat) (hi : i < 5) (h : (ea x y z u v)[i]? = some V) : (Instr.index 63 (.agg (ea x y z u v)) (.int .i64 (i : Int))).run Tryd.prog w = .ok V w := by
  match i, hi, h with
  | 0, _, h =>
    have e : x = V := by simpa [ea] using h
    rw [← e]
    exact ix0 w x y z u v
  | 1, _, h =>
    have e : y = V := by simpa [ea] using h
    rw [← e]
    exact ix1 w x y z u v
  | 2, _, h =>
    have e : z = V := by simpa [ea] using h
    rw [← e]
    exact ix2 w x y z u v
  | 3, _, h =>
    have e : u = V := by simpa [ea] using h
    rw [← e]
    exact ix3 w x y z u v
  | 4, _, h =>
    have e : v = V := by simpa [ea] using h
    rw [← e]
    exact ix4 w x y z u v
theorem wl_indexE {ops : Array Oper} {rest : List Oper} {oo : Oper} {a : Go.Act} {w : World} {Q : Exit → Go.Act → World → Prop} (x y z u v V : Value) (i : Nat) (hi : i < 5) (hc : (ea x y z u v)[i]? = some V) (hgd : oo.guard = none) (p_ q_ : Operand) (ho : oo.op = .index 63 p_ q_) (hx : a.eval p_ = .agg (ea x y z u v)) (hy : a.eval q_ = .int .i64 (i : Int))
    (h : wpList Tryd.prog ops Q rest (a.put oo.dst V) w) : wpList Tryd.prog ops Q (oo :: rest) a w :=
  Kd.event_run hgd (by unfold execOp; simp only [ho, hx, hy, run_indexE w x y z u v V i hi hc, Sem.run_bind, Sem.run_pure, Result.andThen_ok]) h
theorem cell_far {W : World} {O E i j : Nat} {u v : Value} (h : W.cell? ⟨E, j, none⟩ = some v) (hne : ¬ O = E) : (W.setCell ⟨O, i, none⟩ u).cell? ⟨E, j, none⟩ = some v :=
  (World.cell?_setCell_other _ _ _ _ (fun e => hne (congrArg Addr.block e))).trans h
theorem frozen_far {W : World} {O E i j : Nat} {u : Value} (h : W.frozen? ⟨E, j, none⟩ = false) (hne : ¬ O = E) : (W.setCell ⟨O, i, none⟩ u).frozen? ⟨E, j, none⟩ = false := by
  have := Below.heap_setCell W ⟨O, i, none⟩ u E (fun e => hne e.symm)
  rw [← h]; simp [World.frozen?, this]
set_option maxHeartbeats 16000000 in
set_option maxRecDepth 100000 in
theorem read_any (R : Nat) (s : ByteArray) (p : Nat) (w : World) (h : Hid (Has w R s p)) (hs : s.size ≤ 4611686018427387904) :
    Calls Tryd.prog 16 #[.pointer (some ⟨R, 0, none⟩)] w fun ev w' => ∃ o e q, ev = .returned (.tuple #[.agg o.a, e]) ∧ OpRd w' s p o e q ∧ Mod (· = R) w w' ∧ Has w' R s q := by
  have hRl := Err.lt_of_block h.out
  go_enter Tryd.func16, Tryd.ntmps16
  go_wp2_with (first
    | (refine wl_allocO rfl rfl ?_)
    | (refine wl_allocE rfl rfl ?_))
  obtain ⟨g1, g2, g3⟩ := Rdr.alloc3 w (Obj.cells Op.zero.a 30 (0, 0)) (Obj.cells Op.zero.a 30 (0, 0)) (Obj.cells (ea .nilIface .nilIface .nilIface .nilIface .nilIface) 63 (0, 0))
  have hb3 : Below w.heap.size w (((w.alloc (Obj.cells Op.zero.a 30 (0, 0))).alloc (Obj.cells Op.zero.a 30 (0, 0))).alloc (Obj.cells (ea .nilIface .nilIface .nilIface .nilIface .nilIface) 63 (0, 0))) := by
    have h3 : ∀ o1 o2 o3 : Obj, Below w.heap.size w (((w.alloc o1).alloc o2).alloc o3) := fun o1 o2 o3 => (((Below.refl _ _).alloc (Nat.le_refl _) _).alloc (by simp) _).alloc (by simp; omega) _
    exact h3 _ _ _
  (try rw [show (w.alloc (Obj.cells Op.zero.a 30 (0, 0))).heap.size = w.heap.size + 1 by simp])
  (try rw [show ((w.alloc (Obj.cells Op.zero.a 30 (0, 0))).alloc (Obj.cells Op.zero.a 30 (0, 0))).heap.size = w.heap.size + 1 + 1 by simp])
  obtain ⟨Z, hZ⟩ : ∃ Z, w.heap.size = Z := ⟨_, rfl⟩
  obtain ⟨O, hO⟩ : ∃ O, w.heap.size + 1 = O := ⟨_, rfl⟩
  obtain ⟨E, hE⟩ : ∃ E, w.heap.size + 1 + 1 = E := ⟨_, rfl⟩
  have HS1 := Lib.hid (show St w (((w.alloc (Obj.cells Op.zero.a 30 (0, 0))).alloc (Obj.cells Op.zero.a 30 (0, 0))).alloc (Obj.cells (ea .nilIface .nilIface .nilIface .nilIface .nilIface) 63 (0, 0))) R s p Z O E Op.zero (ea .nilIface .nilIface .nilIface .nilIface .nilIface) from
    ⟨by rw [← hZ]; exact g1, by rw [← hO]; exact g2, by rw [← hE]; exact g3, (hb3.block R hRl).trans h.out, Mod.of_below hb3 (Nat.le_refl _), hRl, by omega, by omega, by omega, by omega, by omega, by omega⟩)
  have hOE : (O = E) = False := eq_false (by omega)
  have hEO : (E = O) = False := eq_false (by omega)
  (try rw [hE])
  (try rw [hO])
  (try simp only [hE])
  (try simp only [hO])
  (try simp only [hZ])
  generalize (((w.alloc (Obj.cells Op.zero.a 30 (0, 0))).alloc (Obj.cells Op.zero.a 30 (0, 0))).alloc (Obj.cells (ea .nilIface .nilIface .nilIface .nilIface .nilIface) 63 (0, 0))) = w1 at *
  clear g1 g2 g3 hb3 hE hO hZ
  refine (num_any R s p 6 w1 (Lib.hid HS1.out.has) hs).mono ?_
  rintro e w2 ⟨n1, e1, q1, rfl, ha, hm, hh⟩
  have HS2 := Lib.hid (HS1.out.call hm hh)
  have A1_2 := Lib.hid ha
  clear hm hh HS1 
  have c0 := HS2.out.co 0
  have c1 := HS2.out.ce 0
  have f0 := HS2.out.fo 0
  have f1 := HS2.out.fe 0
  have c0 : w2.cell? ⟨O, 0, none⟩ = some (.int .i64 0) := c0
  have c1 : w2.cell? ⟨E, 0, none⟩ = some .nilIface := c1
  have hev : Ev e1 := by rcases num_ev A1_2.out with h | ⟨T, x, h, _⟩; exact .inl h; exact .inr ⟨T, x, h⟩
  have c1 := cell_far (i := 0) (u := (.int .i64 n1)) c1 HS2.out.oe
  have f1 := frozen_far (i := 0) (u := (.int .i64 n1)) f1 HS2.out.oe
  have HS3 := Lib.hid (HS2.out.set (o' := ⟨n1, ⟨#[]⟩, ⟨#[]⟩, 0, ⟨#[]⟩⟩) (es' := ea e1 .nilIface .nilIface .nilIface .nilIface) 0 0 (.int .i64 n1) e1 rfl rfl)
  have A1_3 := Lib.hid (A1_2.out.on (fun T x e hi => by rw [e] at hi ⊢; exact HS2.out.err 0 0 (.int .i64 n1) e1 T x hi))
  go_wp2_with (first | (refine wl_storeV E 0 e1 .nilIface hev c1 f1 rfl _ _ rfl rfl rfl ?_))
  generalize ((w2.setCell ⟨O, 0, none⟩ (.int .i64 n1)).setCell ⟨E, 0, none⟩ e1) = w3 at *
  clear c0 c1 f0 f1 hev HS2 A1_2
  refine (str_any R s q1 54 w3 (Lib.hid HS3.out.has) hs).mono ?_
  rintro e w4 ⟨t2, e2, q2, rfl, ha, hm, hh⟩
  have HS4 := Lib.hid (HS3.out.call hm hh)
  have A1_4 := Lib.hid (A1_3.out.on (fun T x e hi => by rw [e] at hi ⊢; exact HS3.out.errc hm T x hi))
  have A2_4 := Lib.hid ha
  clear hm hh HS3 A1_3
  have c0 := HS4.out.co 1
  have c1 := HS4.out.ce 1
  have f0 := HS4.out.fo 1
  have f1 := HS4.out.fe 1
  have c0 : w4.cell? ⟨O, 1, none⟩ = some (.string ⟨#[]⟩) := c0
  have c1 : w4.cell? ⟨E, 1, none⟩ = some .nilIface := c1
  have hev : Ev e2 := by rcases str_ev A2_4.out with h | ⟨T, x, h, _⟩; exact .inl h; exact .inr ⟨T, x, h⟩
  have c1 := cell_far (i := 1) (u := (.string t2)) c1 HS4.out.oe
  have f1 := frozen_far (i := 1) (u := (.string t2)) f1 HS4.out.oe
  have HS5 := Lib.hid (HS4.out.set (o' := ⟨n1, t2, ⟨#[]⟩, 0, ⟨#[]⟩⟩) (es' := ea e1 e2 .nilIface .nilIface .nilIface) 1 1 (.string t2) e2 rfl rfl)
  have A1_5 := Lib.hid (A1_4.out.on (fun T x e hi => by rw [e] at hi ⊢; exact HS4.out.err 1 1 (.string t2) e2 T x hi))
  have A2_5 := Lib.hid (A2_4.out.on (fun T x e hi => by rw [e] at hi ⊢; exact HS4.out.err 1 1 (.string t2) e2 T x hi))
  go_wp2_with (first | (refine wl_storeV E 1 e2 .nilIface hev c1 f1 rfl _ _ rfl rfl rfl ?_))
  generalize ((w4.setCell ⟨O, 1, none⟩ (.string t2)).setCell ⟨E, 1, none⟩ e2) = w5 at *
  clear c0 c1 f0 f1 hev HS4 A1_4 A2_4
  refine (str_any R s q2 54 w5 (Lib.hid HS5.out.has) hs).mono ?_
  rintro e w6 ⟨t3, e3, q3, rfl, ha, hm, hh⟩
  have HS6 := Lib.hid (HS5.out.call hm hh)
  have A1_6 := Lib.hid (A1_5.out.on (fun T x e hi => by rw [e] at hi ⊢; exact HS5.out.errc hm T x hi))
  have A2_6 := Lib.hid (A2_5.out.on (fun T x e hi => by rw [e] at hi ⊢; exact HS5.out.errc hm T x hi))
  have A3_6 := Lib.hid ha
  clear hm hh HS5 A1_5 A2_5
  have c0 := HS6.out.co 2
  have c1 := HS6.out.ce 2
  have f0 := HS6.out.fo 2
  have f1 := HS6.out.fe 2
  have c0 : w6.cell? ⟨O, 2, none⟩ = some (.string ⟨#[]⟩) := c0
  have c1 : w6.cell? ⟨E, 2, none⟩ = some .nilIface := c1
  have hev : Ev e3 := by rcases str_ev A3_6.out with h | ⟨T, x, h, _⟩; exact .inl h; exact .inr ⟨T, x, h⟩
  have c1 := cell_far (i := 2) (u := (.string t3)) c1 HS6.out.oe
  have f1 := frozen_far (i := 2) (u := (.string t3)) f1 HS6.out.oe
  have HS7 := Lib.hid (HS6.out.set (o' := ⟨n1, t2, t3, 0, ⟨#[]⟩⟩) (es' := ea e1 e2 e3 .nilIface .nilIface) 2 2 (.string t3) e3 rfl rfl)
  have A1_7 := Lib.hid (A1_6.out.on (fun T x e hi => by rw [e] at hi ⊢; exact HS6.out.err 2 2 (.string t3) e3 T x hi))
  have A2_7 := Lib.hid (A2_6.out.on (fun T x e hi => by rw [e] at hi ⊢; exact HS6.out.err 2 2 (.string t3) e3 T x hi))
  have A3_7 := Lib.hid (A3_6.out.on (fun T x e hi => by rw [e] at hi ⊢; exact HS6.out.err 2 2 (.string t3) e3 T x hi))
  go_wp2_with (first | (refine wl_storeV E 2 e3 .nilIface hev c1 f1 rfl _ _ rfl rfl rfl ?_))
  generalize ((w6.setCell ⟨O, 2, none⟩ (.string t3)).setCell ⟨E, 2, none⟩ e3) = w7 at *
  clear c0 c1 f0 f1 hev HS6 A1_6 A2_6 A3_6
  refine (num_any R s q3 2147483648 w7 (Lib.hid HS7.out.has) hs).mono ?_
  rintro e w8 ⟨n4, e4, q4, rfl, ha, hm, hh⟩
  have HS8 := Lib.hid (HS7.out.call hm hh)
  have A1_8 := Lib.hid (A1_7.out.on (fun T x e hi => by rw [e] at hi ⊢; exact HS7.out.errc hm T x hi))
  have A2_8 := Lib.hid (A2_7.out.on (fun T x e hi => by rw [e] at hi ⊢; exact HS7.out.errc hm T x hi))
  have A3_8 := Lib.hid (A3_7.out.on (fun T x e hi => by rw [e] at hi ⊢; exact HS7.out.errc hm T x hi))
  have A4_8 := Lib.hid ha
  clear hm hh HS7 A1_7 A2_7 A3_7
  have hn0 := (show 0 ≤ n4 ∧ n4 ≤ 2147483648 from ⟨NumAt.nonneg A4_8.out, NumAt.most A4_8.out (by decide)⟩)
  go_wp2_with fail
  refine (back_c n4 _ hn0.1 hn0.2).mono ?_
  rintro e w9 ⟨rfl, hd⟩
  have hm := Mod.of_below (S := (· = R)) hd (Nat.le_refl _)
  have HS9 := Lib.hid (HS8.out.call hm ((hd.block R (Err.lt_of_block HS8.out.has)).trans HS8.out.has))
  have A1_9 := Lib.hid (A1_8.out.on (fun T x _ hi => hi.on hd))
  have A2_9 := Lib.hid (A2_8.out.on (fun T x _ hi => hi.on hd))
  have A3_9 := Lib.hid (A3_8.out.on (fun T x _ hi => hi.on hd))
  have A4_9 := Lib.hid (A4_8.out.on (fun T x _ hi => hi.on hd))
  clear hm hd hn0 HS8 A1_8 A2_8 A3_8 A4_8
  have c0 := HS9.out.co 3
  have c1 := HS9.out.ce 3
  have f0 := HS9.out.fo 3
  have f1 := HS9.out.fe 3
  have c0 : w9.cell? ⟨O, 3, none⟩ = some (.int .i64 0) := c0
  have c1 : w9.cell? ⟨E, 3, none⟩ = some .nilIface := c1
  have hev : Ev e4 := by rcases num_ev A4_9.out with h | ⟨T, x, h, _⟩; exact .inl h; exact .inr ⟨T, x, h⟩
  have c1 := cell_far (i := 3) (u := (.int .i64 (backN n4))) c1 HS9.out.oe
  have f1 := frozen_far (i := 3) (u := (.int .i64 (backN n4))) f1 HS9.out.oe
  have HS10 := Lib.hid (HS9.out.set (o' := ⟨n1, t2, t3, backN n4, ⟨#[]⟩⟩) (es' := ea e1 e2 e3 e4 .nilIface) 3 3 (.int .i64 (backN n4)) e4 rfl rfl)
  have A1_10 := Lib.hid (A1_9.out.on (fun T x e hi => by rw [e] at hi ⊢; exact HS9.out.err 3 3 (.int .i64 (backN n4)) e4 T x hi))
  have A2_10 := Lib.hid (A2_9.out.on (fun T x e hi => by rw [e] at hi ⊢; exact HS9.out.err 3 3 (.int .i64 (backN n4)) e4 T x hi))
  have A3_10 := Lib.hid (A3_9.out.on (fun T x e hi => by rw [e] at hi ⊢; exact HS9.out.err 3 3 (.int .i64 (backN n4)) e4 T x hi))
  have A4_10 := Lib.hid (A4_9.out.on (fun T x e hi => by rw [e] at hi ⊢; exact HS9.out.err 3 3 (.int .i64 (backN n4)) e4 T x hi))
  go_wp2_with (first | (refine wl_storeV E 3 e4 .nilIface hev c1 f1 rfl _ _ rfl rfl rfl ?_))
  generalize ((w9.setCell ⟨O, 3, none⟩ (.int .i64 (backN n4))).setCell ⟨E, 3, none⟩ e4) = w10 at *
  clear c0 c1 f0 f1 hev HS9 A1_9 A2_9 A3_9 A4_9
  refine (str_any R s q4 256 w10 (Lib.hid HS10.out.has) hs).mono ?_
  rintro e w11 ⟨t5, e5, q5, rfl, ha, hm, hh⟩
  have HS11 := Lib.hid (HS10.out.call hm hh)
  have A1_11 := Lib.hid (A1_10.out.on (fun T x e hi => by rw [e] at hi ⊢; exact HS10.out.errc hm T x hi))
  have A2_11 := Lib.hid (A2_10.out.on (fun T x e hi => by rw [e] at hi ⊢; exact HS10.out.errc hm T x hi))
  have A3_11 := Lib.hid (A3_10.out.on (fun T x e hi => by rw [e] at hi ⊢; exact HS10.out.errc hm T x hi))
  have A4_11 := Lib.hid (A4_10.out.on (fun T x e hi => by rw [e] at hi ⊢; exact HS10.out.errc hm T x hi))
  have A5_11 := Lib.hid ha
  clear hm hh HS10 A1_10 A2_10 A3_10 A4_10
  have c0 := HS11.out.co 4
  have c1 := HS11.out.ce 4
  have f0 := HS11.out.fo 4
  have f1 := HS11.out.fe 4
  have c0 : w11.cell? ⟨O, 4, none⟩ = some (.string ⟨#[]⟩) := c0
  have c1 : w11.cell? ⟨E, 4, none⟩ = some .nilIface := c1
  have hev : Ev e5 := by rcases str_ev A5_11.out with h | ⟨T, x, h, _⟩; exact .inl h; exact .inr ⟨T, x, h⟩
  have c1 := cell_far (i := 4) (u := (.string t5)) c1 HS11.out.oe
  have f1 := frozen_far (i := 4) (u := (.string t5)) f1 HS11.out.oe
  have HS12 := Lib.hid (HS11.out.set (o' := ⟨n1, t2, t3, backN n4, t5⟩) (es' := ea e1 e2 e3 e4 e5) 4 4 (.string t5) e5 rfl rfl)
  have A1_12 := Lib.hid (A1_11.out.on (fun T x e hi => by rw [e] at hi ⊢; exact HS11.out.err 4 4 (.string t5) e5 T x hi))
  have A2_12 := Lib.hid (A2_11.out.on (fun T x e hi => by rw [e] at hi ⊢; exact HS11.out.err 4 4 (.string t5) e5 T x hi))
  have A3_12 := Lib.hid (A3_11.out.on (fun T x e hi => by rw [e] at hi ⊢; exact HS11.out.err 4 4 (.string t5) e5 T x hi))
  have A4_12 := Lib.hid (A4_11.out.on (fun T x e hi => by rw [e] at hi ⊢; exact HS11.out.err 4 4 (.string t5) e5 T x hi))
  have A5_12 := Lib.hid (A5_11.out.on (fun T x e hi => by rw [e] at hi ⊢; exact HS11.out.err 4 4 (.string t5) e5 T x hi))
  have HA := Lib.hid (show Five ((w11.setCell ⟨O, 4, none⟩ (.string t5)).setCell ⟨E, 4, none⟩ e5) s p n1 e1 q1 t2 e2 q2 t3 e3 q3 n4 e4 q4 t5 e5 q5 from ⟨A1_12.out, A2_12.out, A3_12.out, A4_12.out, A5_12.out⟩)
  go_wp2_with (first
    | (refine wl_storeV E 4 e5 .nilIface hev c1 f1 rfl _ _ rfl rfl rfl ?_)
    | (refine wl_loadE E e1 e2 e3 e4 e5 HS12.out.e rfl _ rfl rfl ?_))
  generalize ((w11.setCell ⟨O, 4, none⟩ (.string t5)).setCell ⟨E, 4, none⟩ e5) = w12 at *
  clear c0 c1 f0 f1 hev HS11 A1_11 A2_11 A3_11 A4_11 A5_11 A1_12 A2_12 A3_12 A4_12 A5_12
  clear hOE hEO
  go_loopg [49] 5 (fun kq v0 wr => ∃ (i : Nat), v0 = .int .i64 (i : Int) ∧ kq + i = 5 ∧ wr = w12 ∧ Hid (∀ j, j < i → [e1, e2, e3, e4, e5].getD j .nilIface = .nilIface))
  case atStart => exact ⟨0, rfl, rfl, rfl, Lib.hid (fun j hj => by omega)⟩
  case round =>
    obtain ⟨i, rfl, hk, rfl, HN⟩ := hrel
    cases gk with
    | zero =>
      have hi5 : i = 5 := by omega
      subst hi5
      obtain rfl : e1 = .nilIface := HN.out 0 (by omega)
      obtain rfl : e2 = .nilIface := HN.out 1 (by omega)
      obtain rfl : e3 = .nilIface := HN.out 2 (by omega)
      obtain rfl : e4 = .nilIface := HN.out 3 (by omega)
      obtain rfl : e5 = .nilIface := HN.out 4 (by omega)
      obtain ⟨g1, g2, g3⟩ := HA.out.good
      obtain ⟨o, ho⟩ : ∃ o : Op, o = ⟨n1, t2, t3, backN n4, t5⟩ := ⟨_, rfl⟩
      rw [← ho] at g1 g2 g3
      have HSo := Lib.hid (show St w wr R s q5 Z O E o _ from by rw [ho]; exact HS12.out)
      have HG := Lib.hid (show OpRd (wr.setRow Z o.a) s p o .nilIface q5 from .inl ⟨rfl, g1, g2, g3⟩)
      clear g1 g2 g3 HN HA hk HS12 ho
      go_wp2_with (first
        | (refine wl_loadO O o HSo.out.o rfl _ rfl rfl ?_)
        | (refine wl_storeO Z Op.zero.a rfl o HSo.out.z rfl _ _ rfl rfl rfl ?_))
      (try simp only [Exit.inBlock, Exit.then])
      refine bodyPost_ret (v := .tuple #[.agg o.a, .nilIface]) ?_ rfl ?_
      · exact read_results _ _ Z o .nilIface rfl rfl (setRow_heap _ _ _ _ _ _ HSo.out.z)
      have hm := mod_row wr Z o.a
      refine ⟨o, .nilIface, q5, rfl, HG.out, HSo.out.mod.trans hm (fun i hi (e : i = Z) => by have := HSo.out.hz; omega), hm.blk HSo.out.has (fun e => by have := HSo.out.hz; have := HSo.out.rz; omega)⟩
    | succ k1 =>
      have c1 : decide ((i : Int) < 5) = true := decide_eq_true (by omega)
      have c1' : decide (i < 5) = true := decide_eq_true (by omega)
      have q9 : IntKind.i64.wrap ((i : Int) + 1) = (i : Int) + 1 := IntWalk.i64_in _ (by omega)
      have hi5 : i < 5 := by omega
      have p1 : (0 ≤ (i : Int)) = True := eq_true (by omega)
      have p2 : ((i : Int) < 5) = True := eq_true (by omega)
      have hv := HA.out.ev i hi5
      obtain ⟨V, hV⟩ : ∃ V, [e1, e2, e3, e4, e5].getD i .nilIface = V := ⟨_, rfl⟩
      have hc : (ea e1 e2 e3 e4 e5)[i]? = some V := by
        rw [← hV]
        match i, hi5 with
        | 0, _ => rfl
        | 1, _ => rfl
        | 2, _ => rfl
        | 3, _ => rfl
        | 4, _ => rfl
      rw [hV] at hv
      have HV := Lib.hid hV
      clear hV
      rcases hv with rfl | ⟨T, x, rfl, hi13⟩
      · go_wp2_with (first | (refine wl_indexE e1 e2 e3 e4 e5 _ i hi5 hc rfl _ _ rfl rfl rfl ?_))
        go_roundg k1
        case measure => exact Nat.lt_succ_self _
        case rel => exact ⟨i + 1, by simp, by omega, rfl, Lib.hid (fun j hj => by
          by_cases e : j = i
          · rw [e]; exact HV.out
          · exact HN.out j (by omega))⟩
      · have HBad := Lib.hid (HA.out.bad hi5 HV.out)
        have HI := Lib.hid hi13
        clear hi13 HA HN
        go_wp2_with (first
          | (refine wl_indexE e1 e2 e3 e4 e5 _ i hi5 hc rfl _ _ rfl rfl rfl ?_)
          | (refine wl_storeO Z Op.zero.a rfl Op.zero HS12.out.z rfl _ _ rfl rfl rfl ?_))
        (try simp only [Exit.inBlock, Exit.then])
        refine bodyPost_ret (v := .tuple #[.agg Op.zero.a, .iface T x]) ?_ rfl ?_
        · exact read_results _ _ Z Op.zero (.iface T x) rfl rfl (setRow_heap _ _ _ _ _ _ HS12.out.z)
        have hm := mod_row wr Z Op.zero.a
        have hie : IsErr (wr.setRow Z Op.zero.a) (.iface T x) 13 := Rdr.isErr_mod HI.out hm (fun b cs hb (e : b = Z) => by rw [e, HS12.out.z] at hb; simp at hb)
        exact ⟨Op.zero, .iface T x, _, rfl, .inr ⟨⟨T, x, rfl, hie⟩, rfl, HBad.out⟩, HS12.out.mod.trans hm (fun i hi (e : i = Z) => by have := HS12.out.hz; omega), hm.blk HS12.out.has (fun e => by have := HS12.out.hz; have := HS12.out.rz; omega)⟩
end Go.Proofs.YtabhfopmblaohaaDoor.Opr
