/- Disk.Write where it is refused; Disk.Read. -/
import Derived.Test.YtaodgnladjafoaaDoorDisk2V
set_option linter.unusedVariables false
set_option linter.unusedSimpArgs false
namespace Go.Proofs.YtaodgnladjafoaaDoor.Dk
open Go.RowKit Go.Proofs.YtaodgnladjafoaaDoorW.PrintWords Go.Proofs.YtaodgnladjafoaaDoorW.PrintLast Go.Proofs.YtaodgnladjafoaaDoorW.PrintMore Go.Proofs.YtaodgnladjafoaaDoor.Md
open Go.Extern.Stop (cell)
open Go.Proofs.YtaodgnladjafoaaDoor.Err (Laid IsErr code_nil Chain at_some at_nil)
theorem isErr_mod {w w' : World} {v : Value} {n : Int} {S : Nat → Prop} (h : IsErr w v n) (k : Mod S w w') (hs : ∀ (b : Nat) (cs : Array Value), w.heap[b]? = some (Obj.cells cs 89 (0, 0)) → ¬ S b) : IsErr w' v n := by
  rcases h with h | ⟨l, h⟩
  · exact .inl h
  · exact .inr ⟨l, h.keep (fun b cs hb => k.blk hb (hs b cs hb))⟩
theorem at_err (op path : ByteArray) (n : Int) (w : World) : Calls Tryd.prog 19 #[.string op, .string path, errV n] w fun ev w' => ∃ T x, ev = .returned (.iface T x) ∧ IsErr w' (.iface T x) n ∧ Below w.heap.size w w' := by
  refine (at_some op path _ _ w).mono ?_
  rintro e w' ⟨rfl, rfl⟩
  exact ⟨_, _, rfl, .inr ⟨_, .wrap _ op path _ n [] (heap_alloc_last w _) (.base n)⟩, (Below.refl _ _).alloc (Nat.le_refl _) _⟩
theorem store30 (W : World) (b : Nat) (q p : Pg) (h : W.heap[b]? = some (Obj.cells (pa q) 91 (0, 0))) : (Instr.storeAt 91 (.pointer (some ⟨b, 0, none⟩)) (pv p)).run Tryd.prog W = .ok () (W.setRow b (pa p)) := by
  simp only [Instr.storeAt, Instr.sureAddr, Sem.run_bind, Sem.run_pure, Result.andThen_ok]
  exact run_storeVar_row W b 91 91 (pa q) (pa p) h (by rw [size30, pa_size]) (by rw [pa_size, pa_size]) (pa_one p)
theorem row_at (W : World) (b : Nat) (q p : Pg) (h : W.heap[b]? = some (Obj.cells (pa q) 91 (0, 0))) : (W.setRow b (pa p)).heap[b]? = some (Obj.cells (pa p) 91 (0, 0)) := by
  show (W.heap.modify b _)[b]? = _
  rw [Array.getElem?_modify]
  simp [h]
theorem mod_row (W : World) (b : Nat) (cs : Array Value) : Mod (· = b) W (W.setRow b cs) :=
  ⟨rfl, rfl, rfl, by simp, fun k hk hs => by
    show (W.heap.modify b _)[k]? = _
    rw [Array.getElem?_modify, if_neg (fun e => hs e.symm)]⟩
theorem run_loadVar30 (w : World) (b : Nat) (p : Pg) (h : w.heap[b]? = some (Obj.cells (pa p) 91 (0, 0))) : (loadVar 91 ⟨b, 0, none⟩).run Tryd.prog w = .ok (pv p) w :=
  run_loadVar_row w b 91 91 (pa p) (0, 0) _ h Tryd.underlying91 rfl (by rw [size30, pa_size])
theorem read_results (tmps : Array Value) (W : World) (b : Nat) (p : Pg) (e : Value) (h4 : tmps.getD 4 undef = .pointer (some ⟨b, 0, none⟩)) (h5 : tmps.getD 5 undef = e) (h : W.heap[b]? = some (Obj.cells (pa p) 91 (0, 0))) : (results Tryd.f36 tmps).run Tryd.prog W = .ok (.tuple #[pv p, e]) W := by
  have hl := run_loadVar30 W b p h
  have h4' : tmps[4]?.getD undef = .pointer (some ⟨b, 0, none⟩) := by simpa using h4
  have h5' : tmps[5]?.getD undef = e := by simpa using h5
  simp [results, Tryd.results36, asAddr, h4', h5', hl]
/-! ### whole sectors in a walk: the operations by laws -/
section
variable {ops : Array Oper} {rest : List Oper} {o : Oper} {a : Act} {w : World} {Q : Exit → Act → World → Prop}
theorem wl_build30 (hgd : o.guard = none) (ho : o.op = .build 91 #[]) (h : wpList Tryd.prog ops Q rest (a.put o.dst (pv pz)) w) : wpList Tryd.prog ops Q (o :: rest) a w :=
  Kd.event_run hgd (by unfold execOp; simp only [ho]; kernel_rfl) h
theorem wl_alloc30 (hgd : o.guard = none) (ho : o.op = .alloc 91) (h : wpList Tryd.prog ops Q rest (a.put o.dst (.pointer (some ⟨w.heap.size, 0, none⟩))) (w.alloc (Obj.cells (pa pz) 91 (0, 0)))) : wpList Tryd.prog ops Q (o :: rest) a w :=
  Kd.event_run hgd (by unfold execOp; simp only [ho]; kernel_rfl) h
theorem wl_store30 (b : Nat) (q p : Pg) (hp : w.heap[b]? = some (Obj.cells (pa q) 91 (0, 0))) (hgd : o.guard = none) (x y : Operand) (ho : o.op = .store 91 x y) (hx : a.eval x = .pointer (some ⟨b, 0, none⟩)) (hy : a.eval y = pv p)
    (h : wpList Tryd.prog ops Q rest (a.put o.dst undef) (w.setRow b (pa p))) : wpList Tryd.prog ops Q (o :: rest) a w :=
  wpList_plain hgd fun K hK => by
    unfold Oper.wp execOp
    simp only [ho, hx, hy, store30 w b q p hp, Sem.run_bind, Sem.run_pure, Result.andThen_ok]
    exact hK _ _ h
theorem wl_load30 (b : Nat) (p : Pg) (hp : w.heap[b]? = some (Obj.cells (pa p) 91 (0, 0))) (hgd : o.guard = none) (x : Operand) (ho : o.op = .load 91 x) (hx : a.eval x = .pointer (some ⟨b, 0, none⟩))
    (h : wpList Tryd.prog ops Q rest (a.put o.dst (pv p)) w) : wpList Tryd.prog ops Q (o :: rest) a w :=
  Kd.event_run hgd (by unfold execOp; simp only [ho, hx, run_load30 w b p hp, Sem.run_bind, Sem.run_pure, Result.andThen_ok]) h
end
/-- what stands at a sector: the last write that isn't firm, else what is firm -/
def rd (d : Dsk) (i : Int) : Pg := d.soft.foldl (fun out x => if x.1 = i then x.2 else out) (d.firm i)
set_option maxHeartbeats 1000000 in
set_option maxRecDepth 100000 in
theorem read_may (w : World) (R M : Nat) (v : Value) (d : Dsk) (i : Int) (h : Hid (IsD w R M v d)) (hn : mayN d i ≠ 0) :
    Calls Tryd.prog 36 #[.pointer (some ⟨R, 0, none⟩), .int .i64 i] w fun ev w' => ∃ T x, ev = .returned (.tuple #[pv pz, .iface T x]) ∧ IsErr w' (.iface T x) (mayN d i) ∧ Below w.heap.size w w' := by
  go_enter Tryd.func36, Tryd.ntmps36
  go_wp2_with (first | (refine wl_alloc30 rfl rfl ?_))
  have hA : Below w.heap.size w (w.alloc (Obj.cells (pa pz) 91 (0, 0))) := (Below.refl _ _).alloc (Nat.le_refl _) _
  have hP : (w.alloc (Obj.cells (pa pz) 91 (0, 0))).heap[w.heap.size]? = some (Obj.cells (pa pz) 91 (0, 0)) := heap_alloc_last _ _
  refine (may_c _ R M v d i (Lib.hid (h.out.on hA))).mono ?_
  rintro e w2 ⟨he, hd2⟩
  rw [if_neg hn] at he
  subst he
  have HB2 := Lib.hid (hA.trans (hd2.mono (by simp)))
  have HP2 := Lib.hid ((hd2.block w.heap.size (by simp)).trans hP)
  clear hd2 hA hP
  obtain ⟨n, hn2⟩ : ∃ n, mayN d i = n := ⟨_, rfl⟩
  have HN := Lib.hid hn2
  have hev : errV n = .iface 59 (.int .i64 n) := rfl
  rw [hn2, hev]
  clear hn hn2
  go_wp2_with (first | (refine wl_build30 rfl rfl ?_))
  refine (at_err _ _ n w2).mono ?_
  rintro e w3 ⟨T, x, rfl, he, hd3⟩
  have HE := Lib.hid he
  have HB3 := Lib.hid (HB2.out.trans (hd3.mono HB2.out.size))
  have hP3 := (hd3.block w.heap.size (Err.lt_of_block HP2.out)).trans HP2.out
  clear he hd3
  go_wp2_with (first | (refine wl_store30 w.heap.size pz pz hP3 rfl _ _ rfl rfl rfl ?_))
  (try simp only [Exit.inBlock, Exit.then])
  refine bodyPost_ret (v := .tuple #[pv pz, .iface T x]) ?_ rfl ?_
  · exact read_results _ _ w.heap.size pz (.iface T x) rfl rfl (row_at _ _ pz _ hP3)
  have hM := mod_row w3 w.heap.size (pa pz)
  refine ⟨T, x, rfl, ?_, HB3.out.trans (hM.below HB3.out.size (fun i hi (e : i = w.heap.size) => by omega))⟩
  rw [HN.out]
  exact isErr_mod HE.out hM (fun k cs hk (e : k = w.heap.size) => by subst e; rw [hP3] at hk; simp at hk)
end Go.Proofs.YtaodgnladjafoaaDoor.Dk
