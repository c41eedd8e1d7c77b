/- What a text put on a disk is read as (plain); a text's place in a walk; a disk that a law made. -/
import Derived.Test.YtaodgnladjafoaaDoorBlob2V
set_option linter.unusedVariables false
set_option linter.unusedSimpArgs false
namespace Go.Proofs.YtaodgnladjafoaaDoor.Blb
open Go.Proofs.YtaodgnladjafoaaDoor.AdM (sum)
open Go.RowKit Go.Proofs.YtaodgnladjafoaaDoor.QStorePuts Go.Proofs.YtaodgnladjafoaaDoorW.PrintWords Go.Proofs.YtaodgnladjafoaaDoorW.PrintLast Go.Proofs.YtaodgnladjafoaaDoorW.PrintMore Go.Proofs.YtaodgnladjafoaaDoor.CdM Go.Proofs.YtaodgnladjafoaaDoor.Md Go.Proofs.YtaodgnladjafoaaDoor.Dk
open Go.Extern.Stop (cell)
open Go.Proofs.YtaodgnladjafoaaDoor.Err (Laid IsErr code_nil Chain at_some at_nil)
theorem sl_length (s : ByteArray) : s.data.toList.length = s.size := by simp
/- where a text lies, in a walk -/
section
variable {ops : Array Oper} {rest : List Oper} {o : Oper} {a : Go.Act} {w : World} {Q : Exit → Go.Act → World → Prop}
theorem ref_one (x y z : Int) : (refA x y z).all (·.oneCell') = true := by simp [Value.oneCell']
theorem sizeR : (Tryd.prog.info? 44).map (·.size) = some 3 := by kernel_rfl
theorem wl_allocR (hgd : o.guard = none) (ho : o.op = .alloc 44) (h : wpList Tryd.prog ops Q rest (a.put o.dst (.pointer (some ⟨w.heap.size, 0, none⟩))) (w.alloc (Obj.cells (refA 0 0 0) 44 (0, 0)))) : wpList Tryd.prog ops Q (o :: rest) a w :=
  Kd.event_run hgd (by unfold execOp; simp only [ho]; kernel_rfl) h
theorem storeR (w : World) (b : Nat) (x0 y0 z0 x y z : Int) (h : w.heap[b]? = some (Obj.cells (refA x0 y0 z0) 44 (0, 0))) : (Instr.storeAt 44 (.pointer (some ⟨b, 0, none⟩)) (.agg (refA x y z))).run Tryd.prog w = .ok () (w.setRow b (refA x y z)) := by
  simp only [Instr.storeAt, Instr.sureAddr, Sem.run_bind, Sem.run_pure, Result.andThen_ok]
  exact run_storeVar_row w b 44 44 (refA x0 y0 z0) (refA x y z) h sizeR rfl (ref_one x y z)
theorem wl_storeRn {W : World} (x0 y0 z0 x y z : Int) (hgd : o.guard = none) (p q : Operand) (ho : o.op = .store 44 p q) (hx : a.eval p = .pointer (some ⟨W.heap.size, 0, none⟩)) (hy : a.eval q = .agg (refA x y z))
    (h : wpList Tryd.prog ops Q rest (a.put o.dst undef) (W.alloc (Obj.cells (refA x y z) 44 (0, 0)))) : wpList Tryd.prog ops Q (o :: rest) a (W.alloc (Obj.cells (refA x0 y0 z0) 44 (0, 0))) :=
  wpList_plain hgd fun K hK => by
    unfold Oper.wp execOp
    simp only [ho, hx, hy, storeR _ W.heap.size x0 y0 z0 x y z (heap_alloc_last _ _), World.setRow_alloc_new, Sem.run_bind, Sem.run_pure, Result.andThen_ok]
    exact hK _ _ h
theorem run_loadR (w : World) (b : Nat) (x y z : Int) (h : w.heap[b]? = some (Obj.cells (refA x y z) 44 (0, 0))) : (Instr.loadAt 44 (.pointer (some ⟨b, 0, none⟩))).run Tryd.prog w = .ok (.agg (refA x y z)) w := by
  simp only [Instr.loadAt, Instr.sureAddr, Sem.run_bind, Sem.run_pure, Result.andThen_ok]
  exact run_loadVar_row w b 44 44 (refA x y z) (0, 0) _ h Tryd.underlying44 rfl (by kernel_rfl)
theorem wl_loadR (b : Nat) (x y z : Int) (hp : w.heap[b]? = some (Obj.cells (refA x y z) 44 (0, 0))) (hgd : o.guard = none) (p : Operand) (ho : o.op = .load 44 p) (hx : a.eval p = .pointer (some ⟨b, 0, none⟩))
    (h : wpList Tryd.prog ops Q rest (a.put o.dst (.agg (refA x y z))) w) : wpList Tryd.prog ops Q (o :: rest) a w :=
  Kd.event_run hgd (by unfold execOp; simp only [ho, hx, run_loadR w b x y z hp, Sem.run_bind, Sem.run_pure, Result.andThen_ok]) h
theorem wg_loadR (b : Nat) (x y z : Int) (hp : w.heap[b]? = some (Obj.cells (refA x y z) 44 (0, 0))) (hw : Region.wanted o (yielded ops a.tmps) = true) (p : Operand) (ho : o.op = .load 44 p) (hx : a.eval p = .pointer (some ⟨b, 0, none⟩))
    (h : wpList Tryd.prog ops Q rest (a.put o.dst (.agg (refA x y z))) w) : wpList Tryd.prog ops Q (o :: rest) a w :=
  wg_run hw (by unfold execOp; simp only [ho, hx, run_loadR w b x y z hp, Sem.run_bind, Sem.run_pure, Result.andThen_ok]) h
end
structure One (W wr : World) (R M : Nat) (v : Value) (d : Dsk) : Prop where
  bel : Below W.heap.size W wr
  dsk : IsD wr R M v d
  fr : Fr W.heap.size R M v
theorem One.on {W wr w2 : World} {R M : Nat} {v : Value} {d : Dsk} (h : One W wr R M v d) (k : Below wr.heap.size wr w2) : One W w2 R M v d := ⟨h.bel.trans (k.mono h.bel.size), h.dsk.on k, h.fr⟩
/-- how many sectors a text takes -/
theorem pages_of (s : ByteArray) (h1 : 1 ≤ s.size) (h2 : s.size ≤ 16384) : pagesV (s.size : Int) = (((s.size + 63) / 64 : Nat) : Int) := by
  unfold pagesV
  rw [if_neg (by omega), if_neg (by omega)]
  omega
end Go.Proofs.YtaodgnladjafoaaDoor.Blb
