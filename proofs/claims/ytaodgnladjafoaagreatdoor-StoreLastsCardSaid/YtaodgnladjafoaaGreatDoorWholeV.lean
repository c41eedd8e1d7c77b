/- Words that the proof uses. -/
import Derived.Test.YtaodgnladjafoaaGreatDoorDisk25V
set_option linter.unusedVariables false
set_option linter.unusedSimpArgs false
namespace Go.Proofs.YtaodgnladjafoaaGreatDoor.Dk
open Go.RowKit Go.Proofs.YtaodgnladjafoaaGreatDoorW.PrintWords Go.Proofs.YtaodgnladjafoaaGreatDoorW.PrintLast Go.Proofs.YtaodgnladjafoaaGreatDoorW.PrintMore Go.Proofs.YtaodgnladjafoaaGreatDoor.Md
open Go.Extern.Stop (cell)
open Go.Proofs.YtaodgnladjafoaaGreatDoor.Err (Laid IsErr code_nil Chain at_some at_nil)
section
variable {ops : Array Oper} {rest : List Oper} {o : Oper} {a : Act} {w : World} {Q : Exit → Act → World → Prop}
theorem eqG (op : BinOp) (x y : Operand) (p q : Pg) (w : World) : (eqGuard op 100 x y (pv p) (pv q)).run Tryz.prog w = .ok () w := run_eqGuard_agg w op 100 x y _ _ (by kernel_rfl)
theorem neqP (p q : Pg) (w : World) : (binOp .neq 100 (pv p) (pv q)).run Tryz.prog w = .ok (.bool (p.1 != q.1)) w := by
  have e : pv p = .agg (p.1.map cell).toArray := rfl
  have e2 : pv q = .agg (q.1.map cell).toArray := rfl
  rw [e, e2, run_neq_struct, run_equalIn_bytes w 9998 100 5 64 Tryz.underlying100 Tryz.underlying5 size5 p.1 q.1 p.2 q.2]
  rfl
end
theorem below_to {B : Nat} {w w1 w2 : World} (h : Hid (Below B w w1)) (hB : B ≤ w.heap.size) (k : Below w1.heap.size w1 w2) : Hid (Below B w w2) :=
  h.out.trans (k.mono (Nat.le_trans hB h.out.size))
theorem blk_to {w1 w2 : World} {k : Nat} {ob : Obj} (h : Hid (w1.heap[k]? = some ob)) (b : Below w1.heap.size w1 w2) : Hid (w2.heap[k]? = some ob) := (b.block k (Err.lt_of_block h.out)).trans h.out
theorem rd_snoc (d : Dsk) (i j : Int) (p : Pg) (b : Int) : rd { d with soft := d.soft ++ [(j, p)], budget := b } i = if j = i then p else rd d i := by
  unfold rd; rw [List.foldl_append]; rfl
theorem mayN_zero {d : Dsk} {i : Int} (h : d.down = false) (h0 : 0 ≤ i) (h1 : i < d.size) : mayN d i = 0 := by
  unfold mayN
  rw [h, if_neg (by simp), if_neg (by omega)]
end Go.Proofs.YtaodgnladjafoaaGreatDoor.Dk
