/- Whole sectors in a walk, guarded operations too (XDisk6 without its law's example). -/
import Derived.Test.YtaodgnladjafoaaDoorDisk5V
set_option linter.unusedVariables false
set_option linter.unusedSimpArgs false
namespace Go.Proofs.YtaodgnladjafoaaDoor.Dk
open Go.RowKit Go.Proofs.YtaodgnladjafoaaDoorW.PrintWords Go.Proofs.YtaodgnladjafoaaDoorW.PrintLast Go.Proofs.YtaodgnladjafoaaDoorW.PrintMore Go.Proofs.YtaodgnladjafoaaDoor.Md
open Go.Extern.Stop (cell)
open Go.Proofs.YtaodgnladjafoaaDoor.Err (Laid IsErr code_nil Chain at_some at_nil)
section
variable {ops : Array Oper} {rest : List Oper} {o : Oper} {a : Act} {w : World} {Q : Exit → Act → World → Prop}
theorem wg_run {w1 : World} {v : Value} (hw : Region.wanted o (yielded ops a.tmps) = true) (hrun : (execOp a.eval o).run Tryd.prog w = .ok (.value v) w1) (h : wpList Tryd.prog ops Q rest (a.put o.dst v) w1) : wpList Tryd.prog ops Q (o :: rest) a w :=
  BigFrame.wpList_want hw fun K hK => by
    unfold Oper.wp
    rw [hrun]
    exact hK _ _ h
def p1 : Pg := ⟨1 :: List.replicate 63 0, by simp⟩
theorem eqG (op : BinOp) (x y : Operand) (p q : Pg) (w : World) : (eqGuard op 91 x y (pv p) (pv q)).run Tryd.prog w = .ok () w := run_eqGuard_agg w op 91 x y _ _ (by kernel_rfl)
theorem neqP (p q : Pg) (w : World) : (binOp .neq 91 (pv p) (pv q)).run Tryd.prog w = .ok (.bool (p.1 != q.1)) w := by
  have e : pv p = .agg (p.1.map cell).toArray := rfl
  have e2 : pv q = .agg (q.1.map cell).toArray := rfl
  rw [e, e2, run_neq_struct, run_equalIn_bytes w 9998 91 5 64 Tryd.underlying91 Tryd.underlying5 size5 p.1 q.1 p.2 q.2]
  rfl
end
theorem below_to {B : Nat} {w w1 w2 : World} (h : Hid (Below B w w1)) (hB : B ≤ w.heap.size) (k : Below w1.heap.size w1 w2) : Hid (Below B w w2) :=
  h.out.trans (k.mono (Nat.le_trans hB h.out.size))
theorem blk_to {w1 w2 : World} {k : Nat} {ob : Obj} (h : Hid (w1.heap[k]? = some ob)) (b : Below w1.heap.size w1 w2) : Hid (w2.heap[k]? = some ob) := (b.block k (Err.lt_of_block h.out)).trans h.out
theorem rd_snoc (d : Dsk) (i j : Int) (p : Pg) (b : Int) : rd { d with soft := d.soft ++ [(j, p)], budget := b } i = if j = i then p else rd d i := by
  unfold rd; rw [List.foldl_append]; rfl
theorem mayN_zero {d : Dsk} {i : Int} (h : d.down = false) (h0 : 0 ≤ i) (h1 : i < d.size) : mayN d i = 0 := by
  unfold mayN
  rw [h, if_neg (by simp), if_neg (by omega)]
/-- a disk's blocks lie from B on -/
def Fr (B R M : Nat) (v : Value) : Prop := ∀ i, Ft R M v i → B ≤ i
theorem Fr.nil {B R M : Nat} (hR : B ≤ R) (hM : B ≤ M) : Fr B R M (.slice none 0 0) := by
  rintro i (rfl | rfl | e)
  · exact hR
  · exact hM
  · simp [Value.ownBlock] at e
theorem Fr.write {B R M : Nat} {v v' : Value} {w : World} (h : Fr B R M v) (hB : B ≤ w.heap.size) (hv : v'.ownBlock = v.ownBlock ∨ ∃ b, v'.ownBlock = some b ∧ w.heap.size ≤ b) : Fr B R M v' := by
  rintro i (rfl | rfl | e)
  · exact h _ (.inl rfl)
  · exact h _ (.inr (.inl rfl))
  · rcases hv with g | ⟨b, g, hb⟩
    · exact h i (.inr (.inr (by rw [← g]; exact e)))
    · rw [g] at e; cases e; omega
theorem Fr.settle {B R M : Nat} {v : Value} (h : Fr B R M v) : Fr B R M (.slice none 0 0) := Fr.nil (h _ (.inl rfl)) (h _ (.inr (.inl rfl)))
end Go.Proofs.YtaodgnladjafoaaDoor.Dk
