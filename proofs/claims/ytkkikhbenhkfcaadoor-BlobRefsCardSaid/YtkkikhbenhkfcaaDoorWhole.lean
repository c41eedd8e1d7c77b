/- Whole sectors in a walk, guarded operations too (XDisk6 without its law's example). -/
import Derived.Test.YtkkikhbenhkfcaaDoorDisk5
set_option linter.unusedVariables false
set_option linter.unusedSimpArgs false
namespace Go.Proofs.YtkkikhbenhkfcaaDoor.Dk
open Go.RowKit Go.Proofs.YtkkikhbenhkfcaaDoorW.PrintWords Go.Proofs.YtkkikhbenhkfcaaDoorW.PrintLast Go.Proofs.YtkkikhbenhkfcaaDoorW.PrintMore Go.Proofs.YtkkikhbenhkfcaaDoor.Md
open Go.Extern.Stop (cell)
open Go.Proofs.YtkkikhbenhkfcaaDoor.Err (Laid IsErr code_nil Chain at_some at_nil)
section
variable {ops : Array Oper} {rest : List Oper} {o : Oper} {a : Act} {w : World} {Q : Exit → Act → World → Prop}
theorem wg_run {w1 : World} {v : Value} (hw : Region.wanted o (yielded ops a.tmps) = true) (hrun : (execOp a.eval o).run Tryd.prog w = .ok (.value v) w1) (h : wpList Tryd.prog ops Q rest (a.put o.dst v) w1) : wpList Tryd.prog ops Q (o :: rest) a w :=
  BigFrame.wpList_want hw fun K hK => by
    unfold Oper.wp
    rw [hrun]
    exact hK _ _ h
theorem wg_build30 (hw : Region.wanted o (yielded ops a.tmps) = true) (ho : o.op = .build 39 #[]) (h : wpList Tryd.prog ops Q rest (a.put o.dst (pv pz)) w) : wpList Tryd.prog ops Q (o :: rest) a w :=
  wg_run hw (by unfold execOp; simp only [ho]; kernel_rfl) h
def p1 : Pg := ⟨1 :: List.replicate 63 0, by simp⟩
theorem wg_build30_1 (hw : Region.wanted o (yielded ops a.tmps) = true) (ho : o.op = .build 39 #[(0, .const (.int .u8 1))]) (h : wpList Tryd.prog ops Q rest (a.put o.dst (pv p1)) w) : wpList Tryd.prog ops Q (o :: rest) a w :=
  wg_run hw (by unfold execOp; simp only [ho]; kernel_rfl) h
theorem wg_load30 (b : Nat) (p : Pg) (hp : w.heap[b]? = some (Obj.cells (pa p) 39 (0, 0))) (hw : Region.wanted o (yielded ops a.tmps) = true) (x : Operand) (ho : o.op = .load 39 x) (hx : a.eval x = .pointer (some ⟨b, 0, none⟩))
    (h : wpList Tryd.prog ops Q rest (a.put o.dst (pv p)) w) : wpList Tryd.prog ops Q (o :: rest) a w :=
  wg_run hw (by unfold execOp; simp only [ho, hx, run_load30 w b p hp, Sem.run_bind, Sem.run_pure, Result.andThen_ok]) h
theorem wg_loadP (b off : Nat) (p : Pg) (hr : w.rangeAt b off (pcs p)) (hw : Region.wanted o (yielded ops a.tmps) = true) (x : Operand) (ho : o.op = .load 39 x) (hx : a.eval x = .pointer (some ⟨b, off, none⟩))
    (h : wpList Tryd.prog ops Q rest (a.put o.dst (pv p)) w) : wpList Tryd.prog ops Q (o :: rest) a w :=
  wg_run hw (by
    unfold execOp
    simp only [ho, hx, run_loadAt_mid w b off 39 (pcs p) _ hr Tryd.underlying39 rfl (by rw [size30, pcs_length]), Sem.run_bind, Sem.run_pure, Result.andThen_ok]
    rfl) h
theorem eqG (op : BinOp) (x y : Operand) (p q : Pg) (w : World) : (eqGuard op 39 x y (pv p) (pv q)).run Tryd.prog w = .ok () w := run_eqGuard_agg w op 39 x y _ _ (by kernel_rfl)
theorem wg_eql (p q : Pg) (hw : Region.wanted o (yielded ops a.tmps) = true) (x y : Operand) (ho : o.op = .binOp .eql 39 x y 39) (hx : a.eval x = pv p) (hy : a.eval y = pv q)
    (h : wpList Tryd.prog ops Q rest (a.put o.dst (.bool (p.1 == q.1))) w) : wpList Tryd.prog ops Q (o :: rest) a w :=
  wg_run hw (by unfold execOp; simp only [ho, hx, hy, eqG .eql x y p q w, eqlP p q w, Sem.run_bind, Sem.run_pure, Result.andThen_ok]) h
theorem neqP (p q : Pg) (w : World) : (binOp .neq 39 (pv p) (pv q)).run Tryd.prog w = .ok (.bool (p.1 != q.1)) w := by
  have e : pv p = .agg (p.1.map cell).toArray := rfl
  have e2 : pv q = .agg (q.1.map cell).toArray := rfl
  rw [e, e2, run_neq_struct, run_equalIn_bytes w 9998 39 5 64 Tryd.underlying39 Tryd.underlying5 size5 p.1 q.1 p.2 q.2]
  rfl
theorem wg_neq (p q : Pg) (hw : Region.wanted o (yielded ops a.tmps) = true) (x y : Operand) (ho : o.op = .binOp .neq 39 x y 39) (hx : a.eval x = pv p) (hy : a.eval y = pv q)
    (h : wpList Tryd.prog ops Q rest (a.put o.dst (.bool (p.1 != q.1))) w) : wpList Tryd.prog ops Q (o :: rest) a w :=
  wg_run hw (by unfold execOp; simp only [ho, hx, hy, eqG .neq x y p q w, neqP p q w, Sem.run_bind, Sem.run_pure, Result.andThen_ok]) h
end
theorem below_to {B : Nat} {w w1 w2 : World} (h : Hid (Below B w w1)) (hB : B ≤ w.heap.size) (k : Below w1.heap.size w1 w2) : Hid (Below B w w2) :=
  h.out.trans (k.mono (Nat.le_trans hB h.out.size))
theorem mod_to {B : Nat} {w w1 w2 : World} {S : Nat → Prop} (h : Hid (Below B w w1)) (hB : B ≤ w.heap.size) (hR : ∀ i, S i → B ≤ i) (k : Mod S w1 w2) : Hid (Below B w w2) :=
  h.out.trans (k.below (Nat.le_trans hB h.out.size) (by intro i hi e; have := hR i e; omega))
theorem blk_to {w1 w2 : World} {k : Nat} {ob : Obj} (h : Hid (w1.heap[k]? = some ob)) (b : Below w1.heap.size w1 w2) : Hid (w2.heap[k]? = some ob) := (b.block k (Err.lt_of_block h.out)).trans h.out
theorem rd_firm (d : Dsk) (i : Int) (h : d.soft = []) : rd d i = d.firm i := by unfold rd; rw [h]; rfl
theorem rd_snoc (d : Dsk) (i j : Int) (p : Pg) (b : Int) : rd { d with soft := d.soft ++ [(j, p)], budget := b } i = if j = i then p else rd d i := by
  unfold rd; rw [List.foldl_append]; rfl
theorem mayN_zero {d : Dsk} {i : Int} (h : d.down = false) (h0 : 0 ≤ i) (h1 : i < d.size) : mayN d i = 0 := by
  unfold mayN
  rw [h, if_neg (by simp), if_neg (by omega)]
/-- a disk's blocks lie from B on -/
def Fr (B R M : Nat) (v : Value) : Prop := ∀ i, Ft R M v i → B ≤ i
theorem Fr.nil {B R M : Nat} (hR : B ≤ R) (hM : B ≤ M) : Fr B R M (.slice none 0 0) := by
  rintro i (rfl | rfl | e)
  · exact hR
  · exact hM
  · simp [Value.ownBlock] at e
theorem Fr.write {B R M : Nat} {v v' : Value} {w : World} (h : Fr B R M v) (hB : B ≤ w.heap.size) (hv : v'.ownBlock = v.ownBlock ∨ ∃ b, v'.ownBlock = some b ∧ w.heap.size ≤ b) : Fr B R M v' := by
  rintro i (rfl | rfl | e)
  · exact h _ (.inl rfl)
  · exact h _ (.inr (.inl rfl))
  · rcases hv with g | ⟨b, g, hb⟩
    · exact h i (.inr (.inr (by rw [← g]; exact e)))
    · rw [g] at e; cases e; omega
theorem Fr.settle {B R M : Nat} {v : Value} (h : Fr B R M v) : Fr B R M (.slice none 0 0) := Fr.nil (h _ (.inl rfl)) (h _ (.inr (.inl rfl)))
theorem row_to {w1 w2 : World} {R M k : Nat} {v : Value} {d : Dsk} {ob : Obj} (h : Hid (w1.heap[k]? = some ob)) (hd : IsD w1 R M v d) (hk : ∀ i, Ft R M v i → i ≠ k) (m : Mod (Ft R M v) w1 w2) : Hid (w2.heap[k]? = some ob) := m.blk h.out (fun hf => hk k hf rfl)
end Go.Proofs.YtkkikhbenhkfcaaDoor.Dk
