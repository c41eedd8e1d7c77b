/- What a text put on a disk is read as (plain); a text's place in a walk; a disk that a law made. -/
import Derived.Test.YtaodgnladjafoaaDoorBlob2V
set_option linter.unusedVariables false
set_option linter.unusedSimpArgs false
namespace Go.Proofs.YtaodgnladjafoaaDoor.Blb
open Go.Proofs.YtaodgnladjafoaaDoor.AdM (sum)
open Go.RowKit Go.Proofs.YtaodgnladjafoaaDoor.QStorePuts Go.Proofs.YtaodgnladjafoaaDoorW.PrintWords Go.Proofs.YtaodgnladjafoaaDoorW.PrintLast Go.Proofs.YtaodgnladjafoaaDoorW.PrintMore Go.Proofs.YtaodgnladjafoaaDoor.CdM Go.Proofs.YtaodgnladjafoaaDoor.Md Go.Proofs.YtaodgnladjafoaaDoor.Dk
open Go.Extern.Stop (cell)
open Go.Proofs.YtaodgnladjafoaaDoor.Err (Laid IsErr code_nil Chain at_some at_nil)
theorem rd_pgs (d : Dsk) (s : ByteArray) (x j : Int) : ∀ n : Nat, rd { d with soft := d.soft ++ pgs s x n } j = if x ≤ j ∧ j < x + (n : Int) then pgOf s (j - x).toNat else rd d j
  | 0 => by
    rw [if_neg (by omega)]
    show rd { d with soft := d.soft ++ [] } j = _
    rw [List.append_nil]
  | n + 1 => by
    have e : rd { d with soft := d.soft ++ pgs s x (n + 1) } j = if x + (n : Int) = j then pgOf s n else rd { d with soft := d.soft ++ pgs s x n } j := by
      rw [show pgs s x (n + 1) = pgs s x n ++ [(x + (n : Int), pgOf s n)] from rfl]
      unfold Go.Proofs.YtaodgnladjafoaaDoor.Dk.rd
      simp only [List.foldl_append, List.foldl_cons, List.foldl_nil]
    rw [e, rd_pgs d s x j n]
    by_cases h : x + (n : Int) = j
    · rw [if_pos h, if_pos (by omega), show (j - x).toNat = n by omega]
    · rw [if_neg h]
      by_cases h2 : x ≤ j ∧ j < x + (n : Int)
      · rw [if_pos h2, if_pos (by omega)]
      · rw [if_neg h2, if_neg (by omega)]
theorem sl_length (s : ByteArray) : s.data.toList.length = s.size := by simp
theorem over_get (q : Pg) (t : ByteArray) (j : Nat) : (over q t).1[j]? = if j < t.size ∧ j < 64 then t.data.toList[j]? else q.1[j]? := by
  have hq := q.2
  have ht := sl_length t
  unfold over
  show (t.data.toList.take 64 ++ q.1.drop (min t.size 64))[j]? = _
  rw [List.getElem?_append, List.length_take, ht, List.getElem?_take, List.getElem?_drop]
  by_cases h : j < t.size ∧ j < 64
  · rw [if_pos h, if_pos (by omega), if_pos h.2]
  · rw [if_neg h, if_neg (by omega)]
    by_cases h2 : j < 64
    · rw [show min t.size 64 + (j - min 64 t.size) = j by omega]
    · rw [List.getElem?_eq_none (by omega), List.getElem?_eq_none (by omega)]
theorem pg_get (s : ByteArray) (i j : Nat) (hj : j < 64) : (pgOf s i).1[j]? = some (s.data.toList.getD (i * 64 + j) 0) := by
  have hs := sl_length s
  unfold pgOf
  rw [over_get]
  have he : (s.extract (i * 64) s.size).size = s.size - i * 64 := by rw [ByteArray.size_extract]; omega
  rw [he]
  by_cases h : j < s.size - i * 64
  · rw [if_pos ⟨h, hj⟩]
    have : (s.extract (i * 64) s.size).data.toList = s.data.toList.drop (i * 64) := by
      rw [ByteArray.data_extract, Array.toList_extract, List.extract_eq_take_drop, List.take_of_length_le]
      rw [List.length_drop, hs]
      exact Nat.le_refl _
    rw [this, List.getElem?_drop, List.getD_eq_getElem?_getD, List.getElem?_eq_getElem (by omega)]
    rfl
  · rw [if_neg (by omega), List.getD_eq_getElem?_getD, List.getElem?_eq_none (l := s.data.toList) (by omega)]
    show (List.replicate 64 (0 : UInt8))[j]? = _
    rw [List.getElem?_replicate, if_pos hj]
    rfl
theorem gs_get (d : Dsk) (x : Int) : ∀ (n q : Nat), q < n * 64 → (gs d x n)[q]? = some ((((rd d (x + ((q / 64 : Nat) : Int))).1.getD (q % 64) 0).toNat : Nat) : Int)
  | 0, q, h => by omega
  | n + 1, q, h => by
    rw [gs, List.getElem?_append, gs_length]
    by_cases h2 : q < n * 64
    · rw [if_pos h2, gs_get d x n q h2]
    · rw [if_neg h2, show q / 64 = n by omega, show q % 64 = q - n * 64 by omega]
      have h3 := (rd d (x + (n : Int))).2
      unfold bi
      rw [List.getElem?_map, List.getElem?_eq_getElem (by omega), List.getD_eq_getElem?_getD, List.getElem?_eq_getElem (by omega)]
      rfl
/-- sectors that hold a text are read as it -/
theorem gs_text (d : Dsk) (x : Int) (n : Nat) (s : ByteArray) (hn : s.size ≤ n * 64) (h : ∀ i : Nat, i < n → rd d (x + (i : Int)) = pgOf s i) : strOfNums ((gs d x n).take s.size) = s := by
  have e : (gs d x n).take s.size = s.data.toList.map fun b => (b.toNat : Int) := by
    apply List.ext_getElem?
    intro q
    have hs := sl_length s
    rw [List.getElem?_take, List.getElem?_map]
    by_cases hq : q < s.size
    · rw [if_pos hq, gs_get d x n q (by omega), h _ (by omega), List.getD_eq_getElem?_getD, pg_get _ _ _ (by omega), show q / 64 * 64 + q % 64 = q by omega, List.getElem?_eq_getElem (by omega), List.getD_eq_getElem?_getD, List.getElem?_eq_getElem (by omega)]
      rfl
    · rw [if_neg hq, List.getElem?_eq_none (by omega)]
      rfl
  rw [e]
  unfold strOfNums
  apply ByteArray.ext
  apply Array.toList_inj.1
  have e2 : ((fun n : Int => UInt8.ofNat n.toNat) ∘ fun b : UInt8 => ((b.toNat : Nat) : Int)) = id := by funext b; simp
  simp [e2]
/- where a text lies, in a walk -/
section
variable {ops : Array Oper} {rest : List Oper} {o : Oper} {a : Go.Act} {w : World} {Q : Exit → Go.Act → World → Prop}
theorem ref_one (x y z : Int) : (refA x y z).all (·.oneCell') = true := by simp [Value.oneCell']
theorem sizeR : (Tryd.prog.info? 44).map (·.size) = some 3 := by kernel_rfl
theorem wl_allocR (hgd : o.guard = none) (ho : o.op = .alloc 44) (h : wpList Tryd.prog ops Q rest (a.put o.dst (.pointer (some ⟨w.heap.size, 0, none⟩))) (w.alloc (Obj.cells (refA 0 0 0) 44 (0, 0)))) : wpList Tryd.prog ops Q (o :: rest) a w :=
  Kd.event_run hgd (by unfold execOp; simp only [ho]; kernel_rfl) h
theorem storeR (w : World) (b : Nat) (x0 y0 z0 x y z : Int) (h : w.heap[b]? = some (Obj.cells (refA x0 y0 z0) 44 (0, 0))) : (Instr.storeAt 44 (.pointer (some ⟨b, 0, none⟩)) (.agg (refA x y z))).run Tryd.prog w = .ok () (w.setRow b (refA x y z)) := by
  simp only [Instr.storeAt, Instr.sureAddr, Sem.run_bind, Sem.run_pure, Result.andThen_ok]
  exact run_storeVar_row w b 44 44 (refA x0 y0 z0) (refA x y z) h sizeR rfl (ref_one x y z)
theorem wl_storeRn {W : World} (x0 y0 z0 x y z : Int) (hgd : o.guard = none) (p q : Operand) (ho : o.op = .store 44 p q) (hx : a.eval p = .pointer (some ⟨W.heap.size, 0, none⟩)) (hy : a.eval q = .agg (refA x y z))
    (h : wpList Tryd.prog ops Q rest (a.put o.dst undef) (W.alloc (Obj.cells (refA x y z) 44 (0, 0)))) : wpList Tryd.prog ops Q (o :: rest) a (W.alloc (Obj.cells (refA x0 y0 z0) 44 (0, 0))) :=
  wpList_plain hgd fun K hK => by
    unfold Oper.wp execOp
    simp only [ho, hx, hy, storeR _ W.heap.size x0 y0 z0 x y z (heap_alloc_last _ _), World.setRow_alloc_new, Sem.run_bind, Sem.run_pure, Result.andThen_ok]
    exact hK _ _ h
theorem run_loadR (w : World) (b : Nat) (x y z : Int) (h : w.heap[b]? = some (Obj.cells (refA x y z) 44 (0, 0))) : (Instr.loadAt 44 (.pointer (some ⟨b, 0, none⟩))).run Tryd.prog w = .ok (.agg (refA x y z)) w := by
  simp only [Instr.loadAt, Instr.sureAddr, Sem.run_bind, Sem.run_pure, Result.andThen_ok]
  exact run_loadVar_row w b 44 44 (refA x y z) (0, 0) _ h Tryd.underlying44 rfl (by kernel_rfl)
theorem wl_loadR (b : Nat) (x y z : Int) (hp : w.heap[b]? = some (Obj.cells (refA x y z) 44 (0, 0))) (hgd : o.guard = none) (p : Operand) (ho : o.op = .load 44 p) (hx : a.eval p = .pointer (some ⟨b, 0, none⟩))
    (h : wpList Tryd.prog ops Q rest (a.put o.dst (.agg (refA x y z))) w) : wpList Tryd.prog ops Q (o :: rest) a w :=
  Kd.event_run hgd (by unfold execOp; simp only [ho, hx, run_loadR w b x y z hp, Sem.run_bind, Sem.run_pure, Result.andThen_ok]) h
end
structure One (W wr : World) (R M : Nat) (v : Value) (d : Dsk) : Prop where
  bel : Below W.heap.size W wr
  dsk : IsD wr R M v d
  fr : Fr W.heap.size R M v
theorem One.on {W wr w2 : World} {R M : Nat} {v : Value} {d : Dsk} (h : One W wr R M v d) (k : Below wr.heap.size wr w2) : One W w2 R M v d := ⟨h.bel.trans (k.mono h.bel.size), h.dsk.on k, h.fr⟩
/-- how many sectors a text takes -/
theorem pages_of (s : ByteArray) (h1 : 1 ≤ s.size) (h2 : s.size ≤ 16384) : pagesV (s.size : Int) = (((s.size + 63) / 64 : Nat) : Int) := by
  unfold pagesV
  rw [if_neg (by omega), if_neg (by omega)]
  omega
end Go.Proofs.YtaodgnladjafoaaDoor.Blb
