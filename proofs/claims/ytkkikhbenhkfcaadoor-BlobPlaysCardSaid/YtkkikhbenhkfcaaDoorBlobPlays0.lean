/- The document's sectors of a text; Put where no text may lie. -/
import Derived.Test.YtkkikhbenhkfcaaDoorBlobBack0
import Derived.Test.YtkkikhbenhkfcaaDoorRefSum
set_option linter.unusedVariables false
set_option linter.unusedSimpArgs false
namespace Go.Proofs.YtkkikhbenhkfcaaDoor.Blb
open Go.Proofs.YtkkikhbenhkfcaaDoor.AdM (sum)
open Go.RowKit Go.Proofs.YtkkikhbenhkfcaaDoor.QBlobBack Go.Proofs.YtkkikhbenhkfcaaDoorW.PrintWords Go.Proofs.YtkkikhbenhkfcaaDoorW.PrintLast Go.Proofs.YtkkikhbenhkfcaaDoorW.PrintMore Go.Proofs.YtkkikhbenhkfcaaDoor.CdM Go.Proofs.YtkkikhbenhkfcaaDoor.Md Go.Proofs.YtkkikhbenhkfcaaDoor.Dk
open Go.Extern.Stop (cell)
open Go.Proofs.YtkkikhbenhkfcaaDoor.Err (Laid IsErr code_nil Chain at_some at_nil)
/-- rows of sectors -/
def pk : Kd Pg where
  sz := 64
  E := []
  K := fun _ x cs => cs = pcs x
  M := fun _ _ _ x cs => cs = pcs x
  K_len := fun h => by rw [h]; exact pcs_length _
  K_one := fun h u hu => by rw [h] at hu; exact pcs_one _ u hu
  K_below := fun _ h => h
  K_of_M := fun h => h
  M_mono := fun _ h => h
  M_bound := fun h => h
  M_move := fun _ h => h
  M_lower := fun _ h => h
/-- the sectors of the first i bytes -/
def ps (s : ByteArray) (i : Nat) : List Pg := (List.range ((i + 63) / 64)).map (fun k => pgOf (s.extract 0 i) k)
theorem ps_length (s : ByteArray) (i : Nat) : (ps s i).length = (i + 63) / 64 := by simp [ps]
theorem ext_size (s : ByteArray) (i : Nat) (h : i ≤ s.size) : (s.extract 0 i).size = i := by rw [ByteArray.size_extract]; omega
theorem ext_list (s : ByteArray) (i : Nat) : (s.extract 0 i).data.toList = s.data.toList.take i := by
  rw [ByteArray.data_extract, Array.toList_extract, List.extract_eq_take_drop, List.drop_zero, Nat.sub_zero]
theorem pg_ext (p q : Pg) (h : ∀ j, j < 64 → p.1[j]? = q.1[j]?) : p = q := by
  apply Subtype.ext
  apply List.ext_getElem?
  intro j
  by_cases hj : j < 64
  · exact h j hj
  · rw [List.getElem?_eq_none (by rw [p.2]; omega), List.getElem?_eq_none (by rw [q.2]; omega)]
theorem ext_get (s : ByteArray) (i q : Nat) (h : i ≤ s.size) : (s.extract 0 i).data.toList.getD q 0 = if q < i then s.data.toList.getD q 0 else 0 := by
  rw [ext_list, List.getD_eq_getElem?_getD, List.getElem?_take]
  split
  · rw [List.getD_eq_getElem?_getD]
  · rfl
/-- a further byte -/
theorem pg_more (s : ByteArray) (i k : Nat) (h : i < s.size) : pgOf (s.extract 0 (i + 1)) k = if k = i / 64 then pset (pgOf (s.extract 0 i) k) (i % 64) (s[i]'h) else pgOf (s.extract 0 i) k := by
  have hs := sl_length s
  have hb : s.data.toList.getD i 0 = s[i]'h := by
    rw [List.getD_eq_getElem?_getD, List.getElem?_eq_getElem (by omega)]
    rfl
  apply pg_ext
  intro j hj
  rw [pg_get _ _ _ hj, ext_get _ _ _ (by omega)]
  by_cases hk : k = i / 64
  · rw [if_pos hk]
    show _ = ((pgOf (s.extract 0 i) k).1.set (i % 64) (s[i]'h))[j]?
    rw [List.getElem?_set]
    by_cases hj2 : i % 64 = j
    · rw [if_pos hj2, if_pos (show k * 64 + j < i + 1 by omega), if_pos (by rw [(pgOf (s.extract 0 i) k).2]; omega), show k * 64 + j = i by omega, hb]
    · rw [if_neg hj2, pg_get _ _ _ hj, ext_get _ _ _ (by omega)]
      by_cases h3 : k * 64 + j < i
      · rw [if_pos (by omega), if_pos h3]
      · rw [if_neg (by omega), if_neg h3]
  · rw [if_neg hk, pg_get _ _ _ hj, ext_get _ _ _ (by omega)]
    by_cases h3 : k * 64 + j < i
    · rw [if_pos (by omega), if_pos h3]
    · rw [if_neg (by omega), if_neg h3]
theorem pg_none (s : ByteArray) (i : Nat) (hi : i ≤ s.size) (h : i % 64 = 0) : pgOf (s.extract 0 i) (i / 64) = pz := by
  apply pg_ext
  intro j hj
  rw [pg_get _ _ _ hj, ext_get _ _ _ hi, if_neg (by omega)]
  show _ = (List.replicate 64 (0 : UInt8))[j]?
  rw [List.getElem?_replicate, if_pos hj]
/-- a sector more where one begins -/
def ps0 (s : ByteArray) (i : Nat) : List Pg := if i % 64 = 0 then ps s i ++ [pz] else ps s i
theorem ps0_length (s : ByteArray) (i : Nat) : (ps0 s i).length = i / 64 + 1 := by
  unfold ps0
  split
  · rw [List.length_append, ps_length]; simp; omega
  · rw [ps_length]; omega
theorem ps0_get (s : ByteArray) (i k : Nat) (hi : i ≤ s.size) (hk : k ≤ i / 64) : (ps0 s i)[k]? = some (pgOf (s.extract 0 i) k) := by
  unfold ps0
  by_cases h : i % 64 = 0
  · rw [if_pos h]
    by_cases h2 : k < (i + 63) / 64
    · rw [List.getElem?_append_left (by rw [ps_length]; exact h2)]
      unfold ps
      rw [List.getElem?_map, List.getElem?_range h2]; rfl
    · rw [List.getElem?_append_right (by rw [ps_length]; omega), ps_length, show k - (i + 63) / 64 = 0 by omega, show k = i / 64 by omega, pg_none s i hi h]
      rfl
  · rw [if_neg h]
    unfold ps
    rw [List.getElem?_map, List.getElem?_range (by omega)]; rfl
theorem ps_next (s : ByteArray) (i : Nat) (h : i < s.size) : (ps0 s i).set (i / 64) (pset (pgOf (s.extract 0 i) (i / 64)) (i % 64) (s[i]'h)) = ps s (i + 1) := by
  have hl := ps0_length s i
  apply List.ext_getElem?
  intro k
  rw [List.getElem?_set]
  by_cases hk : k ≤ i / 64
  · have e : (ps s (i + 1))[k]? = some (pgOf (s.extract 0 (i + 1)) k) := by
      unfold ps
      rw [List.getElem?_map, List.getElem?_range (by omega)]; rfl
    rw [e, pg_more s i k h]
    by_cases h2 : i / 64 = k
    · rw [if_pos h2, if_pos (by omega), if_pos h2.symm, h2]
    · rw [if_neg h2, if_neg (fun e => h2 e.symm), ps0_get s i k (by omega) hk]
  · rw [if_neg (by omega), List.getElem?_eq_none (by omega), List.getElem?_eq_none (by rw [ps_length]; omega)]
theorem ps_full (s : ByteArray) (k : Nat) (hk : k < (s.size + 63) / 64) : (ps s s.size)[k]? = some (pgOf s k) := by
  have e : s.extract 0 s.size = s := by
    apply ByteArray.ext
    apply Array.toList_inj.1
    rw [ext_list, List.take_of_length_le (by rw [sl_length]; exact Nat.le_refl _)]
  unfold ps
  rw [List.getElem?_map, List.getElem?_range hk, e]; rfl
theorem zeroB (w : World) : (zeroValue 38).run Tryd.prog w = .ok (pv pz) w := by kernel_rfl
theorem sizeB : (Tryd.prog.info? 38).map (·.size) = some 64 := by kernel_rfl
theorem infoB : (Tryd.prog.info? 38).map (fun i => (i.zero, i.size, i.bytes)) = some (some (pv pz), pk.sz, 64) := by kernel_rfl
section
variable {ops : Array Oper} {rest : List Oper} {o : Oper} {a : Go.Act} {w : World} {Q : Exit → Go.Act → World → Prop}
theorem wl_buildB (hgd : o.guard = none) (ho : o.op = .build 38 #[]) (h : wpList Tryd.prog ops Q rest (a.put o.dst (pv pz)) w) : wpList Tryd.prog ops Q (o :: rest) a w :=
  Kd.event_run hgd (by unfold execOp; simp only [ho]; kernel_rfl) h
theorem wl_allocB (hgd : o.guard = none) (ho : o.op = .alloc 38) (h : wpList Tryd.prog ops Q rest (a.put o.dst (.pointer (some ⟨w.heap.size, 0, none⟩))) (w.alloc (Obj.cells (pa pz) 38 (0, 0)))) : wpList Tryd.prog ops Q (o :: rest) a w :=
  Kd.event_run hgd (by unfold execOp; simp only [ho]; kernel_rfl) h
theorem storeB (W : World) (b : Nat) (q p : Pg) (h : W.heap[b]? = some (Obj.cells (pa q) 38 (0, 0))) : (Instr.storeAt 38 (.pointer (some ⟨b, 0, none⟩)) (pv p)).run Tryd.prog W = .ok () (W.setRow b (pa p)) := by
  simp only [Instr.storeAt, Instr.sureAddr, Sem.run_bind, Sem.run_pure, Result.andThen_ok]
  exact run_storeVar_row W b 38 38 (pa q) (pa p) h (by rw [sizeB, pa_size]) (by rw [pa_size, pa_size]) (pa_one p)
theorem wl_storeBn {W : World} (q p : Pg) (hgd : o.guard = none) (x y : Operand) (ho : o.op = .store 38 x y) (hx : a.eval x = .pointer (some ⟨W.heap.size, 0, none⟩)) (hy : a.eval y = pv p)
    (h : wpList Tryd.prog ops Q rest (a.put o.dst undef) (W.alloc (Obj.cells (pa p) 38 (0, 0)))) : wpList Tryd.prog ops Q (o :: rest) a (W.alloc (Obj.cells (pa q) 38 (0, 0))) :=
  wpList_plain hgd fun K hK => by
    unfold Oper.wp execOp
    simp only [ho, hx, hy, storeB _ W.heap.size q p (heap_alloc_last _ _), World.setRow_alloc_new, Sem.run_bind, Sem.run_pure, Result.andThen_ok]
    exact hK _ _ h
theorem loadPB (w : World) (b off : Nat) (p : Pg) (hr : w.rangeAt b off (pcs p)) : (Instr.loadAt 38 (.pointer (some ⟨b, off, none⟩))).run Tryd.prog w = .ok (pv p) w := by
  rw [run_loadAt_mid w b off 38 (pcs p) _ hr Tryd.underlying38 rfl (by rw [sizeB, pcs_length])]
  rfl
theorem wl_loadPB (b off : Nat) (p : Pg) (hr : w.rangeAt b off (pcs p)) (hgd : o.guard = none) (x : Operand) (ho : o.op = .load 38 x) (hx : a.eval x = .pointer (some ⟨b, off, none⟩))
    (h : wpList Tryd.prog ops Q rest (a.put o.dst (pv p)) w) : wpList Tryd.prog ops Q (o :: rest) a w :=
  Kd.event_run hgd (by unfold execOp; simp only [ho, hx, loadPB w b off p hr, Sem.run_bind, Sem.run_pure, Result.andThen_ok]) h
theorem wg_loadPB (b off : Nat) (p : Pg) (hr : w.rangeAt b off (pcs p)) (hw : Region.wanted o (yielded ops a.tmps) = true) (x : Operand) (ho : o.op = .load 38 x) (hx : a.eval x = .pointer (some ⟨b, off, none⟩))
    (h : wpList Tryd.prog ops Q rest (a.put o.dst (pv p)) w) : wpList Tryd.prog ops Q (o :: rest) a w :=
  wg_run hw (by unfold execOp; simp only [ho, hx, loadPB w b off p hr, Sem.run_bind, Sem.run_pure, Result.andThen_ok]) h
theorem wg_buildR (hw : Region.wanted o (yielded ops a.tmps) = true) (ho : o.op = .build 30 #[]) (h : wpList Tryd.prog ops Q rest (a.put o.dst (.agg (refA 0 0 0))) w) : wpList Tryd.prog ops Q (o :: rest) a w :=
  wg_run hw (by unfold execOp; simp only [ho]; kernel_rfl) h
end
theorem range_row (w : World) (b : Nat) (p : Pg) (h : w.heap[b]? = some (Obj.cells (pa p) 38 (0, 0))) : w.rangeAt b 0 (pcs p) := by
  intro j u hu
  rw [Nat.zero_add, Err.cell_of_blk h, ← hu, ← pa_list, Array.getElem?_toList]
end Go.Proofs.YtkkikhbenhkfcaaDoor.Blb
