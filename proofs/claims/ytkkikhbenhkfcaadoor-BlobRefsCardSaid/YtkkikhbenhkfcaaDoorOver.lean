/- What Blob's texts have that other seats use too: bytes laid over a sector's, a place of three fields, one disk in a walk; a reader's calls. -/
import Derived.Test.YtkkikhbenhkfcaaDoorBlob0
import Derived.Test.YtkkikhbenhkfcaaDoorReaderAll
import Derived.Test.YtkkikhbenhkfcaaDoorDisk5
import Derived.Laws.CopyRow
import Derived.Laws.BitsAllLaws
set_option linter.unusedVariables false
set_option linter.unusedSimpArgs false
namespace Go.Proofs.YtkkikhbenhkfcaaDoor.Rdr
open Go.RowKit Go.Proofs.YtkkikhbenhkfcaaDoorW.PrintWords Go.Proofs.YtkkikhbenhkfcaaDoorW.PrintLast Go.Proofs.YtkkikhbenhkfcaaDoorW.PrintMore Go.Proofs.YtkkikhbenhkfcaaDoor.CdM Go.Proofs.YtkkikhbenhkfcaaDoor.Md
/-- where a number's bytes stand in a text -/
theorem stands_mid (a c : ByteArray) (y : Nat) : Stands (a ++ numS y ++ c) a.size y := by
  intro j hj
  have hl : (numS y).size = (num y).length := numS_size y
  have h1 : a.size + j < (a ++ numS y ++ c).size := by simp only [ByteArray.size_append]; omega
  refine ⟨h1, ?_⟩
  have e1 : (a ++ numS y ++ c)[a.size + j]'h1 = (numS y)[j]'(by omega) := by
    rw [ByteArray.getElem_append_left (by simp only [ByteArray.size_append]; omega), ByteArray.getElem_append_right (by omega)]
    congr 1; omega
  rw [e1]
  have e2 : (numS y)[j]'(by omega) = (numS y).data.toList[j]'(by rw [Array.length_toList]; have : (numS y).data.size = (numS y).size := rfl; omega) := by
    rw [Array.getElem_toList]; rfl
  rw [e2]
  have e3 : ∀ (l : List UInt8) (h : l = (num y).map UInt8.ofNat) (h2 : j < l.length), (l[j]'h2).toNat = (num y).getD j 0 := by
    intro l h h2
    subst h
    have hj' : j < (num y).length := by simpa using h2
    have hb := num_byte y ((num y)[j]'hj') (List.getElem_mem hj')
    simp [List.getD_eq_getElem?_getD, List.getElem?_eq_getElem hj']
    omega
  exact e3 _ (digs_u8 y) _
theorem below_to {B : Nat} {w w1 w2 : World} (h : Hid (Below B w w1)) (hB : B ≤ w.heap.size) (k : Below w1.heap.size w1 w2) : Hid (Below B w w2) :=
  h.out.trans (k.mono (Nat.le_trans hB h.out.size))
theorem mod_to {B : Nat} {w w1 w2 : World} {R : Nat} (h : Hid (Below B w w1)) (hB : B ≤ w.heap.size) (hR : B ≤ R) (k : Mod (· = R) w1 w2) : Hid (Below B w w2) :=
  h.out.trans (k.below (Nat.le_trans hB h.out.size) (by intro i hi (e : i = R); omega))
theorem bel_has {R : Nat} {w1 w2 : World} {s : ByteArray} {p : Nat} (h : Hid (Has w1 R s p)) (k : Below w1.heap.size w1 w2) : Hid (Has w2 R s p) :=
  Lib.hid (h.out.mod (Mod.of_below (S := fun _ => False) k (Nat.le_refl _)) (fun h => h))
theorem num_v (R : Nat) (s : ByteArray) (p x : Nat) (most : Int) (q : Nat) (w : World) (h : Hid (Has w R s p)) (hst : Hid (Stands s p x)) (hs : s.size ≤ 4611686018427387904) (hx : x ≤ 4611686018427387904) (hxm : (x : Int) ≤ most) (hq : Hid (q = p + (num x).length)) :
    Calls Tryd.prog 29 #[.pointer (some ⟨R, 0, none⟩), .int .i64 most] w fun ev w' => ev = .returned (.tuple #[.int .i64 (x : Int), .nilIface]) ∧ Mod (· = R) w w' ∧ Has w' R s q := by
  rw [hq.out]
  exact num_c R s p x most w h hst hs hx hxm
theorem new_v (s : ByteArray) (w : World) : Calls Tryd.prog 22 #[.string s] w fun ev w' => ∃ R, w.heap.size ≤ R ∧ ev = .returned (.pointer (some ⟨R, 0, none⟩)) ∧ Hid (Has w' R s 0) ∧ Below w.heap.size w w' := by
  refine (new_c s w).mono ?_
  rintro e w' ⟨rfl, h1, h2⟩
  exact ⟨_, Nat.le_refl _, rfl, Lib.hid h1, h2⟩
theorem ext_mid (a t c : ByteArray) (k : Nat) (hk : k = a.size) : (a ++ t ++ c).extract k (k + t.size) = t := by
  subst hk
  rw [ByteArray.append_assoc]
  have e := ByteArray.extract_append_size_add (a := a) (b := t ++ c) (i := 0) (j := t.size)
  rw [Nat.add_zero] at e
  rw [e]
  exact ByteArray.extract_append_eq_left rfl
end Go.Proofs.YtkkikhbenhkfcaaDoor.Rdr
namespace Go.Proofs.YtkkikhbenhkfcaaDoor.Blb
open Go.Proofs.YtkkikhbenhkfcaaDoor.AdM (sum bl A B A_one A_lt)
open Go.RowKit Go.Proofs.YtkkikhbenhkfcaaDoor.QBlobBack Go.Proofs.YtkkikhbenhkfcaaDoorW.PrintWords Go.Proofs.YtkkikhbenhkfcaaDoorW.PrintLast Go.Proofs.YtkkikhbenhkfcaaDoorW.PrintMore Go.Proofs.YtkkikhbenhkfcaaDoor.CdM Go.Proofs.YtkkikhbenhkfcaaDoor.Md Go.Proofs.YtkkikhbenhkfcaaDoor.Dk
open Go.Extern.Stop (cell)
open Go.Proofs.YtkkikhbenhkfcaaDoor.Err (Laid IsErr code_nil Chain at_some at_nil)
/-- a text's bytes laid over a sector's, from its beginning on -/
def over (q : Pg) (s : ByteArray) : Pg := ⟨s.data.toList.take 64 ++ q.1.drop (min s.size 64), by
  have h : s.data.toList.length = s.size := by simp
  rw [List.length_append, List.length_take, List.length_drop, q.2, h]; omega⟩
/-- the i-th sector of a text -/
def pgOf (s : ByteArray) (i : Nat) : Pg := over pz (s.extract (i * 64) s.size)
theorem copy_run (W : World) (g : Nat) (q : Pg) (s : ByteArray) (ty : TypeId) (hg : W.heap[g]? = some (Obj.cells (pa q) 39 (0, 0))) :
    (Builtin.copy_ #[63, 9] ty #[.slice (some ⟨g, 0, none⟩) 64 64, .string s]).run Tryd.prog W = .ok (goInt (Nat.min s.size 64)) (W.setRow g (pa (over q s))) := by
  obtain ⟨cs, hcs⟩ : ∃ cs : List Value, cs = (s.data.toList.take 64).map cell := ⟨_, rfl⟩
  have hsl : s.data.toList.length = s.size := by simp
  have hl : cs.length = Nat.min s.size 64 := by rw [hcs, List.length_map, List.length_take, hsl]; show min 64 s.size = min s.size 64; omega
  have h1 : ∀ v ∈ cs, v.oneCell' = true := by
    intro v hv
    rw [hcs, List.mem_map] at hv
    obtain ⟨b, _, rfl⟩ := hv
    rfl
  have hst := run_storeCells_at Tryd.prog g 0 39 cs 0 (pa q) W hg (by rw [pa_size, hl]; show 0 + 0 + min s.size 64 ≤ 64; omega) h1
  have hrow : ((pa q).toList.take (0 + 0) ++ cs ++ (pa q).toList.drop (0 + 0 + cs.length)).toArray = pa (over q s) := by
    apply Array.toList_inj.1
    rw [pa_list, pa_list]
    simp only [List.take_zero, List.nil_append, Nat.zero_add, hl]
    show cs ++ (q.1.map cell).drop (min s.size 64) = (s.data.toList.take 64 ++ q.1.drop (min s.size 64)).map cell
    rw [List.map_append, hcs, List.map_drop]
  have hc : List.take (Nat.min s.size 64) (List.map (fun b => Value.int .u8 (b.toNat : Int)) s.data.toList) = cs := by
    rw [hcs, ← List.map_take]
    have e : List.take (Nat.min s.size 64) s.data.toList = List.take 64 s.data.toList := by
      rw [List.take_eq_take_iff, hsl]
      show min (min s.size 64) s.size = min 64 s.size
      omega
    rw [e]; rfl
  have hsz : (Tryd.prog.info? 5).map (·.size) = some 1 := by kernel_rfl
  cases hq : Tryd.prog.info? 5 with
  | none => simp [hq] at hsz
  | some i =>
    have hi : i.size = 1 := by simpa [hq] using hsz
    simp [Builtin.copy_, run_underlying Tryd.underlying63, Builtin.lenOf, Builtin.firstCells, sizeOf, typeInfo, hq, hi]
    rw [hc, hst, hrow]
    rfl
theorem step_copy {ops : Array Oper} {o : Oper} {a : Go.Act} {W : World} {K : Go.Act → World → Prop} {Q : Exit → Go.Act → World → Prop} {E : Prop} (hw : Region.wanted o (yielded ops a.tmps) = true) (g : Nat) (q : Pg) (s : ByteArray) (hg : W.heap[g]? = some (Obj.cells (pa q) 39 (0, 0))) (d x : Operand)
    (ho : o.op = .call { callee := .builtin .copy, args := #[d, x], argTypes := #[63, 9] }) (hd : a.eval d = .slice (some ⟨g, 0, none⟩) 64 64) (hx : a.eval x = .string s)
    (h : K (a.put o.dst (goInt (Nat.min s.size 64))) (W.setRow g (pa (over q s)))) : if Region.wanted o (yielded ops a.tmps) = true then Oper.wp Tryd.prog o a W K Q else E := by
  rw [if_pos hw]
  have hrun := copy_run W g q s o.type hg
  unfold Oper.wp
  simp [execOp, ho, resolve, invoke, builtin, hd, hx, hrun, Result.andThen]
  exact h
/-- where a text lies -/
abbrev refA (x y z : Int) : Array Value := #[.int .i64 x, .int .i64 y, .int .u32 z]
theorem ft_new {R M : Nat} {v v' : Value} {w : World} (hv : v'.ownBlock = v.ownBlock ∨ ∃ b, v'.ownBlock = some b ∧ w.heap.size ≤ b) : ∀ i, Ft R M v' i → Ft R M v i ∨ w.heap.size ≤ i := by
  rintro i (rfl | rfl | e)
  · exact .inl (.inl rfl)
  · exact .inl (.inr (.inl rfl))
  · rcases hv with g | ⟨b, g, hb⟩
    · exact .inl (.inr (.inr (by rw [← g]; exact e)))
    · rw [g] at e; cases e; exact .inr hb
theorem set1 {W : World} {b : Nat} {cs : Array Value} {t : TypeId} (h : W.heap[b]? = some (Obj.cells cs t (0, 0))) (j : Nat) (u : Value) : (W.setCell ⟨b, j, none⟩ u).heap[b]? = some (Obj.cells (cs.setIfInBounds j u) t (0, 0)) := by
  show (W.heap.modify b _)[b]? = _
  rw [Array.getElem?_modify]
  simp [h]
theorem set3 {W : World} {b : Nat} {x y z : Int} (h : W.heap[b]? = some (Obj.cells (refA x y z) 30 (0, 0))) (x' y' z' : Int) : (((W.setCell ⟨b, 0, none⟩ (.int .i64 x')).setCell ⟨b, 1, none⟩ (.int .i64 y')).setCell ⟨b, 2, none⟩ (.int .u32 z')).heap[b]? = some (Obj.cells (refA x' y' z') 30 (0, 0)) :=
  set1 (set1 (set1 h 0 _) 1 _) 2 _
theorem ref_keep {w wr : World} {K : Nat} {x y z : Int} (h : w.heap[K]? = some (Obj.cells (refA x y z) 30 (0, 0))) (hb : Below w.heap.size w wr) : wr.cell? ⟨K, 0, none⟩ = some (.int .i64 x) ∧ wr.cell? ⟨K, 1, none⟩ = some (.int .i64 y) ∧ wr.cell? ⟨K, 2, none⟩ = some (.int .u32 z) := by
  have h2 := (hb.block K (Err.lt_of_block h)).trans h
  exact ⟨Err.cell_of_blk h2 0, Err.cell_of_blk h2 1, Err.cell_of_blk h2 2⟩
/-- a sector's bytes as numbers -/
def bi (p : Pg) : List Int := p.1.map fun b => (b.toNat : Int)
theorem bi_length (p : Pg) : (bi p).length = 64 := by simp [bi, p.2]
theorem info5 : (Tryd.prog.info? 5).map (fun i => (i.zero, i.size, i.bytes)) = some (some (.int .u8 0), 1, 1) := by kernel_rfl
theorem reads_pg (W : World) (g : Nat) (p : Pg) (h : W.heap[g]? = some (Obj.cells (pa p) 39 (0, 0))) : ReadsRow ((Kd.int .u8).K W) 1 W (some ⟨g, 0, none⟩) 64 (bi p) := by
  refine ⟨bi_length p, by decide, fun _ => ⟨_, rfl, fun j y hj => ⟨[.int .u8 y], rfl, ?_, fun i u hu => ?_⟩⟩⟩
  · rfl
  · rcases i with _ | i
    · simp at hu
      subst hu
      rw [Addr.add_mid, Nat.mul_one, Nat.add_zero]
      rw [Err.cell_of_blk h]
      have hj2 : j < 64 := by
        rcases Nat.lt_or_ge j 64 with e | e
        · exact e
        · rw [List.getElem?_eq_none (by rw [bi_length]; exact e)] at hj; cases hj
      simp only [bi, List.getElem?_map] at hj
      simp only [pa, cell, Nat.zero_add, List.getElem?_toArray, List.getElem?_map]
      cases hq : p.1[j]? with
      | none => rw [hq] at hj; cases hj
      | some b => rw [hq] at hj; simp at hj; simp [cell, hj]
    · simp at hu
theorem mayN0 {d : Dsk} {i : Int} (h : d.down = false) (h0 : 0 ≤ i) (h1 : i < d.size) : mayN d i = 0 := by
  unfold mayN; rw [h, if_neg (by decide), if_neg (by omega)]
theorem sl_length (s : ByteArray) : s.data.toList.length = s.size := by simp
theorem over_get (q : Pg) (t : ByteArray) (j : Nat) : (over q t).1[j]? = if j < t.size ∧ j < 64 then t.data.toList[j]? else q.1[j]? := by
  have hq := q.2
  have ht := sl_length t
  unfold over
  show (t.data.toList.take 64 ++ q.1.drop (min t.size 64))[j]? = _
  rw [List.getElem?_append, List.length_take, ht, List.getElem?_take, List.getElem?_drop]
  by_cases h : j < t.size ∧ j < 64
  · rw [if_pos h, if_pos (by omega), if_pos h.2]
  · rw [if_neg h, if_neg (by omega)]
    by_cases h2 : j < 64
    · rw [show min t.size 64 + (j - min 64 t.size) = j by omega]
    · rw [List.getElem?_eq_none (by omega), List.getElem?_eq_none (by omega)]
theorem ref_one (x y z : Int) : (refA x y z).all (·.oneCell') = true := by simp [Value.oneCell']
theorem sizeR : (Tryd.prog.info? 30).map (·.size) = some 3 := by kernel_rfl
theorem storeR (w : World) (b : Nat) (x0 y0 z0 x y z : Int) (h : w.heap[b]? = some (Obj.cells (refA x0 y0 z0) 30 (0, 0))) : (Instr.storeAt 30 (.pointer (some ⟨b, 0, none⟩)) (.agg (refA x y z))).run Tryd.prog w = .ok () (w.setRow b (refA x y z)) := by
  simp only [Instr.storeAt, Instr.sureAddr, Sem.run_bind, Sem.run_pure, Result.andThen_ok]
  exact run_storeVar_row w b 30 30 (refA x0 y0 z0) (refA x y z) h sizeR rfl (ref_one x y z)
theorem run_loadR (w : World) (b : Nat) (x y z : Int) (h : w.heap[b]? = some (Obj.cells (refA x y z) 30 (0, 0))) : (Instr.loadAt 30 (.pointer (some ⟨b, 0, none⟩))).run Tryd.prog w = .ok (.agg (refA x y z)) w := by
  simp only [Instr.loadAt, Instr.sureAddr, Sem.run_bind, Sem.run_pure, Result.andThen_ok]
  exact run_loadVar_row w b 30 30 (refA x y z) (0, 0) _ h Tryd.underlying30 rfl (by kernel_rfl)
structure One (W wr : World) (R M : Nat) (v : Value) (d : Dsk) : Prop where
  bel : Below W.heap.size W wr
  dsk : IsD wr R M v d
  fr : Fr W.heap.size R M v
theorem One.on {W wr w2 : World} {R M : Nat} {v : Value} {d : Dsk} (h : One W wr R M v d) (k : Below wr.heap.size wr w2) : One W w2 R M v d := ⟨h.bel.trans (k.mono h.bel.size), h.dsk.on k, h.fr⟩
theorem One.mods {W wr w2 : World} {R M : Nat} {v v' : Value} {d d' : Dsk} (h : One W wr R M v d) (k : Mod (Ft R M v) wr w2) (hd : IsD w2 R M v' d') (hv : ∀ i, Ft R M v' i → Ft R M v i ∨ wr.heap.size ≤ i) : One W w2 R M v' d' :=
  ⟨h.bel.trans (k.below h.bel.size (fun i hi e => by have := h.fr i e; omega)), hd, fun i hi => (hv i hi).elim (h.fr i) (fun e => Nat.le_trans h.bel.size e)⟩
theorem isErr_ft {w w' : World} {R M : Nat} {v u : Value} {d : Dsk} {n : Int} (h : IsErr w u n) (hd : IsD w R M v d) (k : Mod (Ft R M v) w w') : IsErr w' u n :=
  isErr_mod h k (fun b cs hb hf => by
    rcases hf with rfl | rfl | e
    · rw [hd.blk] at hb; simp at hb
    · obtain ⟨es, ck, g, _⟩ := hd.map
      rw [g] at hb; simp at hb
    · obtain ⟨_, inner, ho, _⟩ := hd.soft
      obtain ⟨cells, hc⟩ := own_typed ho b e
      rw [hc] at hb; simp at hb)
theorem sum_set (s t : ByteArray) (c : Nat) (y : UInt8) (hc : c < s.size) (ht : t.data.toList = s.data.toList.set c y) (hy : y ≠ s.data.toList.getD c 0) : sum t ≠ sum s := by
  have hs := sl_length s
  intro he
  have h1 : A (bl t) = A (bl s) := by
    unfold sum at he
    have a1 := A_lt (bl t)
    have a2 := A_lt (bl s)
    omega
  have key : ∀ (L : List UInt8) (z : UInt8), L = s.data.toList.set c z → (L.map fun c => ((c.toNat : Nat) : Int)) = (bl s).take c ++ ((z.toNat : Nat) : Int) :: (bl s).drop (c + 1) := by
    intro L z hL
    rw [hL, List.set_eq_take_append_cons_drop, if_pos (by omega), List.map_append, List.map_cons, List.map_take, List.map_drop]
    rfl
  have e1 : bl s = (bl s).take c ++ ((s.data.toList.getD c 0).toNat : Int) :: (bl s).drop (c + 1) := key _ _ (by
    rw [List.getD_eq_getElem?_getD, List.getElem?_eq_getElem (by omega)]
    exact (List.set_getElem_self (by omega)).symm)
  have e2 : bl t = (bl s).take c ++ (y.toNat : Int) :: (bl s).drop (c + 1) := key _ _ ht
  rw [e2] at h1
  have h1 := h1.trans (congrArg A e1)
  have l1 := y.toNat_lt
  have l2 := (s.data.toList.getD c 0).toNat_lt
  have := (A_one _ _ _ _ (by omega) (by omega)).1 h1
  apply hy
  apply UInt8.toNat_inj.1
  omega
/-- a sector with one byte changed -/
def pset (p : Pg) (j : Nat) (y : UInt8) : Pg := ⟨p.1.set j y, by rw [List.length_set, p.2]⟩
theorem pa_set (p : Pg) (j : Nat) (y : UInt8) : (pa p).setIfInBounds j (.int .u8 (y.toNat : Int)) = pa (pset p j y) := by
  apply Array.toList_inj.1
  unfold pa pset
  simp [List.map_set, Go.Extern.Stop.cell]
section
variable {ops : Array Oper} {rest : List Oper} {o : Oper} {a : Go.Act} {w : World} {Q : Exit → Go.Act → World → Prop}
theorem wl_allocR (hgd : o.guard = none) (ho : o.op = .alloc 30) (h : wpList Tryd.prog ops Q rest (a.put o.dst (.pointer (some ⟨w.heap.size, 0, none⟩))) (w.alloc (Obj.cells (refA 0 0 0) 30 (0, 0)))) : wpList Tryd.prog ops Q (o :: rest) a w :=
  Kd.event_run hgd (by unfold execOp; simp only [ho]; kernel_rfl) h
theorem wl_storeRn {W : World} (x0 y0 z0 x y z : Int) (hgd : o.guard = none) (p q : Operand) (ho : o.op = .store 30 p q) (hx : a.eval p = .pointer (some ⟨W.heap.size, 0, none⟩)) (hy : a.eval q = .agg (refA x y z))
    (h : wpList Tryd.prog ops Q rest (a.put o.dst undef) (W.alloc (Obj.cells (refA x y z) 30 (0, 0)))) : wpList Tryd.prog ops Q (o :: rest) a (W.alloc (Obj.cells (refA x0 y0 z0) 30 (0, 0))) :=
  wpList_plain hgd fun K hK => by
    unfold Oper.wp execOp
    simp only [ho, hx, hy, storeR _ W.heap.size x0 y0 z0 x y z (heap_alloc_last _ _), World.setRow_alloc_new, Sem.run_bind, Sem.run_pure, Result.andThen_ok]
    exact hK _ _ h
theorem wl_loadR (b : Nat) (x y z : Int) (hp : w.heap[b]? = some (Obj.cells (refA x y z) 30 (0, 0))) (hgd : o.guard = none) (p : Operand) (ho : o.op = .load 30 p) (hx : a.eval p = .pointer (some ⟨b, 0, none⟩))
    (h : wpList Tryd.prog ops Q rest (a.put o.dst (.agg (refA x y z))) w) : wpList Tryd.prog ops Q (o :: rest) a w :=
  Kd.event_run hgd (by unfold execOp; simp only [ho, hx, run_loadR w b x y z hp, Sem.run_bind, Sem.run_pure, Result.andThen_ok]) h
theorem wg_loadR (b : Nat) (x y z : Int) (hp : w.heap[b]? = some (Obj.cells (refA x y z) 30 (0, 0))) (hw : Region.wanted o (yielded ops a.tmps) = true) (p : Operand) (ho : o.op = .load 30 p) (hx : a.eval p = .pointer (some ⟨b, 0, none⟩))
    (h : wpList Tryd.prog ops Q rest (a.put o.dst (.agg (refA x y z))) w) : wpList Tryd.prog ops Q (o :: rest) a w :=
  wg_run hw (by unfold execOp; simp only [ho, hx, run_loadR w b x y z hp, Sem.run_bind, Sem.run_pure, Result.andThen_ok]) h
end
end Go.Proofs.YtkkikhbenhkfcaaDoor.Blb
