/- Words that the proof uses. -/
import Derived.Test.YtaodgnladjafoaaGreatDoorOverV
set_option linter.unusedVariables false
set_option linter.unusedSimpArgs false
namespace Go.Proofs.YtaodgnladjafoaaGreatDoor.Slt
open Go.Proofs.YtaodgnladjafoaaGreatDoor.AdM (sum bl bl_length A B A_one A_lt B_lt)
open Go.RowKit Go.Proofs.YtaodgnladjafoaaGreatDoor.QStoreLasts Go.Proofs.YtaodgnladjafoaaGreatDoorW.PrintWords Go.Proofs.YtaodgnladjafoaaGreatDoorW.PrintLast Go.Proofs.YtaodgnladjafoaaGreatDoorW.PrintMore Go.Proofs.YtaodgnladjafoaaGreatDoor.CdM Go.Proofs.YtaodgnladjafoaaGreatDoor.Md Go.Proofs.YtaodgnladjafoaaGreatDoor.Dk Go.Proofs.YtaodgnladjafoaaGreatDoor.Blb
open Go.Extern.Stop (cell)
open Go.Proofs.YtaodgnladjafoaaGreatDoor.Err (Laid IsErr code_nil Chain at_some at_nil)
def fourS (n : Int) : ByteArray := strOfNums [(n / 16777216) % 256, (n / 65536) % 256, (n / 256) % 256, n % 256]
theorem fourS_size (n : Int) : (fourS n).size = 4 := by unfold fourS; rw [strOfNums_size]; rfl
theorem four_c (n : Int) (w : World) : Calls Tryz.prog 92 #[.int .u32 n] w fun e w' => e = .returned (.string (fourS n)) ∧ Below w.heap.size w w' :=
  adler_Four.calls n _ w rfl
theorem ofs_bytes (l : List UInt8) : strOfNums (l.map fun b => ((b.toNat : Nat) : Int)) = ⟨l.toArray⟩ := by
  unfold strOfNums
  apply ByteArray.ext
  apply Array.toList_inj.1
  have e2 : ((fun n : Int => UInt8.ofNat n.toNat) ∘ fun b : UInt8 => ((b.toNat : Nat) : Int)) = id := by funext b; simp
  simp [e2]
def sub (p : Pg) (o n : Nat) : ByteArray := ⟨((p.1.drop o).take n).toArray⟩
theorem sub_list (p : Pg) (o n : Nat) : (sub p o n).data.toList = (p.1.drop o).take n := by simp [sub]
theorem sub_size (p : Pg) (o n : Nat) (h : o + n ≤ 64) : (sub p o n).size = n := by
  have e := sl_length (sub p o n)
  rw [← e, sub_list, List.length_take, List.length_drop, p.2]; omega
theorem sub_nums (p : Pg) (o n : Nat) : strOfNums (((bi p).drop o).take n) = sub p o n := by
  unfold bi sub
  rw [← List.map_drop, ← List.map_take]
  exact ofs_bytes _
theorem reads_sub (W : World) (g : Nat) (p : Pg) (o n : Nat) (h : W.heap[g]? = some (Obj.cells (pa p) 100 (0, 0))) (hn : o + n ≤ 64) : ReadsRow ((Kd.int .u8).K W) 1 W (some ⟨g, o, none⟩) n (((bi p).drop o).take n) := by
  refine ⟨by rw [List.length_take, List.length_drop, bi_length]; omega, by omega, fun _ => ⟨_, rfl, fun j y hj => ⟨[.int .u8 y], rfl, ?_, fun i u hu => ?_⟩⟩⟩
  · rfl
  · rcases i with _ | i
    · simp at hu
      subst hu
      rw [Addr.add_mid, Nat.mul_one, Nat.add_zero]
      rw [Err.cell_of_blk h]
      rw [List.getElem?_take] at hj
      split at hj
      · rw [List.getElem?_drop] at hj
        simp only [bi, List.getElem?_map] at hj
        simp only [pa, cell, List.getElem?_toArray, List.getElem?_map]
        cases hq : p.1[o + j]? with
        | none => rw [hq] at hj; cases hj
        | some b => rw [hq] at hj; simp at hj; simp [cell, hj]
      · cases hj
    · simp at hu
theorem conv_sub (W : World) (g : Nat) (p : Pg) (o n c : Nat) (h : W.heap[g]? = some (Obj.cells (pa p) 100 (0, 0))) (hn : o + n ≤ 64) : (convert 129 9 (.slice (some ⟨g, o, none⟩) n c)).run Tryz.prog W = .ok (.string (sub p o n)) W := by
  have hT := Kd.C_of_reads (h1 := fun _ => rfl) (Kd.reads_of_C (enc := Value.int .u8) (d := (0 : Int)) (h1 := fun _ => rfl) (reads_sub W g p o n h hn))
  have hcv := Kd.C_string (P := Tryz.prog) (src := 129) (dst := 9) (e := 5) (c := c) Tryz.underlying129 Tryz.underlying5 Tryz.underlying9 hT
  rw [sub_nums] at hcv
  exact hcv
theorem exec_conv {ρ : Operand → Value} {o : Oper} {x : Operand} {W : World} {g f n c : Nat} {p : Pg} (ho : o.op = .convert 129 9 x) (hx : ρ x = .slice (some ⟨g, f, none⟩) n c) (h : W.heap[g]? = some (Obj.cells (pa p) 100 (0, 0))) (hn : f + n ≤ 64) : (execOp ρ o).run Tryz.prog W = .ok (.value (.string (sub p f n))) W := by
  unfold execOp
  simp only [ho, hx, conv_sub W g p f n c h hn, Sem.run_bind, Sem.run_pure, Result.andThen_ok]
def overAt (q : Pg) (o : Nat) (s : ByteArray) (ho : o ≤ 64) : Pg := ⟨q.1.take o ++ s.data.toList.take (64 - o) ++ q.1.drop (o + min s.size (64 - o)), by
  have h : s.data.toList.length = s.size := by simp
  rw [List.length_append, List.length_append, List.length_take, List.length_take, List.length_drop, q.2, h]; omega⟩
theorem copyAt_run (W : World) (g : Nat) (q : Pg) (o c : Nat) (ho : o ≤ 64) (s : ByteArray) (ty : TypeId) (hg : W.heap[g]? = some (Obj.cells (pa q) 100 (0, 0))) :
    (Builtin.copy_ #[129, 9] ty #[.slice (some ⟨g, o, none⟩) (64 - o) c, .string s]).run Tryz.prog W = .ok (goInt (Nat.min s.size (64 - o))) (W.setRow g (pa (overAt q o s ho))) := by
  obtain ⟨cs, hcs⟩ : ∃ cs : List Value, cs = (s.data.toList.take (64 - o)).map cell := ⟨_, rfl⟩
  have hsl : s.data.toList.length = s.size := by simp
  have hl : cs.length = Nat.min s.size (64 - o) := by rw [hcs, List.length_map, List.length_take, hsl]; show min (64 - o) s.size = min s.size (64 - o); omega
  have h1 : ∀ v ∈ cs, v.oneCell' = true := by
    intro v hv
    rw [hcs, List.mem_map] at hv
    obtain ⟨b, _, rfl⟩ := hv
    rfl
  have hst := run_storeCells_at Tryz.prog g o 100 cs 0 (pa q) W hg (by rw [pa_size, hl]; show o + 0 + min s.size (64 - o) ≤ 64; omega) h1
  have hrow : ((pa q).toList.take (o + 0) ++ cs ++ (pa q).toList.drop (o + 0 + cs.length)).toArray = pa (overAt q o s ho) := by
    apply Array.toList_inj.1
    rw [pa_list, pa_list]
    simp only [Nat.add_zero, hl]
    show (q.1.map cell).take o ++ cs ++ (q.1.map cell).drop (o + min s.size (64 - o)) = (q.1.take o ++ s.data.toList.take (64 - o) ++ q.1.drop (o + min s.size (64 - o))).map cell
    simp only [List.map_append, List.map_take, List.map_drop, hcs]
  have hc : List.take (Nat.min s.size (64 - o)) (List.map (fun b => Value.int .u8 (b.toNat : Int)) s.data.toList) = cs := by
    rw [hcs, ← List.map_take]
    have e : List.take (Nat.min s.size (64 - o)) s.data.toList = List.take (64 - o) s.data.toList := by
      rw [List.take_eq_take_iff, hsl]
      show min (min s.size (64 - o)) s.size = min (64 - o) s.size
      omega
    rw [e]; rfl
  have hsz : (Tryz.prog.info? 5).map (·.size) = some 1 := by kernel_rfl
  cases hq : Tryz.prog.info? 5 with
  | none => simp [hq] at hsz
  | some i =>
    have hi : i.size = 1 := by simpa [hq] using hsz
    simp [Builtin.copy_, run_underlying Tryz.underlying129, Builtin.lenOf, Builtin.firstCells, sizeOf, typeInfo, hq, hi]
    rw [hc, hst, hrow]
    rfl
theorem step_copyAt {ops : Array Oper} {o : Oper} {a : Go.Act} {W : World} {K : Go.Act → World → Prop} {Q : Exit → Go.Act → World → Prop} {E : Prop} (hw : Region.wanted o (yielded ops a.tmps) = true) (g : Nat) (q : Pg) (f r c : Nat) (hf : f ≤ 64) (hr : r = 64 - f) (s : ByteArray) (hg : W.heap[g]? = some (Obj.cells (pa q) 100 (0, 0))) (d x : Operand)
    (ho : o.op = .call { callee := .builtin .copy, args := #[d, x], argTypes := #[129, 9] }) (hd : a.eval d = .slice (some ⟨g, f, none⟩) r c) (hx : a.eval x = .string s)
    (h : K (a.put o.dst (goInt (Nat.min s.size (64 - f)))) (W.setRow g (pa (overAt q f s hf)))) : if Region.wanted o (yielded ops a.tmps) = true then Oper.wp Tryz.prog o a W K Q else E := by
  subst hr
  rw [if_pos hw]
  have hrun := copyAt_run W g q f c hf s o.type hg
  unfold Oper.wp
  simp [execOp, ho, resolve, invoke, builtin, hd, hx, hrun, Result.andThen]
  exact h
def numV (s : ByteArray) : Int := bt s 0 * 16777216 + bt s 1 * 65536 + bt s 2 * 256 + bt s 3
theorem or8 (x y : Int) (hx : 0 ≤ x ∧ x < 16777216) (hy : 0 ≤ y ∧ y ≤ 255) : Go.bits .or .u32 ((x * 256) % 4294967296) (y % 4294967296) = x * 256 + y := by
  have e : (x * 256) % 4294967296 = x * 256 := by omega
  have e2 : y % 4294967296 = y := by omega
  rw [e, e2]
  exact bits_join .u32 32 (by decide) wraps_u32 8 (x * 256) y (by omega) (by omega) (by omega) (by omega) (by omega) (by omega)
theorem number_step (s : ByteArray) (hs : s.size = 4) (k : Nat) (x : Int) (i : Nat) (hi : i < 4) (hx : 0 ≤ x ∧ x < 16777216) (r : Option Int) (h : adler_Number.l0 k s (x * 256 + bt s (i : Int)) ((i + 1 : Nat) : Int) = r) : adler_Number.l0 (k + 1) s x (i : Int) = r := by
  have c1 : (i : Int) < 4 := by omega
  have c2 : (i : Int) < (s.size : Int) := by omega
  have c3 : (0 : Int) ≤ (i : Int) := by omega
  have e : wrap64 ((i : Int) + 1) = ((i + 1 : Nat) : Int) := by unfold wrap64; omega
  simp only [adler_Number.l0]
  rw [if_pos c1, if_pos c2, if_pos c3, or8 x _ hx (bt_range s _), e]
  exact h
theorem number_at (s : ByteArray) (hs : s.size = 4) (k : Nat) : adler_Number.f (k + 1 + 1 + 1 + 1 + 1) s = some (numV s) := by
  have r0 := bt_range s 0
  have r1 := bt_range s 1
  have r2 := bt_range s 2
  have r3 := bt_range s 3
  unfold adler_Number.f
  refine number_step s hs _ 0 0 (by omega) (by omega) _ ?_
  refine number_step s hs _ _ 1 (by omega) (by show 0 ≤ 0 * 256 + bt s 0 ∧ 0 * 256 + bt s 0 < _; omega) _ ?_
  refine number_step s hs _ _ 2 (by omega) (by show 0 ≤ (0 * 256 + bt s 0) * 256 + bt s 1 ∧ (0 * 256 + bt s 0) * 256 + bt s 1 < _; omega) _ ?_
  refine number_step s hs _ _ 3 (by omega) (by show 0 ≤ ((0 * 256 + bt s 0) * 256 + bt s 1) * 256 + bt s 2 ∧ ((0 * 256 + bt s 0) * 256 + bt s 1) * 256 + bt s 2 < _; omega) _ ?_
  simp only [adler_Number.l0]
  rw [if_neg (by decide)]
  unfold numV
  congr 1
  show (((0 * 256 + bt s 0) * 256 + bt s 1) * 256 + bt s 2) * 256 + bt s 3 = _
  omega
theorem number_c (s : ByteArray) (v : Int) (w : World) (hs : s.size = 4) (hv : Hid (numV s = v)) : Calls Tryz.prog 75 #[.string s] w fun e w' => e = .returned (.int .u32 v) ∧ Below w.heap.size w w' :=
  (adler_Number.calls _ s _ w ((number_at s hs 10).trans (by rw [hv.out]))).mono fun e w' h => ⟨h.1, h.2.below⟩
theorem numV_lt (s : ByteArray) : 0 ≤ numV s ∧ numV s < 4294967296 := by
  have r0 := bt_range s 0
  have r1 := bt_range s 1
  have r2 := bt_range s 2
  have r3 := bt_range s 3
  unfold numV
  omega
theorem bt_of (s : ByteArray) (i : Nat) (b : UInt8) (h : s.data.toList[i]? = some b) : bt s (i : Int) = ((b.toNat : Nat) : Int) := by
  have hs := sl_length s
  obtain ⟨hi, e⟩ := List.getElem?_eq_some_iff.1 h
  unfold bt
  rw [dif_pos (by rw [Int.toNat_natCast]; omega)]
  simp only [Int.toNat_natCast]
  rw [← e]
  rfl
theorem numV_four (n : Int) (h0 : 0 ≤ n) (h1 : n < 4294967296) (s : ByteArray) (hs : s.data.toList = (fourS n).data.toList) : numV s = n := by
  have e : s = fourS n := by apply ByteArray.ext; exact Array.toList_inj.1 hs
  subst e
  have el : (fourS n).data.toList = [UInt8.ofNat ((n / 16777216) % 256).toNat, UInt8.ofNat ((n / 65536) % 256).toNat, UInt8.ofNat ((n / 256) % 256).toNat, UInt8.ofNat (n % 256).toNat] := by
    unfold fourS strOfNums; simp
  have b0 : bt (fourS n) 0 = _ := bt_of (fourS n) 0 _ (by rw [el]; rfl)
  have b1 : bt (fourS n) 1 = _ := bt_of (fourS n) 1 _ (by rw [el]; rfl)
  have b2 : bt (fourS n) 2 = _ := bt_of (fourS n) 2 _ (by rw [el]; rfl)
  have b3 : bt (fourS n) 3 = _ := bt_of (fourS n) 3 _ (by rw [el]; rfl)
  unfold numV
  rw [b0, b1, b2, b3]
  simp only [UInt8.toNat_ofNat']
  omega
end Go.Proofs.YtaodgnladjafoaaGreatDoor.Slt
namespace Go.Proofs.YtaodgnladjafoaaGreatDoor.Slt
open Go.Proofs.YtaodgnladjafoaaGreatDoor.AdM (sum bl bl_length A B A_one A_lt B_lt)
open Go.RowKit Go.Proofs.YtaodgnladjafoaaGreatDoor.CdM Go.Proofs.YtaodgnladjafoaaGreatDoor.Dk Go.Proofs.YtaodgnladjafoaaGreatDoor.Blb
open Go.Proofs.YtaodgnladjafoaaGreatDoorW.PrintWords
def refS (x y z : Int) : ByteArray := numS x.toNat ++ numS y.toNat ++ numS z.toNat
def headP (g x y z : Int) : Pg := over pz (fourS g ++ refS x y z)
def layP (g x y z : Int) : Pg := overAt (headP g x y z) 60 (fourS (sum (sub (headP g x y z) 0 60))) (by decide)
structure Rt (g x y z : Int) : Prop where
  g0 : 0 < g
  g1 : g < 4294967296
  x0 : 0 ≤ x
  x1 : x ≤ 2048
  y0 : 0 ≤ y
  y1 : y ≤ 16384
  z0 : 0 ≤ z
  z1 : z < 4294967296
theorem sum_lt (s : ByteArray) : 0 ≤ sum s ∧ sum s < 4294967296 := by
  have a := A_lt (bl s)
  have b := B_lt (bl s)
  unfold sum
  omega
theorem refS_size {g x y z : Int} (h : Rt g x y z) : (refS x y z).size ≤ 27 := by
  have h1 := numS_nine (n := x.toNat) (by have := h.x1; omega)
  have h2 := numS_nine (n := y.toNat) (by have := h.y1; omega)
  have h3 := numS_nine (n := z.toNat) (by have := h.z1; omega)
  unfold refS
  rw [ByteArray.size_append, ByteArray.size_append]
  omega
theorem head_list {g x y z : Int} (h : Rt g x y z) : (headP g x y z).1 = (fourS g).data.toList ++ (refS x y z).data.toList ++ List.replicate (60 - (refS x y z).size) 0 := by
  have hs := refS_size h
  have hf := fourS_size g
  have l1 := sl_length (fourS g)
  have l2 := sl_length (refS x y z)
  have e : (fourS g ++ refS x y z).data.toList = (fourS g).data.toList ++ (refS x y z).data.toList := by
    rw [ByteArray.data_append, Array.toList_append]
  unfold headP over
  show (fourS g ++ refS x y z).data.toList.take 64 ++ (List.replicate 64 (0 : UInt8)).drop (min (fourS g ++ refS x y z).size 64) = _
  rw [e, List.take_of_length_le (by rw [List.length_append]; omega), List.drop_replicate, ByteArray.size_append, hf]
  congr 2
  omega
theorem lay_list (g x y z : Int) : (layP g x y z).1 = (headP g x y z).1.take 60 ++ (fourS (sum (sub (headP g x y z) 0 60))).data.toList := by
  have hf := fourS_size (sum (sub (headP g x y z) 0 60))
  have hl := sl_length (fourS (sum (sub (headP g x y z) 0 60)))
  have hh := (headP g x y z).2
  unfold layP overAt
  show (headP g x y z).1.take 60 ++ (fourS _).data.toList.take (64 - 60) ++ (headP g x y z).1.drop (60 + min (fourS _).size (64 - 60)) = _
  rw [List.take_of_length_le (l := (fourS _).data.toList) (by omega), List.drop_eq_nil_of_le (by omega), List.append_nil]
theorem sub_ext {p q : Pg} {o n k m : Nat} (h : (p.1.drop o).take n = (q.1.drop k).take m) : sub p o n = sub q k m := by unfold sub; rw [h]
theorem lay_head (g x y z : Int) : sub (layP g x y z) 0 60 = sub (headP g x y z) 0 60 := by
  have hh := (headP g x y z).2
  apply sub_ext
  rw [lay_list, List.drop_zero, List.drop_zero, List.take_append_of_le_length (by rw [List.length_take]; omega), List.take_take]
  congr 1
theorem lay_sum (g x y z : Int) : numV (sub (layP g x y z) 60 4) = sum (sub (layP g x y z) 0 60) := by
  have hh := (headP g x y z).2
  have hl := sl_length (fourS (sum (sub (headP g x y z) 0 60)))
  have hf := fourS_size (sum (sub (headP g x y z) 0 60))
  have hs := sum_lt (sub (headP g x y z) 0 60)
  rw [lay_head]
  refine numV_four _ hs.1 hs.2 _ ?_
  rw [sub_list, lay_list, List.drop_append_of_le_length (by rw [List.length_take]; omega), List.drop_eq_nil_of_le (by rw [List.length_take]; omega), List.nil_append, List.take_of_length_le (by omega)]
theorem lay_gen {g x y z : Int} (h : Rt g x y z) : numV (sub (layP g x y z) 0 4) = g := by
  have hl := sl_length (fourS g)
  have hf := fourS_size g
  have hh := (headP g x y z).2
  refine numV_four _ (by have := h.g0; omega) h.g1 _ ?_
  rw [sub_list, lay_list, List.drop_zero, List.take_append_of_le_length (by rw [List.length_take]; omega), List.take_take, head_list h, List.append_assoc, List.take_append_of_le_length (by omega), List.take_of_length_le (by omega)]
theorem lay_mid {g x y z : Int} (h : Rt g x y z) : ∃ c : ByteArray, sub (layP g x y z) 4 56 = numS x.toNat ++ numS y.toNat ++ numS z.toNat ++ c := by
  have hl := sl_length (fourS g)
  have hf := fourS_size g
  have hs := refS_size h
  have hh := (headP g x y z).2
  have hr := sl_length (refS x y z)
  refine ⟨⟨(List.replicate (56 - (refS x y z).size) (0 : UInt8)).toArray⟩, ?_⟩
  apply ByteArray.ext
  apply Array.toList_inj.1
  rw [sub_list, lay_list, List.drop_append_of_le_length (by rw [List.length_take]; omega), List.take_append_of_le_length (by rw [List.length_drop, List.length_take]; omega), head_list h, List.append_assoc,
    List.drop_take, List.drop_append_of_le_length (by omega), (show List.drop 4 (fourS g).data.toList = [] from List.drop_eq_nil_of_le (by omega)), List.nil_append, List.take_take, show min 56 (60 - 4) = 56 from rfl]
  rw [ByteArray.data_append, Array.toList_append]
  show List.take 56 ((refS x y z).data.toList ++ _) = (refS x y z).data.toList ++ _
  rw [List.take_append, List.take_of_length_le (by omega), List.take_replicate]
  congr 2
  omega
theorem numS_front {a b : Nat} {u v : ByteArray} (h : numS a ++ u = numS b ++ v) : a = b ∧ u = v := by
  have key : ∀ {a b : Nat} {u v : ByteArray}, numS a ++ u = numS b ++ v → (numS a).size ≤ (numS b).size → a = b := by
    intro a b u v h hl
    have l1 := sl_length (numS a)
    have l2 := sl_length (numS b)
    apply numS_begin
    apply ByteArray.ext
    apply Array.toList_inj.1
    rw [ByteArray.data_extract, Array.toList_extract, List.extract_eq_take_drop, List.drop_zero, Nat.sub_zero]
    have e := congrArg (fun s : ByteArray => s.data.toList.take (numS a).size) h
    simp only [ByteArray.data_append, Array.toList_append] at e
    rw [List.take_append_of_le_length (by omega), List.take_append_of_le_length (by omega), List.take_of_length_le (l := (numS a).data.toList) (by omega)] at e
    exact e.symm
  have e : a = b := by
    rcases Nat.le_total (numS a).size (numS b).size with hl | hl
    · exact key h hl
    · exact (key h.symm hl).symm
  subst e
  refine ⟨rfl, ?_⟩
  apply ByteArray.ext
  apply Array.toList_inj.1
  have e2 := congrArg (fun s : ByteArray => s.data.toList) h
  simp only [ByteArray.data_append, Array.toList_append] at e2
  exact List.append_cancel_left e2
theorem lay_inj {g x y z g' x' y' z' : Int} (h : Rt g x y z) (h' : Rt g' x' y' z') (e : layP g x y z = layP g' x' y' z') : g = g' ∧ x = x' ∧ y = y' ∧ z = z' := by
  have e0 : g = g' := by rw [← lay_gen h, ← lay_gen h', e]
  obtain ⟨c, hc⟩ := lay_mid h
  obtain ⟨c', hc'⟩ := lay_mid h'
  rw [e, hc'] at hc
  have hc := hc.symm
  rw [ByteArray.append_assoc, ByteArray.append_assoc, ByteArray.append_assoc, ByteArray.append_assoc] at hc
  obtain ⟨hx, hc⟩ := numS_front hc
  obtain ⟨hy, hc⟩ := numS_front hc
  obtain ⟨hz, hc⟩ := numS_front hc
  have := h.x0; have := h.y0; have := h.z0; have := h'.x0; have := h'.y0; have := h'.z0
  exact ⟨e0, by omega, by omega, by omega⟩
end Go.Proofs.YtaodgnladjafoaaGreatDoor.Slt
namespace Go.Proofs.YtaodgnladjafoaaGreatDoor.Slt
open Go.Proofs.YtaodgnladjafoaaGreatDoor.AdM (sum bl bl_length A B A_one A_lt B_lt)
open Go.RowKit Go.Proofs.YtaodgnladjafoaaGreatDoor.QStoreLasts Go.Proofs.YtaodgnladjafoaaGreatDoorW.PrintWords Go.Proofs.YtaodgnladjafoaaGreatDoorW.PrintLast Go.Proofs.YtaodgnladjafoaaGreatDoorW.PrintMore Go.Proofs.YtaodgnladjafoaaGreatDoor.CdM Go.Proofs.YtaodgnladjafoaaGreatDoor.Md Go.Proofs.YtaodgnladjafoaaGreatDoor.Dk Go.Proofs.YtaodgnladjafoaaGreatDoor.Blb
open Go.Extern.Stop (cell)
open Go.Proofs.YtaodgnladjafoaaGreatDoor.Err (Laid IsErr code_nil Chain at_some at_nil)
abbrev slA (g x y z : Int) : Array Value := #[.int .u32 g, .int .i64 x, .int .i64 y, .int .u32 z]
theorem sl_keep {w wr : World} {K : Nat} {g x y z : Int} (h : w.heap[K]? = some (Obj.cells (slA g x y z) 62 (0, 0))) (hb : Below w.heap.size w wr) : wr.cell? ⟨K, 0, none⟩ = some (.int .u32 g) ∧ wr.cell? ⟨K, 1, none⟩ = some (.int .i64 x) ∧ wr.cell? ⟨K, 2, none⟩ = some (.int .i64 y) ∧ wr.cell? ⟨K, 3, none⟩ = some (.int .u32 z) := by
  have h2 := (hb.block K (Err.lt_of_block h)).trans h
  exact ⟨Err.cell_of_blk h2 0, Err.cell_of_blk h2 1, Err.cell_of_blk h2 2, Err.cell_of_blk h2 3⟩
theorem laid_results (tmps : Array Value) (W : World) (b : Nat) (p : Pg) (h4 : tmps.getD 2 undef = .pointer (some ⟨b, 0, none⟩)) (h : W.heap[b]? = some (Obj.cells (pa p) 100 (0, 0))) : (results Tryz.f78 tmps).run Tryz.prog W = .ok (pv p) W := by
  have hl := run_loadVar30 W b p h
  have h4' : tmps[2]?.getD undef = .pointer (some ⟨b, 0, none⟩) := by simpa using h4
  simp [results, Tryz.results78, asAddr, h4', hl]
theorem sl_row {W : World} {K b : Nat} {cs : Array Value} {g x y z : Int} (h : W.heap[K]? = some (Obj.cells (slA g x y z) 62 (0, 0))) (hb : ¬ K = b) : (W.setRow b cs).cell? ⟨K, 0, none⟩ = some (.int .u32 g) ∧ (W.setRow b cs).cell? ⟨K, 1, none⟩ = some (.int .i64 x) ∧ (W.setRow b cs).cell? ⟨K, 2, none⟩ = some (.int .i64 y) ∧ (W.setRow b cs).cell? ⟨K, 3, none⟩ = some (.int .u32 z) :=
  sl_keep ((mod_row W b cs).blk h hb) (Below.refl _ _)
set_option maxHeartbeats 4000000 in
set_option maxRecDepth 100000 in
theorem laid_c (g x y z : Int) (w : World) (hr : Rt g x y z) :
    Calls Tryz.prog 78 #[.agg (slA g x y z)] w fun e w' => e = .returned (pv (layP g x y z)) ∧ Below w.heap.size w w' := by
  have hrs := refS_size hr
  have hfs := fourS_size g
  have k1 : (9223372036854775807 < (fourS g).size + (refS x y z).size) = False := eq_false (by omega)
  have k2 : (9223372036854775807 < (fourS g ++ refS x y z).size) = False := eq_false (by rw [ByteArray.size_append]; omega)
  obtain ⟨x0, x1, y0, y1, z0, z1⟩ := (⟨hr.x0, hr.x1, hr.y0, hr.y1, hr.z0, hr.z1⟩ : 0 ≤ x ∧ x ≤ 2048 ∧ 0 ≤ y ∧ y ≤ 16384 ∧ 0 ≤ z ∧ z < 4294967296)
  clear hrs hfs
  go_enter Tryz.func78, Tryz.ntmps78
  go_wp2_with (first | (refine wl_alloc30 rfl rfl ?_))
  obtain ⟨B, hB⟩ : ∃ B, w.heap.size = B := ⟨_, rfl⟩
  have hP1 : (w.alloc (Obj.cells (slA g x y z) 62 (0, 0))).heap.size = B + 1 := by rw [← hB]; simp
  have hP2 : ((w.alloc (Obj.cells (slA g x y z) 62 (0, 0))).alloc (Obj.cells (pa pz) 100 (0, 0))).heap.size = B + 2 := by rw [← hB]; simp
  have b1 : Below w.heap.size w (w.alloc (Obj.cells (slA g x y z) 62 (0, 0))) := (Below.refl _ _).alloc (Nat.le_refl _) _
  have b2 : Below (w.alloc (Obj.cells (slA g x y z) 62 (0, 0))).heap.size (w.alloc (Obj.cells (slA g x y z) 62 (0, 0))) ((w.alloc (Obj.cells (slA g x y z) 62 (0, 0))).alloc (Obj.cells (pa pz) 100 (0, 0))) := (Below.refl _ _).alloc (Nat.le_refl _) _
  have b3 : Below ((w.alloc (Obj.cells (slA g x y z) 62 (0, 0))).alloc (Obj.cells (pa pz) 100 (0, 0))).heap.size ((w.alloc (Obj.cells (slA g x y z) 62 (0, 0))).alloc (Obj.cells (pa pz) 100 (0, 0))) (((w.alloc (Obj.cells (slA g x y z) 62 (0, 0))).alloc (Obj.cells (pa pz) 100 (0, 0))).alloc (Obj.cells (pa pz) 100 (0, 0))) := (Below.refl _ _).alloc (Nat.le_refl _) _
  have HSl := blk_to (blk_to (Lib.hid (heap_alloc_last w (Obj.cells (slA g x y z) 62 (0, 0)))) b2) b3
  have HRs := blk_to (Lib.hid (heap_alloc_last (w.alloc (Obj.cells (slA g x y z) 62 (0, 0))) (Obj.cells (pa pz) 100 (0, 0)))) b3
  have HPg := Lib.hid (heap_alloc_last ((w.alloc (Obj.cells (slA g x y z) 62 (0, 0))).alloc (Obj.cells (pa pz) 100 (0, 0))) (Obj.cells (pa pz) 100 (0, 0)))
  have HB1 := Lib.hid ((b1.trans (b2.mono b1.size)).trans (b3.mono (Nat.le_trans b1.size b2.size)))
  rw [hP1] at HRs
  rw [hP2] at HPg
  rw [hB] at HSl HB1
  simp only [hP1, hP2, hB]
  generalize (((w.alloc (Obj.cells (slA g x y z) 62 (0, 0))).alloc (Obj.cells (pa pz) 100 (0, 0))).alloc (Obj.cells (pa pz) 100 (0, 0))) = w1 at *
  clear hP1 hP2 b1 b2 b3
  have HBd := Lib.hid (show Below w1.heap.size w1 w1.drew from (Below.refl _ _).drew)
  have hS1 := sl_keep HSl.out HBd.out
  have HPd := blk_to HPg HBd.out
  have hrf : numS x.toNat ++ numS y.toNat ++ numS z.toNat = refS x y z := rfl
  go_region_held3 (fun w' => w'.cell? ⟨B, 0, none⟩ = some (.int .u32 g) ∧ w'.cell? ⟨B, 1, none⟩ = some (.int .i64 x) ∧ w'.cell? ⟨B, 2, none⟩ = some (.int .i64 y) ∧ w'.cell? ⟨B, 3, none⟩ = some (.int .u32 z))
    (first | with_reducible exact hS1 | with_reducible assumption | exact sl_row HL6.out (by omega))
    (first
      | (go_at_call 92
         refine (four_c g _).mono ?_
         rintro e w5 ⟨rfl, hd5⟩
         have HB5 := Lib.hid (HBd.out.trans (hd5.mono HBd.out.size))
         have hS5 := sl_keep HSl.out HB5.out
         clear hd5)
      | (go_at_call 64
         refine (lay_a x y z _ x0 (by omega) y0 (by omega) z0 (by omega)).mono ?_
         rintro e w6 ⟨rfl, hd6⟩
         have HB6 := Lib.hid (HB5.out.trans (hd6.mono HB5.out.size))
         have hS6 := sl_keep HSl.out HB6.out
         have HP6 := blk_to HPg HB6.out
         have HL6 := blk_to HSl HB6.out
         clear hd6)
      | (refine step_copyAt (by rfl) (B + 2) pz 0 64 64 (by decide) rfl (fourS g ++ refS x y z) HP6.out (.tmp 4) (.tmp 11) (by rfl) (by rfl) (by rfl) ?_)
      | fail)
  have HX6 := Lib.hid (HB1.out.trans (HB6.out.mono (by have := HB1.out.size; omega)))
  have HR6 := blk_to HRs HB6.out
  have hq : overAt pz 0 (fourS g ++ refS x y z) (by decide) = headP g x y z := by
    apply Subtype.ext
    unfold headP over overAt
    simp
  rw [hq]
  have HH6 := Lib.hid (row_at w6 (B + 2) pz (headP g x y z) HP6.out)
  have hm6 := mod_row w6 (B + 2) (pa (headP g x y z))
  have HR7 := Lib.hid (hm6.blk HR6.out (by omega))
  have hB6 : B + 2 < w6.heap.size := Err.lt_of_block HP6.out
  have HX7 := Lib.hid (HX6.out.trans (hm6.below (by have := HX6.out.size; omega) (fun i hi (e : i = B + 2) => by omega)))
  generalize w6.setRow (B + 2) (pa (headP g x y z)) = w7 at *
  clear hS1 hS5 hS6 HBd HB5 HB6 HPd HL6 HX6 HR6 HP6 HRs HPg hm6 hq HSl hB6
  have HBd := Lib.hid (show Below w7.heap.size w7 w7.drew from (Below.refl _ _).drew)
  have HPd := blk_to HH6 HBd.out
  have hss : (sub (headP g x y z) 0 60).size = 60 := sub_size _ _ _ (by decide)
  go_wp2_with fail
  refine start_ (n := 6) (S := fun w' => w'.heap[B + 2]? = some (Obj.cells (pa (headP g x y z)) 100 (0, 0))) (ds := [5]) (bzz 6 0) (by kernel_rfl) rfl rfl (HPd.out) (fun hHeld => ?_)
  refine rpz 0 13 ?_ (bzz 6 1) rfl rfl ?_ ?_ ?_ ?_
  rotate_left
  · intro w'
    go_simp
    with_reducible rfl
  rotate_left
  · simp only [zaP, zsA, zsZ, zsS, i64_w, i32_w]
    rfl
  refine rpz 1 14 ?_ (bzz 6 3) rfl rfl ?_ ?_ ?_ ?_
  rotate_left
  · intro w'
    go_simp
    with_reducible rfl
  rotate_left
  · simp only [zaP, zsA, zsZ, zsS, i64_w, i32_w]
    rfl
  refine rtz 2 15 ?_ (bzz 6 7) rfl rfl hHeld ?_ ?_ ?_ ?_
  rotate_left
  · intro w' s0
    refine exec_conv (x := .tmp 14) (g := B + 2) (f := 0) (n := 60) (c := 64) ?_ ?_ s0 (by decide)
    · rfl
    · rfl
  rotate_left
  · simp only [zaP, zsA, zsZ, zsS, i64_w, i32_w]
    rfl
  refine roz 3 16 (bzz 6 15) rfl rfl (fun K hK => ?_)
  refine goes_ Tryz.func61 (by kernel_rfl) rfl #[.string (sub (headP g x y z) 0 60)] (by rfl) rfl rfl (by simp only [List.map_toArray, List.map_cons, List.map_nil]; rfl) ?_
  with_reducible refine (sum_c (sub (headP g x y z) 0 60) _ (by omega)).mono ?_
  rintro e w8 ⟨rfl, hd5⟩
  refine ⟨_, rfl, ?_⟩
  have HB5 := Lib.hid (HBd.out.trans (hd5.mono HBd.out.size))
  have HP5 := blk_to HH6 HB5.out
  clear hd5
  refine hK.out _ _ (HP5.out) (fun hHeld => ?_)
  clear hK K
  refine norm_ (a' := ?_) ?_ ?_
  rotate_left
  · show Act.put _ (some 16) _ = _
    simp only [zaP, zsA, zsZ, zsS, i64_w, i32_w]
    rfl
  refine roz 4 17 (bzz 6 31) rfl rfl (fun K hK => ?_)
  refine goes_ Tryz.func92 (by kernel_rfl) rfl #[.int .u32 (sum (sub (headP g x y z) 0 60))] (by rfl) rfl rfl (by simp only [List.map_toArray, List.map_cons, List.map_nil]; rfl) ?_
  with_reducible refine (four_c (sum (sub (headP g x y z) 0 60)) _).mono ?_
  rintro e w9 ⟨rfl, hd6⟩
  refine ⟨_, rfl, ?_⟩
  have HB6 := Lib.hid (HB5.out.trans (hd6.mono HB5.out.size))
  have HP6 := blk_to HH6 HB6.out
  clear hd6
  refine hK.out _ _ (HP6.out) (fun hHeld => ?_)
  clear hK K
  refine norm_ (a' := ?_) ?_ ?_
  rotate_left
  · show Act.put _ (some 17) _ = _
    simp only [zaP, zsA, zsZ, zsS, i64_w, i32_w]
    rfl
  refine last_ (i := 5) (N := some 18) (bzz 6 63) rfl rfl (by kernel_rfl) (by decide) (fun K hK => ?_)
  refine step_copyAt (by rfl) (B + 2) (headP g x y z) 60 4 4 (by decide) rfl (fourS (sum (sub (headP g x y z) 0 60))) HP6.out (.tmp 13) (.tmp 17) (by rfl) (by rfl) (by rfl) ?_
  refine hK.out _ _ ?_
  clear hK K
  refine norm_ (a' := ?_) ?_ ?_
  rotate_left
  · show Act.put _ (some 18) _ = _
    simp only [zaP, zsA, zsZ, zsS, i64_w, i32_w]
    rfl
  refine done_ (by kernel_rfl) ?_
  have hm9 := mod_row w9 (B + 2) (pa (layP g x y z))
  have hB9 : B + 2 < w9.heap.size := Err.lt_of_block HP6.out
  have HR9 := blk_to HR7 HB6.out
  have HX9 := Lib.hid (HX7.out.trans (HB6.out.mono (by have := HX7.out.size; omega)))
  have HP9 := Lib.hid (row_at w9 (B + 2) (headP g x y z) (layP g x y z) HP6.out)
  have HR10 := Lib.hid (hm9.blk HR9.out (by omega))
  have HX10 := Lib.hid (HX9.out.trans (hm9.below (by have := HX9.out.size; omega) (fun i hi (e : i = B + 2) => by omega)))
  rw [show pa (overAt (headP g x y z) 60 (fourS (sum (sub (headP g x y z) 0 60))) (by decide)) = pa (layP g x y z) from rfl]
  generalize w9.setRow (B + 2) (pa (layP g x y z)) = w10 at *
  clear HX9 HR9 hm9 HP6 HB6 HB5 HBd HPd HX7 HR7 HH6 hB9
  go_wp2_with (first
    | (refine wl_load30 (B + 2) (layP g x y z) HP9.out rfl _ rfl rfl ?_)
    | (refine wl_store30 (B + 1) pz (layP g x y z) HR10.out rfl _ _ rfl rfl rfl ?_))
  (try simp only [Exit.inBlock, Exit.then])
  refine bodyPost_ret (v := pv (layP g x y z)) ?_ rfl ?_
  · exact laid_results _ _ (B + 1) (layP g x y z) rfl (row_at _ _ pz _ HR10.out)
  have hB10 : B + 1 < w10.heap.size := Err.lt_of_block HR10.out
  rw [hB]
  exact ⟨rfl, HX10.out.trans ((mod_row w10 (B + 1) (pa (layP g x y z))).below (by have := HX10.out.size; omega) (fun i hi (e : i = B + 1) => by omega))⟩
end Go.Proofs.YtaodgnladjafoaaGreatDoor.Slt
namespace Go.Proofs.YtaodgnladjafoaaGreatDoor.Slt
open Go.Proofs.YtaodgnladjafoaaGreatDoor.AdM (sum bl bl_length A B A_one A_lt B_lt)
open Go.RowKit Go.Proofs.YtaodgnladjafoaaGreatDoor.QStoreLasts Go.Proofs.YtaodgnladjafoaaGreatDoorW.PrintWords Go.Proofs.YtaodgnladjafoaaGreatDoorW.PrintLast Go.Proofs.YtaodgnladjafoaaGreatDoorW.PrintMore Go.Proofs.YtaodgnladjafoaaGreatDoor.CdM Go.Proofs.YtaodgnladjafoaaGreatDoor.Md Go.Proofs.YtaodgnladjafoaaGreatDoor.Dk Go.Proofs.YtaodgnladjafoaaGreatDoor.Blb
open Go.Extern.Stop (cell)
open Go.Proofs.YtaodgnladjafoaaGreatDoor.Err (Laid IsErr code_nil Chain at_some at_nil)
theorem alloc_size (w : World) (o : Obj) : (w.alloc o).heap.size = w.heap.size + 1 := by simp
theorem alloc2 (w : World) (o1 o2 : Obj) : Hid (((w.alloc o1).alloc o2).heap[w.heap.size]? = some o1) ∧ Hid (((w.alloc o1).alloc o2).heap[w.heap.size + 1]? = some o2) ∧ Hid (Below w.heap.size w ((w.alloc o1).alloc o2)) := by
  have b1 : Below w.heap.size w (w.alloc o1) := (Below.refl _ _).alloc (Nat.le_refl _) _
  have b2 : Below (w.alloc o1).heap.size (w.alloc o1) ((w.alloc o1).alloc o2) := (Below.refl _ _).alloc (Nat.le_refl _) _
  have h2 := heap_alloc_last (w.alloc o1) o2
  rw [alloc_size] at h2
  exact ⟨blk_to (Lib.hid (heap_alloc_last w o1)) b2, Lib.hid h2, Lib.hid (b1.trans (b2.mono b1.size))⟩
def rightB (g x y z : Int) : Bool := decide (0 < g) && decide (0 ≤ x) && decide (x ≤ 2048) && decide (0 ≤ y) && decide (y ≤ 16384)
theorem rightB_true {g x y z : Int} (h : Rt g x y z) : rightB g x y z = true := by
  unfold rightB
  rw [decide_eq_true h.g0, decide_eq_true h.x0, decide_eq_true h.x1, decide_eq_true h.y0, decide_eq_true h.y1]; rfl
theorem rightB_rt {g x y z : Int} (h : rightB g x y z = true) (g1 : g < 4294967296) (z0 : 0 ≤ z) (z1 : z < 4294967296) : Rt g x y z := by
  unfold rightB at h
  simp only [Bool.and_eq_true, decide_eq_true_eq] at h
  exact ⟨h.1.1.1.1, g1, h.1.1.1.2, h.1.1.2, h.1.2, h.2, z0, z1⟩
theorem right_c (g x y z : Int) (b : Bool) (w : World) (hb : Hid (rightB g x y z = b)) : Calls Tryz.prog 77 #[.agg (slA g x y z)] w fun e w' => e = .returned (.bool b) ∧ Below w.heap.size w w' := by
  refine slot_right.calls g x y z _ w ?_
  rw [← hb.out]
  unfold slot_right.f rightB
  by_cases h1 : 0 < g
  · rw [if_pos h1, decide_eq_true h1]
    by_cases h2 : 0 ≤ x
    · rw [if_pos h2, decide_eq_true h2]
      by_cases h3 : x ≤ 2048
      · rw [if_pos h3, decide_eq_true h3]
        by_cases h4 : 0 ≤ y
        · rw [if_pos h4, decide_eq_true h4]; rfl
        · rw [if_neg h4, decide_eq_false h4]; rfl
      · rw [if_neg h3, decide_eq_false h3]; rfl
    · rw [if_neg h2, decide_eq_false h2]; rfl
  · rw [if_neg h1, decide_eq_false h1]; rfl
theorem lay_results (tmps : Array Value) (W : World) (b : Nat) (p : Pg) (e : Value) (h4 : tmps.getD 2 undef = .pointer (some ⟨b, 0, none⟩)) (h5 : tmps.getD 3 undef = e) (h : W.heap[b]? = some (Obj.cells (pa p) 100 (0, 0))) : (results Tryz.f67 tmps).run Tryz.prog W = .ok (.tuple #[pv p, e]) W := by
  have hl := run_loadVar30 W b p h
  have h4' : tmps[2]?.getD undef = .pointer (some ⟨b, 0, none⟩) := by simpa using h4
  have h5' : tmps[3]?.getD undef = e := by simpa using h5
  simp [results, Tryz.results67, asAddr, h4', h5', hl]
set_option maxHeartbeats 4000000 in
set_option maxRecDepth 100000 in
theorem lay_ok (g x y z : Int) (w : World) (hr : Rt g x y z) :
    Calls Tryz.prog 67 #[.agg (slA g x y z)] w fun e w' => e = .returned (.tuple #[pv (layP g x y z), .nilIface]) ∧ Below w.heap.size w w' := by
  have HRt := Lib.hid (rightB_true hr)
  have HQ := Lib.hid hr
  clear hr
  go_enter Tryz.func67, Tryz.ntmps67
  go_wp2_with (first | (refine wl_alloc30 rfl rfl ?_))
  obtain ⟨HSl, HRs, HB1⟩ := alloc2 w (Obj.cells (slA g x y z) 62 (0, 0)) (Obj.cells (pa pz) 100 (0, 0))
  (try rw [alloc_size])
  obtain ⟨B, hB⟩ : ∃ B, w.heap.size = B := ⟨_, rfl⟩
  rw [hB] at HSl HRs HB1
  simp only [hB]
  generalize ((w.alloc (Obj.cells (slA g x y z) 62 (0, 0))).alloc (Obj.cells (pa pz) 100 (0, 0))) = w1 at *
  refine (right_c g x y z true _ HRt).mono ?_
  rintro e w2 ⟨rfl, hd⟩
  have HSl2 := blk_to HSl hd
  have HRs2 := blk_to HRs hd
  have HB2 := below_to HB1 (by have := HB1.out.size; omega) hd
  clear hd HSl HRs HB1
  obtain ⟨k0, k1, k2, k3⟩ := sl_keep HSl2.out (Below.refl w2.heap.size w2)
  go_wp2_with fail
  refine (laid_c g x y z _ HQ.out).mono ?_
  rintro e w3 ⟨rfl, hd⟩
  have HRs3 := blk_to HRs2 hd
  have HB3 := below_to HB2 (by have := HB2.out.size; omega) hd
  clear hd HSl2 HRs2 HB2 k0 k1 k2 k3
  go_wp2_with (first | (refine wl_store30 (B + 1) pz (layP g x y z) HRs3.out rfl _ _ rfl rfl rfl ?_))
  (try simp only [Exit.inBlock, Exit.then])
  refine bodyPost_ret (v := .tuple #[pv (layP g x y z), .nilIface]) ?_ rfl ?_
  · exact lay_results _ _ (B + 1) (layP g x y z) .nilIface rfl rfl (row_at _ _ pz _ HRs3.out)
  have hB3 : B + 1 < w3.heap.size := Err.lt_of_block HRs3.out
  rw [hB]
  exact ⟨rfl, HB3.out.trans ((mod_row w3 (B + 1) (pa (layP g x y z))).below (by have := HB3.out.size; omega) (fun i hi (e : i = B + 1) => by omega))⟩
end Go.Proofs.YtaodgnladjafoaaGreatDoor.Slt
