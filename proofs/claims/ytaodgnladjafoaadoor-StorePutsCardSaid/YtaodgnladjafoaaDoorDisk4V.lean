/- Disk.Read at a sector that can be asked for. -/
import Derived.Test.YtaodgnladjafoaaDoorDisk3V
set_option linter.unusedVariables false
set_option linter.unusedSimpArgs false
namespace Go.Proofs.YtaodgnladjafoaaDoor.Dk
open Go.RowKit Go.Proofs.YtaodgnladjafoaaDoorW.PrintWords Go.Proofs.YtaodgnladjafoaaDoorW.PrintLast Go.Proofs.YtaodgnladjafoaaDoorW.PrintMore Go.Proofs.YtaodgnladjafoaaDoor.Md
open Go.Extern.Stop (cell)
open Go.Proofs.YtaodgnladjafoaaDoor.Err (Laid IsErr code_nil Chain at_some at_nil)
def sa (x : Int × Pg) : Array Value := (scs x).toArray
def sv (x : Int × Pg) : Value := .agg (sa x)
theorem sa_size (x : Int × Pg) : (sa x).size = 65 := by simp [sa, scs, pcs_length]
theorem sa_one (x : Int × Pg) : (sa x).all (·.oneCell') = true := all_oneCell_toArray (scs_one x)
theorem size67 : (Tryd.prog.info? 127).map (·.size) = some 65 := by kernel_rfl
theorem zsoft_sz : zsoft.cells.size = 65 := by rfl
section
variable {ops : Array Oper} {rest : List Oper} {o : Oper} {a : Act} {w : World} {Q : Exit → Act → World → Prop}
theorem wl_look (M : Nat) (F : Int → Pg) (k : Int) (hm : MapAt w M F) (hgd : o.guard = none) (x y : Operand) (ho : o.op = .lookup 60 x y false) (hx : a.eval x = .map (some M)) (hy : a.eval y = .int .i64 k)
    (h : wpList Tryd.prog ops Q rest (a.put o.dst (pv (F k))) w) : wpList Tryd.prog ops Q (o :: rest) a w :=
  Kd.event_run hgd (by unfold execOp; simp only [ho, hx, hy, look w M F k hm, Sem.run_bind, Sem.run_pure, Result.andThen_ok]) h
theorem wl_alloc67 (hgd : o.guard = none) (ho : o.op = .alloc 127) (h : wpList Tryd.prog ops Q rest (a.put o.dst (.pointer (some ⟨w.heap.size, 0, none⟩))) (w.alloc (Obj.cells zsoft.cells 127 (0, 0)))) : wpList Tryd.prog ops Q (o :: rest) a w :=
  Kd.event_run hgd (by unfold execOp; simp only [ho]; kernel_rfl) h
theorem wl_store67 {W : World} (z : Int × Pg) (hgd : o.guard = none) (x y : Operand) (ho : o.op = .store 127 x y) (hx : a.eval x = .pointer (some ⟨W.heap.size, 0, none⟩)) (hy : a.eval y = sv z)
    (h : wpList Tryd.prog ops Q rest (a.put o.dst undef) (W.alloc (Obj.cells (sa z) 127 (0, 0)))) : wpList Tryd.prog ops Q (o :: rest) a (W.alloc (Obj.cells zsoft.cells 127 (0, 0))) :=
  wpList_plain hgd fun K hK => by
    unfold Oper.wp execOp
    simp only [ho, hx, hy]
    have e : (Instr.storeAt 127 (.pointer (some ⟨W.heap.size, 0, none⟩)) (sv z)).run Tryd.prog (W.alloc (Obj.cells zsoft.cells 127 (0, 0))) = .ok () (W.alloc (Obj.cells (sa z) 127 (0, 0))) := run_storeAt_new W 127 _ _ (by rw [size67, sa_size]) (by rw [zsoft_sz, sa_size]) (sa_one z)
    simp only [e, Sem.run_bind, Sem.run_pure, Result.andThen_ok]
    exact hK _ _ h
theorem wl_store30n {W : World} (q p : Pg) (hgd : o.guard = none) (x y : Operand) (ho : o.op = .store 91 x y) (hx : a.eval x = .pointer (some ⟨W.heap.size, 0, none⟩)) (hy : a.eval y = pv p)
    (h : wpList Tryd.prog ops Q rest (a.put o.dst undef) (W.alloc (Obj.cells (pa p) 91 (0, 0)))) : wpList Tryd.prog ops Q (o :: rest) a (W.alloc (Obj.cells (pa q) 91 (0, 0))) := by
  refine wl_store30 W.heap.size q p (heap_alloc_last _ _) hgd x y ho hx hy ?_
  rw [World.setRow_alloc_new]
  exact h
theorem wl_load67 (b off : Nat) (z : Int × Pg) (hr : w.rangeAt b off (scs z)) (hgd : o.guard = none) (x : Operand) (ho : o.op = .load 127 x) (hx : a.eval x = .pointer (some ⟨b, off, none⟩))
    (h : wpList Tryd.prog ops Q rest (a.put o.dst (sv z)) w) : wpList Tryd.prog ops Q (o :: rest) a w :=
  Kd.event_run hgd (by
    unfold execOp
    simp only [ho, hx, run_loadAt_mid w b off 127 (scs z) _ hr Tryd.underlying127 rfl (by rw [size67]; simp [scs, pcs_length]), Sem.run_bind, Sem.run_pure, Result.andThen_ok]
    rfl) h
theorem wl_loadP (b off : Nat) (p : Pg) (hr : w.rangeAt b off (pcs p)) (hgd : o.guard = none) (x : Operand) (ho : o.op = .load 91 x) (hx : a.eval x = .pointer (some ⟨b, off, none⟩))
    (h : wpList Tryd.prog ops Q rest (a.put o.dst (pv p)) w) : wpList Tryd.prog ops Q (o :: rest) a w :=
  Kd.event_run hgd (by
    unfold execOp
    simp only [ho, hx, run_loadAt_mid w b off 91 (pcs p) _ hr Tryd.underlying91 rfl (by rw [size30, pcs_length]), Sem.run_bind, Sem.run_pure, Result.andThen_ok]
    rfl) h
end
theorem IsD.ft_lt {w : World} {R M : Nat} {v : Value} {d : Dsk} (h : IsD w R M v d) : ∀ i, Ft R M v i → i < w.heap.size := by
  rintro i (rfl | rfl | e)
  · exact h.ltR
  · exact h.map.lt
  · obtain ⟨h0, inner, ho, hr⟩ := h.soft
    exact own_lt ho i e
theorem soft_at {w : World} {ok : Nat → Prop} {A : Option Addr} {n c : Nat} {l : List (Int × Pg)} (h : sk.R 127 w 0 ok (.slice A n c) l) (k : Nat) (hk : k < l.length) : ∃ g, A = some ⟨g, 0, none⟩ ∧ w.rangeAt g (k * 65) (scs l[k]) := by
  obtain ⟨g, cap, e, _⟩ := Kd.R_form h (by omega)
  injection e with e1 e2 e3
  subst e1
  obtain ⟨_, _, hr⟩ := Kd.R_reads' h
  obtain ⟨_, _, hx⟩ := hr
  obtain ⟨ad, ea, hx⟩ := hx (by omega)
  cases ea
  obtain ⟨cs, h1, h2, h4⟩ := hx k l[k] (List.getElem?_eq_getElem hk)
  have h2' : cs = scs l[k] := h2
  subst h2'
  refine ⟨g, rfl, fun j u hu => ?_⟩
  have := h4 j u hu
  rw [Addr.add_mid] at this
  simpa [sk] using this
theorem soft_cells (W : World) (z : Int × Pg) : (W.alloc (Obj.cells (sa z) 127 (0, 0))).cell? ⟨W.heap.size, 0, none⟩ = some (.int .i64 z.1) ∧ (W.alloc (Obj.cells (sa z) 127 (0, 0))).rangeAt W.heap.size 1 (pcs z.2) := by
  have hb := heap_alloc_last W (Obj.cells (sa z) 127 (0, 0))
  refine ⟨by rw [cell_of_row _ _ 0 _ _ _ hb]; rfl, fun j u hu => ?_⟩
  rw [cell_of_row _ _ _ _ _ _ hb, ← hu]
  simp [sa, scs, Nat.add_comm 1 j]
set_option maxHeartbeats 4000000 in
set_option maxRecDepth 100000 in
theorem read_ok (w : World) (R M : Nat) (v : Value) (d : Dsk) (i : Int) (h : Hid (IsD w R M v d)) (hn : mayN d i = 0) (hl : d.soft.length ≤ 9000) :
    Calls Tryd.prog 36 #[.pointer (some ⟨R, 0, none⟩), .int .i64 i] w fun ev w' => ev = .returned (.tuple #[pv (rd d i), .nilIface]) ∧ Below w.heap.size w w' := by
  obtain ⟨A, c, rfl⟩ := Kd.R_slice h.out.soft
  go_enter Tryd.func36, Tryd.ntmps36
  go_wp2_with (first | (refine wl_alloc30 rfl rfl ?_))
  have hA : Below w.heap.size w (w.alloc (Obj.cells (pa pz) 91 (0, 0))) := (Below.refl _ _).alloc (Nat.le_refl _) _
  have hP : (w.alloc (Obj.cells (pa pz) 91 (0, 0))).heap[w.heap.size]? = some (Obj.cells (pa pz) 91 (0, 0)) := heap_alloc_last _ _
  refine (may_c _ R M _ d i (Lib.hid (h.out.on hA))).mono ?_
  rintro e w2 ⟨he, hd2⟩
  rw [if_pos hn] at he
  subst he
  have HB2 := Lib.hid (hA.trans (hd2.mono (by simp)))
  have HP2 := Lib.hid ((hd2.block w.heap.size (by simp)).trans hP)
  clear hd2 hA hP
  have c1 := (h.out.on HB2.out).c1
  have hm2 := (h.out.on HB2.out).map
  have HM2 := Lib.hid hm2
  obtain ⟨F, hF⟩ : ∃ F, d.firm i = F := ⟨_, rfl⟩
  have HF := Lib.hid hF
  have hB3 : Below w2.heap.size w2 (w2.alloc (Obj.cells (pa F) 91 (0, 0))) := (Below.refl _ _).alloc (Nat.le_refl _) _
  have hd3 := (h.out.on HB2.out).on hB3
  have c2 := hd3.c2
  have hq3 : (w2.alloc (Obj.cells (pa F) 91 (0, 0))).heap[w2.heap.size]? = some (Obj.cells (pa F) 91 (0, 0)) := heap_alloc_last _ _
  have HD3 := Lib.hid hd3
  have HQ3 := Lib.hid hq3
  have HB3 := Lib.hid (HB2.out.trans (hB3.mono HB2.out.size))
  have HP3 := Lib.hid ((hB3.block w.heap.size (Err.lt_of_block HP2.out)).trans HP2.out)
  have hne : w.heap.size ≠ w2.heap.size := by have := Err.lt_of_block HP2.out; omega
  have hge : w.heap.size ≤ w2.heap.size := HB2.out.size
  clear hB3 hd3 hq3 hm2
  go_wp2_with (first | (refine wl_look M d.firm i HM2.out rfl _ _ rfl rfl rfl ?_; rw [hF]) | (refine wl_alloc30 rfl rfl ?_) | (refine wl_store30n pz F rfl _ _ rfl rfl rfl ?_))
  obtain ⟨B, hB⟩ : ∃ B, w2.heap.size = B := ⟨_, rfl⟩
  rw [hB] at HQ3 hne hge
  obtain ⟨w3, hw3⟩ : ∃ w3, w2.alloc (Obj.cells (pa F) 91 (0, 0)) = w3 := ⟨_, rfl⟩
  rw [hw3] at HD3 HQ3 HB3 HP3
  rw [hw3]
  simp only [hB]
  clear hw3 hB HB2 HP2 c1 c2 HM2
  have hft : ∀ i, Ft R M (.slice A d.soft.length c) i → i ≠ B := fun i hi e => by have := h.out.ft_lt i hi; omega
  obtain ⟨n, hn2⟩ : ∃ n, d.soft.length = n := ⟨_, rfl⟩
  have HNn := Lib.hid hn2
  rw [hn2]
  rw [hn2] at HD3 hl hft
  have HFT := Lib.hid hft
  clear hft
  go_loopg [29] n (fun kq v0 wr => ∃ k : Nat, v0 = .int .i64 (k : Int) ∧ kq + k = n ∧ Hid (Below w.heap.size w wr) ∧ Hid (wr.heap[w.heap.size]? = some (Obj.cells (pa pz) 91 (0, 0))) ∧ Hid (wr.heap[B]? = some (Obj.cells (pa ((d.soft.take k).foldl (fun out x => if x.1 = i then x.2 else out) F)) 91 (0, 0))) ∧ Hid (IsD wr R M (.slice A n c) d))
  case atStart => exact ⟨0, rfl, by omega, HB3, HP3, HQ3, HD3⟩
  case round =>
    clear HB3 HP3 HQ3 HD3
    obtain ⟨k, rfl, hk, HB, HP, HQ, HD⟩ := hrel
    cases gk with
    | zero =>
      have hkn : k = n := by omega
      have c5 : decide ((k : Int) < (n : Int)) = false := decide_eq_false (by omega)
      have c5' : decide (k < n) = false := decide_eq_false (by omega)
      have HQ2 := Lib.hid (show wr.heap[B]? = some (Obj.cells (pa (rd d i)) 91 (0, 0)) by
        have := HQ.out
        rw [hkn, ← HNn.out, List.take_length] at this
        unfold rd; rw [HF.out]; exact this)
      clear hk hkn
      go_wp2_with (first | (refine wl_load30 B (rd d i) HQ2.out rfl _ rfl rfl ?_) | (refine wl_store30 w.heap.size pz (rd d i) HP.out rfl _ _ rfl rfl rfl ?_))
      (try simp only [Exit.inBlock, Exit.then])
      refine bodyPost_ret (v := .tuple #[pv (rd d i), .nilIface]) ?_ rfl ?_
      · exact read_results _ _ w.heap.size (rd d i) .nilIface rfl rfl (row_at _ _ pz _ HP.out)
      exact ⟨rfl, HB.out.trans ((mod_row wr w.heap.size (pa (rd d i))).below HB.out.size (fun i hi (e : i = w.heap.size) => by omega))⟩
    | succ k1 =>
      have hkn : k < n := by omega
      have hkl : k < d.soft.length := by have := HNn.out; omega
      have c5 : decide ((k : Int) < (n : Int)) = true := decide_eq_true (by omega)
      have c5' : decide (k < n) = true := decide_eq_true (by omega)
      have q5 : IntKind.i64.wrap ((k : Int) + 1) = (k : Int) + 1 := IntWalk.i64_in _ (by omega)
      have p1 : (0 ≤ (k : Int)) = True := eq_true (by omega)
      have p2 : ((k : Int) < (n : Int)) = True := eq_true (by omega)
      obtain ⟨g, rfl, hr⟩ := soft_at HD.out.soft k hkl
      have hfold : (d.soft.take (k + 1)).foldl (fun out x => if x.1 = i then x.2 else out) F = if (d.soft[k]).1 = i then (d.soft[k]).2 else (d.soft.take k).foldl (fun out x => if x.1 = i then x.2 else out) F := by
        rw [List.take_succ_eq_append_getElem hkl, List.foldl_append]; rfl
      obtain ⟨x, hx⟩ : ∃ x, d.soft[k] = x := ⟨_, rfl⟩
      rw [hx] at hr hfold
      have HR := Lib.hid hr
      have HFo := Lib.hid hfold
      obtain ⟨out, hout⟩ : ∃ out, (d.soft.take k).foldl (fun out x => if x.1 = i then x.2 else out) F = out := ⟨_, rfl⟩
      rw [hout] at HQ HFo
      obtain ⟨hc, hpr⟩ := soft_cells wr x
      have HPR := Lib.hid hpr
      clear hx hr hfold hout hpr
      have hb1 : Below wr.heap.size wr (wr.alloc (Obj.cells (sa x) 127 (0, 0))) := (Below.refl _ _).alloc (Nat.le_refl _) _
      have HB1 := Lib.hid (HB.out.trans (hb1.mono HB.out.size))
      have HP1 := Lib.hid ((hb1.block _ (Err.lt_of_block HP.out)).trans HP.out)
      have HQ1 := Lib.hid ((hb1.block _ (Err.lt_of_block HQ.out)).trans HQ.out)
      have HD1 := Lib.hid (HD.out.on hb1)
      clear hb1
      by_cases hx1 : x.1 = i
      · have e1 : (x.1 == i) = true := beq_iff_eq.2 hx1
        rw [if_pos hx1] at HFo
        clear hx1
        go_wp2_with (first | (refine wl_load67 g (k * 65) x HR.out rfl _ rfl rfl ?_) | (refine wl_alloc67 rfl rfl ?_) | (refine wl_store67 x rfl _ _ rfl rfl rfl ?_) | (refine wl_loadP wr.heap.size 1 x.2 HPR.out rfl _ rfl rfl ?_) | (refine wl_store30 B out x.2 HQ1.out rfl _ _ rfl rfl rfl ?_))
        have hM := mod_row (wr.alloc (Obj.cells (sa x) 127 (0, 0))) B (pa x.2)
        have HB9 := Lib.hid (HB1.out.trans (hM.below HB1.out.size (fun i hi (e : i = B) => by omega)))
        have HP9 := Lib.hid (hM.blk HP1.out hne)
        have HQ9 := Lib.hid (row_at _ _ out x.2 HQ1.out)
        have HD9 := Lib.hid (HD1.out.mod hM HFT.out)
        clear hM HB1 HP1 HQ1 HD1 HPR hc
        generalize (wr.alloc (Obj.cells (sa x) 127 (0, 0))).setRow B (pa x.2) = wx at HB9 HP9 HQ9 HD9 ⊢
        have HQ8 := Lib.hid (show wx.heap[B]? = some (Obj.cells (pa ((d.soft.take (k + 1)).foldl (fun out x => if x.1 = i then x.2 else out) F)) 91 (0, 0)) by rw [HFo.out]; exact HQ9.out)
        go_roundg k1
        case measure => exact Nat.lt_succ_self _
        case rel => exact ⟨k + 1, by simp, by omega, HB9, HP9, HQ8, HD9⟩
      · have e1 : (x.1 == i) = false := beq_eq_false_iff_ne.2 hx1
        rw [if_neg hx1] at HFo
        clear hx1
        go_wp2_with (first | (refine wl_load67 g (k * 65) x HR.out rfl _ rfl rfl ?_) | (refine wl_alloc67 rfl rfl ?_) | (refine wl_store67 x rfl _ _ rfl rfl rfl ?_))
        go_roundg k1
        case measure => exact Nat.lt_succ_self _
        case rel => exact ⟨k + 1, by simp, by omega, HB1, HP1, Lib.hid (by rw [HFo.out]; exact HQ1.out), HD1⟩
end Go.Proofs.YtaodgnladjafoaaDoor.Dk
