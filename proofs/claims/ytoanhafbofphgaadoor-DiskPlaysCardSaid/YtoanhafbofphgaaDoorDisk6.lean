/- Whole sectors in a walk, guarded operations too; eight sectors in one variable. -/
import Derived.Test.YtoanhafbofphgaaDoorDisk5
set_option linter.unusedVariables false
set_option linter.unusedSimpArgs false
namespace Go.Proofs.YtoanhafbofphgaaDoor.Dk
open Go.RowKit Go.Proofs.YtoanhafbofphgaaDoorW.PrintWords Go.Proofs.YtoanhafbofphgaaDoorW.PrintLast Go.Proofs.YtoanhafbofphgaaDoorW.PrintMore Go.Proofs.YtoanhafbofphgaaDoor.Md
open Go.Extern.Stop (cell)
open Go.Proofs.YtoanhafbofphgaaDoor.Err (Laid IsErr code_nil Chain at_some at_nil)
section
variable {ops : Array Oper} {rest : List Oper} {o : Oper} {a : Act} {w : World} {Q : Exit → Act → World → Prop}
theorem wg_run {w1 : World} {v : Value} (hw : Region.wanted o (yielded ops a.tmps) = true) (hrun : (execOp a.eval o).run Tryd.prog w = .ok (.value v) w1) (h : wpList Tryd.prog ops Q rest (a.put o.dst v) w1) : wpList Tryd.prog ops Q (o :: rest) a w :=
  BigFrame.wpList_want hw fun K hK => by
    unfold Oper.wp
    rw [hrun]
    exact hK _ _ h
theorem wg_build30 (hw : Region.wanted o (yielded ops a.tmps) = true) (ho : o.op = .build 30 #[]) (h : wpList Tryd.prog ops Q rest (a.put o.dst (pv pz)) w) : wpList Tryd.prog ops Q (o :: rest) a w :=
  wg_run hw (by unfold execOp; simp only [ho]; kernel_rfl) h
def p1 : Pg := ⟨1 :: List.replicate 63 0, by simp⟩
theorem wg_build30_1 (hw : Region.wanted o (yielded ops a.tmps) = true) (ho : o.op = .build 30 #[(0, .const (.int .u8 1))]) (h : wpList Tryd.prog ops Q rest (a.put o.dst (pv p1)) w) : wpList Tryd.prog ops Q (o :: rest) a w :=
  wg_run hw (by unfold execOp; simp only [ho]; kernel_rfl) h
theorem wg_load30 (b : Nat) (p : Pg) (hp : w.heap[b]? = some (Obj.cells (pa p) 30 (0, 0))) (hw : Region.wanted o (yielded ops a.tmps) = true) (x : Operand) (ho : o.op = .load 30 x) (hx : a.eval x = .pointer (some ⟨b, 0, none⟩))
    (h : wpList Tryd.prog ops Q rest (a.put o.dst (pv p)) w) : wpList Tryd.prog ops Q (o :: rest) a w :=
  wg_run hw (by unfold execOp; simp only [ho, hx, run_load30 w b p hp, Sem.run_bind, Sem.run_pure, Result.andThen_ok]) h
theorem wg_loadP (b off : Nat) (p : Pg) (hr : w.rangeAt b off (pcs p)) (hw : Region.wanted o (yielded ops a.tmps) = true) (x : Operand) (ho : o.op = .load 30 x) (hx : a.eval x = .pointer (some ⟨b, off, none⟩))
    (h : wpList Tryd.prog ops Q rest (a.put o.dst (pv p)) w) : wpList Tryd.prog ops Q (o :: rest) a w :=
  wg_run hw (by
    unfold execOp
    simp only [ho, hx, run_loadAt_mid w b off 30 (pcs p) _ hr Tryd.underlying30 rfl (by rw [size30, pcs_length]), Sem.run_bind, Sem.run_pure, Result.andThen_ok]
    rfl) h
theorem eqG (op : BinOp) (x y : Operand) (p q : Pg) (w : World) : (eqGuard op 30 x y (pv p) (pv q)).run Tryd.prog w = .ok () w := run_eqGuard_agg w op 30 x y _ _ (by kernel_rfl)
theorem wg_eql (p q : Pg) (hw : Region.wanted o (yielded ops a.tmps) = true) (x y : Operand) (ho : o.op = .binOp .eql 30 x y 30) (hx : a.eval x = pv p) (hy : a.eval y = pv q)
    (h : wpList Tryd.prog ops Q rest (a.put o.dst (.bool (p.1 == q.1))) w) : wpList Tryd.prog ops Q (o :: rest) a w :=
  wg_run hw (by unfold execOp; simp only [ho, hx, hy, eqG .eql x y p q w, eqlP p q w, Sem.run_bind, Sem.run_pure, Result.andThen_ok]) h
theorem neqP (p q : Pg) (w : World) : (binOp .neq 30 (pv p) (pv q)).run Tryd.prog w = .ok (.bool (p.1 != q.1)) w := by
  have e : pv p = .agg (p.1.map cell).toArray := rfl
  have e2 : pv q = .agg (q.1.map cell).toArray := rfl
  rw [e, e2, run_neq_struct, run_equalIn_bytes w 9998 30 5 64 Tryd.underlying30 Tryd.underlying5 size5 p.1 q.1 p.2 q.2]
  rfl
theorem wg_neq (p q : Pg) (hw : Region.wanted o (yielded ops a.tmps) = true) (x y : Operand) (ho : o.op = .binOp .neq 30 x y 30) (hx : a.eval x = pv p) (hy : a.eval y = pv q)
    (h : wpList Tryd.prog ops Q rest (a.put o.dst (.bool (p.1 != q.1))) w) : wpList Tryd.prog ops Q (o :: rest) a w :=
  wg_run hw (by unfold execOp; simp only [ho, hx, hy, eqG .neq x y p q w, neqP p q w, Sem.run_bind, Sem.run_pure, Result.andThen_ok]) h
end
theorem below_to {B : Nat} {w w1 w2 : World} (h : Hid (Below B w w1)) (hB : B ≤ w.heap.size) (k : Below w1.heap.size w1 w2) : Hid (Below B w w2) :=
  h.out.trans (k.mono (Nat.le_trans hB h.out.size))
theorem mod_to {B : Nat} {w w1 w2 : World} {S : Nat → Prop} (h : Hid (Below B w w1)) (hB : B ≤ w.heap.size) (hR : ∀ i, S i → B ≤ i) (k : Mod S w1 w2) : Hid (Below B w w2) :=
  h.out.trans (k.below (Nat.le_trans hB h.out.size) (by intro i hi e; have := hR i e; omega))
theorem blk_to {w1 w2 : World} {k : Nat} {ob : Obj} (h : Hid (w1.heap[k]? = some ob)) (b : Below w1.heap.size w1 w2) : Hid (w2.heap[k]? = some ob) := (b.block k (Err.lt_of_block h.out)).trans h.out
theorem rd_firm (d : Dsk) (i : Int) (h : d.soft = []) : rd d i = d.firm i := by unfold rd; rw [h]; rfl
theorem rd_snoc (d : Dsk) (i j : Int) (p : Pg) (b : Int) : rd { d with soft := d.soft ++ [(j, p)], budget := b } i = if j = i then p else rd d i := by
  unfold rd; rw [List.foldl_append]; rfl
theorem mayN_zero {d : Dsk} {i : Int} (h : d.down = false) (h0 : 0 ≤ i) (h1 : i < d.size) : mayN d i = 0 := by
  unfold mayN
  rw [h, if_neg (by simp), if_neg (by omega)]
/-- a disk's blocks lie from B on -/
def Fr (B R M : Nat) (v : Value) : Prop := ∀ i, Ft R M v i → B ≤ i
theorem Fr.nil {B R M : Nat} (hR : B ≤ R) (hM : B ≤ M) : Fr B R M (.slice none 0 0) := by
  rintro i (rfl | rfl | e)
  · exact hR
  · exact hM
  · simp [Value.ownBlock] at e
theorem Fr.write {B R M : Nat} {v v' : Value} {w : World} (h : Fr B R M v) (hB : B ≤ w.heap.size) (hv : v'.ownBlock = v.ownBlock ∨ ∃ b, v'.ownBlock = some b ∧ w.heap.size ≤ b) : Fr B R M v' := by
  rintro i (rfl | rfl | e)
  · exact h _ (.inl rfl)
  · exact h _ (.inr (.inl rfl))
  · rcases hv with g | ⟨b, g, hb⟩
    · exact h i (.inr (.inr (by rw [← g]; exact e)))
    · rw [g] at e; cases e; omega
theorem Fr.settle {B R M : Nat} {v : Value} (h : Fr B R M v) : Fr B R M (.slice none 0 0) := Fr.nil (h _ (.inl rfl)) (h _ (.inr (.inl rfl)))
theorem row_to {w1 w2 : World} {R M k : Nat} {v : Value} {d : Dsk} {ob : Obj} (h : Hid (w1.heap[k]? = some ob)) (hd : IsD w1 R M v d) (hk : ∀ i, Ft R M v i → i ≠ k) (m : Mod (Ft R M v) w1 w2) : Hid (w2.heap[k]? = some ob) := m.blk h.out (fun hf => hk k hf rfl)
set_option maxHeartbeats 4000000 in
set_option maxRecDepth 100000 in
theorem awake_c (w : World) (hg : Hid (Laid w)) : Calls Tryd.prog 8 #[] w fun e w' => e = .returned (.bool true) ∧ Below w.heap.size w w' := by
  have hpp : (p1.1 == p1.1) = true := by simp
  have hzz : (pz.1 == pz.1) = true := by simp
  have hw := Lib.hid (Below.refl w.heap.size w)
  go_enter Tryd.func8, Tryd.ntmps8
  go_wp2_with fail
  refine (new_c w 4 (by omega) (by omega)).mono ?_
  rintro e w1 ⟨R, M, hR, hM, rfl, hb, hd⟩
  have HB1 := below_to hw (Nat.le_refl _) hb
  have HD1 := Lib.hid hd
  have HL1 := Lib.hid (hg.out.on HB1.out)
  clear hb hd hw
  go_wp2_with (first | (refine wg_build30_1 (by rfl) rfl ?_))
  refine (write_ok w1 R M _ _ 0 p1 HD1 (Lib.hid rfl) (by omega) (by show (0 : Int) < 4; omega) (by show (-1 : Int) ≠ 0; omega) (by show (-1 : Int) ≤ -1; omega) (by show (-1 : Int) < _; omega) (by show 0 ≤ 1000; omega)).mono ?_
  rintro e w2 ⟨rfl, v2, hm, hd, hv⟩
  have hFr1 : Fr w.heap.size R M (.slice none 0 0) := Fr.nil hR hM
  have HF2 := Lib.hid (hFr1.write (w := w1) HB1.out.size hv)
  have HB2 := mod_to HB1 (Nat.le_refl _) hFr1 hm
  have HD2 := Lib.hid hd
  have HL2 := Lib.hid (hg.out.on HB2.out)
  obtain ⟨d2, hd2⟩ : ∃ d2 : Dsk, d2 = ⟨4, fun _ => pz, [] ++ [(0, p1)], false, max (-1 - 1) (-1)⟩ := ⟨_, rfl⟩
  have HD2 := Lib.hid (show IsD w2 R M v2 d2 by rw [hd2]; exact hd)
  have hr2 : rd d2 0 = p1 := by rw [hd2]; rfl
  have hn2 : mayN d2 0 = 0 := by rw [hd2]; rfl
  have hl2 : d2.soft.length ≤ 1000 := by rw [hd2]; show 1 ≤ 1000; omega
  have hst : stl 0 d2.firm d2.soft 0 = fun _ => pz := by
    rw [hd2]; show (if bit 0 0 then upd (fun _ => pz) 0 p1 else fun _ => pz) = _
    rw [if_neg (by decide)]
  have h4 : d2.size = 4 := by rw [hd2]
  have HX := Lib.hid hst
  clear hm hd hv hFr1 hst hd2
  go_wp2_with fail
  refine (read_ok w2 R M v2 d2 0 HD2 hn2 hl2).mono ?_
  rintro e w3 ⟨rfl, hd3⟩
  rw [hr2]
  have hB := HD2.out.ft_lt
  have HB3 := below_to HB2 (Nat.le_refl _) hd3
  have HD3 := Lib.hid (HD2.out.on hd3)
  clear hd3 hr2 hn2
  go_wp2_with (first | (refine wl_alloc30 rfl rfl ?_) | (refine wl_store30n pz p1 rfl _ _ rfl rfl rfl ?_))
  have hb4 : Below w3.heap.size w3 (w3.alloc (Obj.cells (pa p1) 30 (0, 0))) := (Below.refl _ _).alloc (Nat.le_refl _) _
  have HK4 := Lib.hid (heap_alloc_last w3 (Obj.cells (pa p1) 30 (0, 0)))
  have HB4 := below_to HB3 (Nat.le_refl _) hb4
  have HD4 := Lib.hid (HD3.out.on hb4)
  have hft4 := HD3.out.ft_lt
  obtain ⟨K, hK⟩ : ∃ K, w3.heap.size = K := ⟨_, rfl⟩
  rw [hK] at HK4 hft4
  simp only [hK]
  have hne : ∀ i, Ft R M v2 i → i ≠ K := fun i hi e => by have := hft4 i hi; omega
  refine (crash_c _ R M v2 d2 0 HD4 (by decide) hl2).mono ?_
  rintro e w5 ⟨rfl, hm, hd⟩
  rw [HX.out] at hd
  have HK5 := row_to HK4 HD4.out hne hm
  have HB5 := mod_to HB4 (Nat.le_refl _) HF2.out hm
  have hFr5 := HF2.out.settle
  have HD5 := Lib.hid hd
  clear hm hd hb4 hK hft4 hl2
  go_wp2_with fail
  refine (read_may w5 R M _ _ 0 HD5 (by show (11 : Int) ≠ 0; decide)).mono ?_
  rintro e w6 ⟨T, x, rfl, he, hd6⟩
  have HE6 := Lib.hid (show Err.IsErr w6 (.iface T x) 11 from he)
  have HB6 := below_to HB5 (Nat.le_refl _) hd6
  have HD6 := Lib.hid (HD5.out.on hd6)
  have HK6 := blk_to HK5 hd6
  clear he hd6
  go_wp2_with (first | (refine wl_alloc30 rfl rfl ?_) | (refine wl_store30n pz pz rfl _ _ rfl rfl rfl ?_))
  have hb7 : Below w6.heap.size w6 (w6.alloc (Obj.cells (pa pz) 30 (0, 0))) := (Below.refl _ _).alloc (Nat.le_refl _) _
  have HE7 := Lib.hid (HE6.out.on hb7)
  have HB7 := below_to HB6 (Nat.le_refl _) hb7
  have HD7 := Lib.hid (HD6.out.on hb7)
  have HK7 := blk_to HK6 hb7
  clear hb7
  refine (up_c _ R M _ _ HD7).mono ?_
  rintro e w8 ⟨rfl, hm, hd⟩
  have hRK : R ≠ K := hne R (.inl rfl)
  have hFR := hFr5 R (.inl rfl)
  have HK8 := Lib.hid (hm.blk HK7.out (fun (e : K = R) => hRK e.symm))
  have HB8 := mod_to HB7 (Nat.le_refl _) (fun i (e : i = R) => by omega) hm
  have HE8 := Lib.hid (isErr_mod HE7.out hm (fun b cs hb (e : b = R) => by subst e; rw [HD7.out.blk] at hb; simp at hb))
  have HD8 := Lib.hid hd
  clear hm hd
  go_wp2_with fail
  refine (read_ok w8 R M _ _ 0 HD8 (by show (if (false : Bool) = true then (11 : Int) else if (0 : Int) < 0 ∨ d2.size ≤ 0 then 1 else 0) = 0; rw [h4]; decide) (by show 0 ≤ 1000; omega)).mono ?_
  rintro e w9 ⟨rfl, hd9⟩
  rw [show rd _ 0 = pz from rfl]
  have HB9 := below_to HB8 (Nat.le_refl _) hd9
  have HK9 := blk_to HK8 hd9
  have HE9 := Lib.hid (HE8.out.on hd9)
  clear hd9
  go_wp2_with (first | (refine wl_alloc30 rfl rfl ?_) | (refine wl_store30n pz pz rfl _ _ rfl rfl rfl ?_))
  have hb10 : Below w9.heap.size w9 (w9.alloc (Obj.cells (pa pz) 30 (0, 0))) := (Below.refl _ _).alloc (Nat.le_refl _) _
  have HZ10 := Lib.hid (heap_alloc_last w9 (Obj.cells (pa pz) 30 (0, 0)))
  have HB10 := below_to HB9 (Nat.le_refl _) hb10
  have HK10 := blk_to HK9 hb10
  have HE10 := Lib.hid (HE9.out.on hb10)
  clear hb10
  refine (code_nil _).mono ?_
  rintro e w11 ⟨rfl, hd⟩
  have HB11 := below_to HB10 (Nat.le_refl _) hd
  have HK11 := blk_to HK10 hd
  have HZ11 := blk_to HZ10 hd
  have HE11 := Lib.hid (HE10.out.on hd)
  clear hd
  go_wp2_with fail
  refine (code_nil _).mono ?_
  rintro e w12 ⟨rfl, hd⟩
  have HB12 := below_to HB11 (Nat.le_refl _) hd
  have HK12 := blk_to HK11 hd
  have HZ12 := blk_to HZ11 hd
  have HE12 := Lib.hid (HE11.out.on hd)
  clear hd
  go_wp2_with fail
  refine (code_nil _).mono ?_
  rintro e w13 ⟨rfl, hd⟩
  have HB13 := below_to HB12 (Nat.le_refl _) hd
  have HK13 := blk_to HK12 hd
  have HZ13 := blk_to HZ12 hd
  have HE13 := Lib.hid (HE12.out.on hd)
  clear hd
  go_wp2_with fail
  refine (Err.code_c _ 11 _ HE13 (Lib.hid (hg.out.on HB13.out))).mono ?_
  rintro e w14 ⟨rfl, hd⟩
  have HB14 := below_to HB13 (Nat.le_refl _) hd
  have HK14 := blk_to HK13 hd
  have HZ14 := blk_to HZ13 hd
  clear hd
  go_wp2_with fail
  refine (code_nil _).mono ?_
  rintro e w15 ⟨rfl, hd⟩
  have HB15 := below_to HB14 (Nat.le_refl _) hd
  have HK15 := blk_to HK14 hd
  have HZ15 := blk_to HZ14 hd
  clear hd
  go_wp2_with (first | (refine wg_load30 K p1 HK15.out (by rfl) _ rfl rfl ?_) | (refine wg_load30 w9.heap.size pz HZ15.out (by rfl) _ rfl rfl ?_) | (refine wg_build30_1 (by rfl) rfl ?_) | (refine wg_build30 (by rfl) rfl ?_) | (refine wg_eql p1 p1 (by rfl) _ _ rfl rfl rfl ?_) | (refine wg_eql pz pz (by rfl) _ _ rfl rfl rfl ?_))
  go_ret
  exact ⟨rfl, HB15.out⟩
end Go.Proofs.YtoanhafbofphgaaDoor.Dk
