/- The document's Write of a disk, where it goes well. -/
import Derived.Test.YtoanhafbofphgaaDoorRefD2
set_option linter.unusedVariables false
set_option linter.unusedSimpArgs false
namespace Go.Proofs.YtoanhafbofphgaaDoor.Rfd
open Go.RowKit Go.Proofs.YtoanhafbofphgaaDoorW.PrintWords Go.Proofs.YtoanhafbofphgaaDoorW.PrintLast Go.Proofs.YtoanhafbofphgaaDoorW.PrintMore Go.Proofs.YtoanhafbofphgaaDoor.Md Go.Proofs.YtoanhafbofphgaaDoor.Dk
open Go.Extern.Stop (cell)
open Go.Proofs.YtoanhafbofphgaaDoor.Err (Laid IsErr code_nil Chain at_some at_nil)
theorem exec_loadPB {ρ : Operand → Value} {oo : Oper} {x : Operand} {W : World} {b off : Nat} {p : Pg} (ho : oo.op = .load 29 x) (hx : ρ x = .pointer (some ⟨b, off, none⟩)) (hr : W.rangeAt b off (pcs p)) : (execOp ρ oo).run Tryd.prog W = .ok (.value (pv p)) W := by
  unfold execOp; simp only [ho, hx, loadPB W b off p hr, Sem.run_bind, Sem.run_pure, Result.andThen_ok]
theorem grown_none {w w1 : World} (h : w.grownBy w1 none) : Below w.heap.size w w1 := pw_below_grown (Below.refl _ _) none (Nat.le_refl _) h (fun k e => by cases e)
theorem r_sl {α : Type} {d : Kd α} {e base : Nat} {w : World} {ok : Nat → Prop} {v : Value} {xs : List α} (h : d.R e w base ok v xs) : ∃ A m c, v = .slice A m c := by
  obtain ⟨A, c, e⟩ := Kd.R_slice h
  exact ⟨A, _, c, e⟩
theorem IsR.Cx {w : World} {r : RV} {d : RD} (h : IsR w r d) : Kd.C (Kd.int .i64) w r.x.p r.x.n (d.L.map (fun x : Int × Pg => x.1)) := by
  obtain ⟨e, _, hc⟩ := Kd.R_reads' (show (Kd.int .i64).R _ w 0 _ (.slice r.x.p r.x.n r.x.c) _ from h.x)
  rw [e]; exact hc
theorem IsR.Cy {w : World} {r : RV} {d : RD} (h : IsR w r d) : Kd.C pk w r.y.p r.y.n (d.L.map (fun x : Int × Pg => x.2)) := by
  obtain ⟨e, _, hc⟩ := Kd.R_reads' (show pk.R _ w 0 _ (.slice r.y.p r.y.n r.y.c) _ from h.y)
  rw [e]; exact hc
theorem IsR.Cz {w : World} {r : RV} {d : RD} (h : IsR w r d) : Kd.C Kd.bool w r.z.p r.z.n d.fi := by
  obtain ⟨e, _, hc⟩ := Kd.R_reads' (show Kd.bool.R _ w 0 _ (.slice r.z.p r.z.n r.z.c) _ from h.z)
  rw [e]; exact hc
theorem row_keep {α : Type} {d : Kd α} {e : Nat} {w w' : World} {ok : Nat → Prop} {v : Value} {xs : List α} {X : Nat} {cs : Array Value} (h : d.R e w 0 ok v xs) (hx : w.heap[X]? = some (.cells cs 49 (0, 0))) (k : Mod (· = X) w w') (he : e ≠ 49) (hM : ∀ x cs ok', d.M w 0 ok' x cs → d.M w' 0 ok' x cs) : d.R e w' 0 ok v xs :=
  r_mod h k (fun i cells hc (e2 : i = X) => by
    subst e2
    rw [hx] at hc
    injection hc with hc; injection hc with _ hc _
    exact he hc.symm) hM
set_option maxHeartbeats 16000000 in
set_option maxRecDepth 100000 in
theorem rwrite_pos (r : RV) (d : RD) (i : Int) (p : Pg) (w : World) (h : Hid (IsR w r d)) (hdn : r.down = false) (h0 : 0 ≤ i) (hi : i < r.size) (hb : 0 < r.budget) (hb1 : r.budget < 9223372036854775808) (hl : d.L.length ≤ 1000) (b2 : Int) (hb2 : Hid (b2 = max (d.budget - 1) (-1))) : Calls Tryd.prog 20 #[.agg r.a, .int .i64 i, pv p] w fun e w' => ∃ r', e = .returned (.tuple #[.agg r'.a, .int .i64 0]) ∧ IsR w' r' { d with S := d.S ++ [(i, p)], budget := max (d.budget - 1) (-1) } ∧ Below w.heap.size w w' := by
  have hbe := h.out.budget
  have hbb : b2 = r.budget - 1 := by rw [hb2.out, ← hbe]; omega
  have hdd := h.out.down
  have hss := h.out.size
  rw [hdn] at hdd
  have HBb := Lib.hid hb2.out
  have HDd := Lib.hid hdd
  have HSs := Lib.hid hss
  have d1 : decide (i < 0) = false := decide_eq_false (by omega)
  have d2 : decide (i ≥ r.size) = false := decide_eq_false (by omega)
  have d2b : decide (r.size ≤ i) = false := decide_eq_false (by omega)
  have d3 : (r.budget == 0) = false := beq_eq_false_iff_ne.2 (by omega)
  have d3b : decide (r.budget = 0) = false := decide_eq_false (by omega)
  have d4 : decide (r.budget > 0) = true := decide_eq_true (by omega)
  have d4b : decide (0 < r.budget) = true := decide_eq_true (by omega)
  have q1 : IntKind.i64.wrap (r.budget - 1) = r.budget - 1 := IntWalk.i64_in _ (by omega)
  obtain ⟨sz, ⟨xp, xn, xc⟩, ⟨yp, yn, yc⟩, ⟨zp, zn, zc⟩, dn, bu⟩ := r
  have hnx := h.out.nx
  have hny := h.out.ny
  have hnz := h.out.nz
  simp only at hdn hi hb hb1 hbe hss d1 d2 d2b d3 d3b d4 d4b q1 hnx hny hnz hbb
  subst dn
  have hpv := pv_eq p
  obtain ⟨rr, hrr⟩ : ∃ rr : RV, rr = ⟨sz, ⟨xp, xn, xc⟩, ⟨yp, yn, yc⟩, ⟨zp, zn, zc⟩, false, bu⟩ := ⟨_, rfl⟩
  obtain ⟨g1, g2, g3⟩ := alloc3 w (Obj.cells rr.a 49 (0, 0)) (Obj.cells (pa p) 29 (0, 0)) (Obj.cells RV.zero.a 49 (0, 0))
  have hb3 := below3 w (Obj.cells rr.a 49 (0, 0)) (Obj.cells (pa p) 29 (0, 0)) (Obj.cells RV.zero.a 49 (0, 0))
  have HD1 := Lib.hid g1
  have HP1 := Lib.hid g2
  have HZ1 := Lib.hid g3
  have HB1 := Lib.hid hb3
  rw [← hrr]
  rw [hrr] at HD1
  have a0 : (((w.alloc (Obj.cells rr.a 49 (0, 0))).alloc (Obj.cells (pa p) 29 (0, 0))).alloc (Obj.cells RV.zero.a 49 (0, 0))).cell? ⟨w.heap.size, 0, none⟩ = some (.int .i64 sz) := by rw [hrr]; exact Err.cell_of_blk HD1.out 0
  have a4 : (((w.alloc (Obj.cells rr.a 49 (0, 0))).alloc (Obj.cells (pa p) 29 (0, 0))).alloc (Obj.cells RV.zero.a 49 (0, 0))).cell? ⟨w.heap.size, 4, none⟩ = some (.bool false) := by rw [hrr]; exact Err.cell_of_blk HD1.out 4
  have a5 : (((w.alloc (Obj.cells rr.a 49 (0, 0))).alloc (Obj.cells (pa p) 29 (0, 0))).alloc (Obj.cells RV.zero.a 49 (0, 0))).cell? ⟨w.heap.size, 5, none⟩ = some (.int .i64 bu) := by rw [hrr]; exact Err.cell_of_blk HD1.out 5
  have f5 : (((w.alloc (Obj.cells rr.a 49 (0, 0))).alloc (Obj.cells (pa p) 29 (0, 0))).alloc (Obj.cells RV.zero.a 49 (0, 0))).frozen? ⟨w.heap.size, 5, none⟩ = false := by rw [hrr]; exact rv_fz HD1 5
  have HRr := Lib.hid hrr
  have HNx := Lib.hid hnx
  have HNy := Lib.hid hny
  have HNz := Lib.hid hnz
  have HBe := Lib.hid hbe
  have HBB := Lib.hid hbb
  have hln : xn ≤ 1000 ∧ yn ≤ 1000 ∧ zn ≤ 1000 := by omega
  clear hrr g1 g2 g3 hb3 hnx hny hnz hbe hss hdd hbb
  go_enter Tryd.func20, Tryd.ntmps20
  go_upto_region 9 with (first | (refine wl_allocD rfl rfl ?_))
  have hX : (rr.a.setIfInBounds 5 (.int .i64 (bu - 1))) = (RV.a ⟨sz, ⟨xp, xn, xc⟩, ⟨yp, yn, yc⟩, ⟨zp, zn, zc⟩, false, b2⟩) := by first | (rw [HRr.out, HBB.out]; done) | (rw [HRr.out, HBB.out]; rfl)
  rw [hX]
  obtain ⟨g1, g2, g3⟩ := alloc3 w (Obj.cells (RV.a ⟨sz, ⟨xp, xn, xc⟩, ⟨yp, yn, yc⟩, ⟨zp, zn, zc⟩, false, b2⟩) 49 (0, 0)) (Obj.cells (pa p) 29 (0, 0)) (Obj.cells RV.zero.a 49 (0, 0))
  have hb3 := below3 w (Obj.cells (RV.a ⟨sz, ⟨xp, xn, xc⟩, ⟨yp, yn, yc⟩, ⟨zp, zn, zc⟩, false, b2⟩) 49 (0, 0)) (Obj.cells (pa p) 29 (0, 0)) (Obj.cells RV.zero.a 49 (0, 0))
  obtain ⟨D, hD⟩ : ∃ D, w.heap.size = D := ⟨_, rfl⟩
  obtain ⟨P, hP⟩ : ∃ P, w.heap.size + 1 = P := ⟨_, rfl⟩
  obtain ⟨Z, hZ⟩ : ∃ Z, w.heap.size + 1 + 1 = Z := ⟨_, rfl⟩
  have HD2 := Lib.hid (show (((w.alloc (Obj.cells (RV.a ⟨sz, ⟨xp, xn, xc⟩, ⟨yp, yn, yc⟩, ⟨zp, zn, zc⟩, false, b2⟩) 49 (0, 0))).alloc (Obj.cells (pa p) 29 (0, 0))).alloc (Obj.cells RV.zero.a 49 (0, 0))).heap[D]? = some (Obj.cells (RV.a ⟨sz, ⟨xp, xn, xc⟩, ⟨yp, yn, yc⟩, ⟨zp, zn, zc⟩, false, b2⟩) 49 (0, 0)) by rw [← hD]; exact g1)
  have HP2 := Lib.hid (show (((w.alloc (Obj.cells (RV.a ⟨sz, ⟨xp, xn, xc⟩, ⟨yp, yn, yc⟩, ⟨zp, zn, zc⟩, false, b2⟩) 49 (0, 0))).alloc (Obj.cells (pa p) 29 (0, 0))).alloc (Obj.cells RV.zero.a 49 (0, 0))).heap[P]? = some (Obj.cells (pa p) 29 (0, 0)) by rw [← hP]; exact g2)
  have HZ2 := Lib.hid (show (((w.alloc (Obj.cells (RV.a ⟨sz, ⟨xp, xn, xc⟩, ⟨yp, yn, yc⟩, ⟨zp, zn, zc⟩, false, b2⟩) 49 (0, 0))).alloc (Obj.cells (pa p) 29 (0, 0))).alloc (Obj.cells RV.zero.a 49 (0, 0))).heap[Z]? = some (Obj.cells RV.zero.a 49 (0, 0)) by rw [← hZ]; exact g3)
  have HB2 := Lib.hid hb3
  have hPD : ¬ P = D := by omega
  have hZD : ¬ Z = D := by omega
  have hgD : w.heap.size ≤ D := by omega
  have hgZ : w.heap.size ≤ Z := by omega
  (try rw [hZ])
  (try rw [hP])
  (try simp only [hZ])
  (try simp only [hP])
  (try simp only [hD])
  generalize (((w.alloc (Obj.cells (RV.a ⟨sz, ⟨xp, xn, xc⟩, ⟨yp, yn, yc⟩, ⟨zp, zn, zc⟩, false, b2⟩) 49 (0, 0))).alloc (Obj.cells (pa p) 29 (0, 0))).alloc (Obj.cells RV.zero.a 49 (0, 0))) = w2 at *
  clear g1 g2 g3 hb3 hX HD1 HP1 HZ1 HB1 a0 a4 a5 f5 hZ hP hD
  go_wp2_with (first
    | ((with_reducible refine gate_dst (N := 31) rfl ?_); refine Kd.R_lit (Kd.int .i64) w2.heap.size 3 rfl (w0 := w2) (N := 31) rfl (xs := ([] : List Int)) (inner := []) (ok := fun _ => True) (okp := fun _ => True) ?hr ?hp (fun _ hk => hk) trivial (Below.refl _ _) (Nat.le_refl _) (by simp) ?_; (case hr => (go_simp; done)); (case hp => exact (Reps.none _ _)); intro v1 w3 ho3 hb3 hg3 hn3; have HO3 := Lib.hid ho3; have HB3 := Lib.hid hb3; have c1 : w3.cell? ⟨D, 1, none⟩ = some (.slice xp xn xc) := (rv_cells (blk_to HD2 hb3)).2.1; clear ho3 hb3 hg3 hn3)
    | (at_builtin; refine Kd.R_append_rows (Kd.int .i64) (w0 := w2) w2.heap.size rfl (.tmp 31) (.tmp 33) 45 3 (.int .i64 0) 8 rfl Tryd.underlying45 infoI rfl (by decide) (by decide) v1 [] (d.L.map (fun x : Int × Pg => x.1)) _ _ _ (fun _ => True) (fun _ => False) rfl rfl HO3.out (h.out.on (HB2.out.trans (HB3.out.mono HB2.out.size))).Cx (fun _ _ h => h) (fun _ h => h.elim) (fun _ _ => trivial) HB3.out HB3.out.size ?aL ?_; (case aL => (simp; omega)); intro v2 w4 ho4 hb4 hg4 hn4; rw [List.nil_append] at ho4; have HO4 := Lib.hid ho4; have HB4 := Lib.hid hb4; clear ho4 hb4 hg4 hn4)
    | (at_builtin; refine Kd.R_append (Kd.int .i64) (w0 := w2) w2.heap.size rfl (.tmp 34) (.tmp 36) 45 3 (.int .i64 0) 8 rfl Tryd.underlying45 infoI rfl (by decide) (by decide) v2 (d.L.map (fun x : Int × Pg => x.1)) i [.int .i64 i] (fun _ => True) (fun _ => False) rfl rfl rfl (fun _ h => h.elim) (fun _ _ => trivial) HO4.out HB4.out HB4.out.size ?aL ?_; (case aL => (have := d.fi_length; simp; omega)); intro v3 w5 ho5 hb5 hg5 hn5; obtain ⟨Ax, mx, kx, rfl⟩ := r_sl ho5; have HO5 := Lib.hid ho5; have HB5 := Lib.hid hb5; have HD5 := blk_to HD2 hb5; have c1 := (rv_cells HD5).2.1; have f1 := rv_fz HD5 1; clear ho5 hb5 hg5 hn5))
  have hm : Mod (· = D) w5 (w5.setCell ⟨D, 1, none⟩ (.slice Ax mx kx)) := mod_set w5 D 1 _
  have HD20 := Lib.hid (rv_set (r2 := ⟨sz, ⟨Ax, mx, kx⟩, ⟨yp, yn, yc⟩, ⟨zp, zn, zc⟩, false, b2⟩) HD5 1 (.slice Ax mx kx) rfl)
  have HR1_20 := Lib.hid (row_keep (Kd.R_lower HO5.out (Nat.zero_le _)) HD5.out hm (by decide) (fun _ _ _ h => h))
  have HP20 := Lib.hid (hm.blk (blk_to HP2 HB5.out).out hPD)
  have HZ20 := Lib.hid (hm.blk (blk_to HZ2 HB5.out).out hZD)
  have hbx := HB2.out.trans (HB5.out.mono HB2.out.size)
  have HB20 := Lib.hid (hbx.trans (hm.below hbx.size (fun i hi (e : i = D) => by omega)))
  generalize (w5.setCell ⟨D, 1, none⟩ (.slice Ax mx kx)) = w20 at *
  clear hm hbx HO5 HB5 HD5 c1 f1 HD2 HP2 HZ2 HB2
  have HQ := Lib.hid (show Below w20.heap.size w20 w20.drew from (Below.refl _ _).drew)
  have hS := fun {w' : World} (k : Below w20.heap.size w20 w') => (show w'.cell? ⟨D, 2, none⟩ = some (.slice yp yn yc) ∧ w'.rangeAt P 0 (pcs p) from ⟨(rv_cells (blk_to HD20 k)).2.2.1, range_row _ _ _ (blk_to HP20 k).out⟩)
  refine start_ (n := 9) (S := fun w' => w'.cell? ⟨D, 2, none⟩ = some (.slice yp yn yc) ∧ w'.rangeAt P 0 (pcs p)) (ds := [8]) #[false, false, false, false, false, false, false, false, false] (by kernel_rfl) rfl rfl ⟨(hS HQ.out).1, (hS HQ.out).2⟩ (fun hHeld => ?_)
  refine pure_ (i := 1) (N := some 40) (v := ?_) (a' := ?_) #[false, true, false, false, false, false, false, false, false] rfl rfl (by kernel_rfl) (fun _ _ _ h => h) (Or.inl ⟨by rfl, ?_⟩) ?_ ?_
  rotate_left
  · intro w'
    go_simp
    with_reducible rfl
  rotate_left
  · simp only [Act.put, List.setIfInBounds_toArray, List.set_cons_zero, List.set_cons_succ, i64_w, i32_w]
    rfl
  refine take_ (i := 2) (N := some 41) (v := ?_) (a' := ?_) #[false, true, true, false, false, false, false, false, false] rfl rfl (by kernel_rfl) (fun _ _ _ h => h) (Or.inl ⟨by rfl, ?_⟩) hHeld ?_ ?_
  rotate_left
  · rintro w' ⟨s0, s1⟩
    go_simp
    with_reducible rfl
  rotate_left
  · simp only [Act.put, List.setIfInBounds_toArray, List.set_cons_zero, List.set_cons_succ, i64_w, i32_w]
    rfl
  refine take_ (i := 4) (N := some 43) (v := ?_) (a' := ?_) #[false, true, true, false, true, false, false, false, false] rfl rfl (by kernel_rfl) (fun _ _ _ h => h) (Or.inl ⟨by rfl, ?_⟩) hHeld ?_ ?_
  rotate_left
  · rintro w' ⟨s0, s1⟩
    refine exec_loadPB (x := .tmp 5) ?_ ?_  s1
    · rfl
    · rfl
  rotate_left
  · simp only [Act.put, List.setIfInBounds_toArray, List.set_cons_zero, List.set_cons_succ, i64_w, i32_w]
    rfl
  refine join_ (σ := Nat × Value × Nat) 3 #[true, true, true, true, true, true, false, false, false] (fun s => [(39, .slice (some ⟨s.1, 0, none⟩) 0 0), (42, s.2.1), (44, .slice (some ⟨s.2.2, 0, none⟩) 1 1)]) (fun s w' => Below w20.heap.size w20 w' ∧ pk.R 29 w' w20.heap.size (fun _ => True) s.2.1 (d.L.map (fun x : Int × Pg => x.2)) ∧ w'.heap[s.2.2]? = some (Obj.cells (pa p) 29 (0, 0))) ?_ ?_
  rotate_left
  · intro hCont
    refine two_ (i := 0) (j := 5) (Ni := some 39) (Nj := some 44) #[true, true, true, false, true, false, false, false, false] #[false, true, true, false, true, true, false, false, false] rfl rfl rfl rfl (by kernel_rfl) (by decide) (by decide) (fun K hK => ?_) (fun K hK => ?_)
    · skip
      refine value_ (by rfl) rfl (exec_lit0 rfl _) ?_
      have hd : Below (w20.drew).heap.size w20.drew (World.alloc w20.drew (Obj.cells #[] 29 (0, 0))) := (Below.refl _ _).alloc (Nat.le_refl _) _
      have hs0 : (w20.drew).heap.size < (World.alloc w20.drew (Obj.cells #[] 29 (0, 0))).heap.size := by simp
      have HQ0 := Lib.hid (HQ.out.trans (hd.mono HQ.out.size))
      have HE0 := Lib.hid (r_empty pk 29 w20.drew w20.heap.size HQ.out.size)
      generalize (World.alloc w20.drew (Obj.cells #[] 29 (0, 0))) = z0 at *
      clear hd
      refine hK.out _ _ ⟨(hS HQ0.out).1, (hS HQ0.out).2⟩ (fun hHeld => ?_)
      clear hK K
      refine norm_ (a' := ?_) ?_ ?_
      rotate_left
      · show Act.put _ (some 39) _ = _
        simp only [Act.put, List.setIfInBounds_toArray, List.set_cons_zero, List.set_cons_succ, i64_w, i32_w]
        rfl
      refine two_ (i := 3) (j := 5) (Ni := some 42) (Nj := some 44) #[true, true, true, true, true, false, false, false, false] #[true, true, true, false, true, true, false, false, false] rfl rfl rfl rfl (by kernel_rfl) (by decide) (by decide) (fun K hK => ?_) (fun K hK => ?_)
      · skip
        refine Kd.R_append_rows_step pk (w0 := w20) w20.heap.size (by rfl) (.tmp 39) (.tmp 41) 46 29 (pv pz) 64 (by rfl) Tryd.underlying46 infoB rfl (by decide) (by decide) (.slice (some ⟨(w20.drew).heap.size, 0, none⟩) 0 0) [] (d.L.map (fun x : Int × Pg => x.2)) _ _ _ (fun _ => True) (fun _ => False) (by rfl) (by rfl) HE0.out (h.out.on (HB20.out.trans (HQ0.out.mono HB20.out.size))).Cy (fun _ _ h => h) (fun _ h => h.elim) (fun _ _ => trivial) HQ0.out HQ0.out.size (by simp; omega) ?_
        intro v42 z03 ho hb hg hn
        rw [List.nil_append] at ho
        have HV03 := Lib.hid ho
        have HQ03 := Lib.hid hb
        clear ho hb hg hn
        refine hK.out _ _ ⟨(hS HQ03.out).1, (hS HQ03.out).2⟩ (fun hHeld => ?_)
        clear hK K
        refine norm_ (a' := ?_) ?_ ?_
        rotate_left
        · show Act.put _ (some 42) _ = _
          simp only [Act.put, List.setIfInBounds_toArray, List.set_cons_zero, List.set_cons_succ, i64_w, i32_w]
          rfl
        refine one_ (i := 5) (N := some 44) #[true, true, true, true, true, true, false, false, false] rfl rfl (by kernel_rfl) (by decide) (fun K hK => ?_)
        refine value_ (by rfl) rfl (exec_litP rfl rfl _) ?_
        have hd : Below (z03).heap.size z03 (World.alloc z03 (Obj.cells (pa p) 29 (0, 0))) := (Below.refl _ _).alloc (Nat.le_refl _) _
        have hs035 : (z03).heap.size < (World.alloc z03 (Obj.cells (pa p) 29 (0, 0))).heap.size := by simp
        have HQ035 := Lib.hid (HQ03.out.trans (hd.mono HQ03.out.size))
        have HL035 := Lib.hid (heap_alloc_last z03 (Obj.cells (pa p) 29 (0, 0)))
        have HV035 := Lib.hid (Kd.R_below HV03.out hd)
        generalize (World.alloc z03 (Obj.cells (pa p) 29 (0, 0))) = z035 at *
        clear hd
        refine hK.out _ _ ⟨(hS HQ035.out).1, (hS HQ035.out).2⟩ (fun hHeld => ?_)
        clear hK K
        refine norm_ (a' := ?_) ?_ ?_
        rotate_left
        · show Act.put _ (some 44) _ = _
          simp only [Act.put, List.setIfInBounds_toArray, List.set_cons_zero, List.set_cons_succ, i64_w, i32_w]
          rfl
        exact norm_ (by simp only [putAll, Act.put, List.setIfInBounds_toArray, List.set_cons_zero, List.set_cons_succ]) (hCont (((w20.drew).heap.size, v42, (z03).heap.size) : Nat × Value × Nat) _ ⟨HQ035.out, HV035.out, HL035.out⟩)
      · skip
        refine value_ (by rfl) rfl (exec_litP rfl rfl _) ?_
        have hd : Below (z0).heap.size z0 (World.alloc z0 (Obj.cells (pa p) 29 (0, 0))) := (Below.refl _ _).alloc (Nat.le_refl _) _
        have hs05 : (z0).heap.size < (World.alloc z0 (Obj.cells (pa p) 29 (0, 0))).heap.size := by simp
        have HQ05 := Lib.hid (HQ0.out.trans (hd.mono HQ0.out.size))
        have HL05 := Lib.hid (heap_alloc_last z0 (Obj.cells (pa p) 29 (0, 0)))
        have HE05 := Lib.hid (Kd.R_below HE0.out hd)
        generalize (World.alloc z0 (Obj.cells (pa p) 29 (0, 0))) = z05 at *
        clear hd
        refine hK.out _ _ ⟨(hS HQ05.out).1, (hS HQ05.out).2⟩ (fun hHeld => ?_)
        clear hK K
        refine norm_ (a' := ?_) ?_ ?_
        rotate_left
        · show Act.put _ (some 44) _ = _
          simp only [Act.put, List.setIfInBounds_toArray, List.set_cons_zero, List.set_cons_succ, i64_w, i32_w]
          rfl
        refine one_ (i := 3) (N := some 42) #[true, true, true, true, true, true, false, false, false] rfl rfl (by kernel_rfl) (by decide) (fun K hK => ?_)
        refine Kd.R_append_rows_step pk (w0 := w20) w20.heap.size (by rfl) (.tmp 39) (.tmp 41) 46 29 (pv pz) 64 (by rfl) Tryd.underlying46 infoB rfl (by decide) (by decide) (.slice (some ⟨(w20.drew).heap.size, 0, none⟩) 0 0) [] (d.L.map (fun x : Int × Pg => x.2)) _ _ _ (fun _ => True) (fun _ => False) (by rfl) (by rfl) HE05.out (h.out.on (HB20.out.trans (HQ05.out.mono HB20.out.size))).Cy (fun _ _ h => h) (fun _ h => h.elim) (fun _ _ => trivial) HQ05.out HQ05.out.size (by simp; omega) ?_
        intro v42 z053 ho hb hg hn
        rw [List.nil_append] at ho
        have HV053 := Lib.hid ho
        have HQ053 := Lib.hid hb
        have HL053 := Lib.hid ((hg.block _ (Err.lt_of_block HL05.out) (by simp [Value.ownBlock]; simp at *; omega)).trans HL05.out)
        clear ho hb hg hn
        refine hK.out _ _ ⟨(hS HQ053.out).1, (hS HQ053.out).2⟩ (fun hHeld => ?_)
        clear hK K
        refine norm_ (a' := ?_) ?_ ?_
        rotate_left
        · show Act.put _ (some 42) _ = _
          simp only [Act.put, List.setIfInBounds_toArray, List.set_cons_zero, List.set_cons_succ, i64_w, i32_w]
          rfl
        exact norm_ (by simp only [putAll, Act.put, List.setIfInBounds_toArray, List.set_cons_zero, List.set_cons_succ]) (hCont (((w20.drew).heap.size, v42, (z0).heap.size) : Nat × Value × Nat) _ ⟨HQ053.out, HV053.out, HL053.out⟩)
    · skip
      refine value_ (by rfl) rfl (exec_litP rfl rfl _) ?_
      have hd : Below (w20.drew).heap.size w20.drew (World.alloc w20.drew (Obj.cells (pa p) 29 (0, 0))) := (Below.refl _ _).alloc (Nat.le_refl _) _
      have hs5 : (w20.drew).heap.size < (World.alloc w20.drew (Obj.cells (pa p) 29 (0, 0))).heap.size := by simp
      have HQ5 := Lib.hid (HQ.out.trans (hd.mono HQ.out.size))
      have HL5 := Lib.hid (heap_alloc_last w20.drew (Obj.cells (pa p) 29 (0, 0)))
      generalize (World.alloc w20.drew (Obj.cells (pa p) 29 (0, 0))) = z5 at *
      clear hd
      refine hK.out _ _ ⟨(hS HQ5.out).1, (hS HQ5.out).2⟩ (fun hHeld => ?_)
      clear hK K
      refine norm_ (a' := ?_) ?_ ?_
      rotate_left
      · show Act.put _ (some 44) _ = _
        simp only [Act.put, List.setIfInBounds_toArray, List.set_cons_zero, List.set_cons_succ, i64_w, i32_w]
        rfl
      refine one_ (i := 0) (N := some 39) #[true, true, true, false, true, true, false, false, false] rfl rfl (by kernel_rfl) (by decide) (fun K hK => ?_)
      refine value_ (by rfl) rfl (exec_lit0 rfl _) ?_
      have hd : Below (z5).heap.size z5 (World.alloc z5 (Obj.cells #[] 29 (0, 0))) := (Below.refl _ _).alloc (Nat.le_refl _) _
      have hs50 : (z5).heap.size < (World.alloc z5 (Obj.cells #[] 29 (0, 0))).heap.size := by simp
      have HQ50 := Lib.hid (HQ5.out.trans (hd.mono HQ5.out.size))
      have HE50 := Lib.hid (r_empty pk 29 z5 w20.heap.size HQ5.out.size)
      have HL50 := Lib.hid ((hd.block _ (Err.lt_of_block HL5.out)).trans HL5.out)
      generalize (World.alloc z5 (Obj.cells #[] 29 (0, 0))) = z50 at *
      clear hd
      refine hK.out _ _ ⟨(hS HQ50.out).1, (hS HQ50.out).2⟩ (fun hHeld => ?_)
      clear hK K
      refine norm_ (a' := ?_) ?_ ?_
      rotate_left
      · show Act.put _ (some 39) _ = _
        simp only [Act.put, List.setIfInBounds_toArray, List.set_cons_zero, List.set_cons_succ, i64_w, i32_w]
        rfl
      refine one_ (i := 3) (N := some 42) #[true, true, true, true, true, true, false, false, false] rfl rfl (by kernel_rfl) (by decide) (fun K hK => ?_)
      refine Kd.R_append_rows_step pk (w0 := w20) w20.heap.size (by rfl) (.tmp 39) (.tmp 41) 46 29 (pv pz) 64 (by rfl) Tryd.underlying46 infoB rfl (by decide) (by decide) (.slice (some ⟨(z5).heap.size, 0, none⟩) 0 0) [] (d.L.map (fun x : Int × Pg => x.2)) _ _ _ (fun _ => True) (fun _ => False) (by rfl) (by rfl) HE50.out (h.out.on (HB20.out.trans (HQ50.out.mono HB20.out.size))).Cy (fun _ _ h => h) (fun _ h => h.elim) (fun _ _ => trivial) HQ50.out HQ50.out.size (by simp; omega) ?_
      intro v42 z503 ho hb hg hn
      rw [List.nil_append] at ho
      have HV503 := Lib.hid ho
      have HQ503 := Lib.hid hb
      have HL503 := Lib.hid ((hg.block _ (Err.lt_of_block HL50.out) (by simp [Value.ownBlock]; simp at *; omega)).trans HL50.out)
      clear ho hb hg hn
      refine hK.out _ _ ⟨(hS HQ503.out).1, (hS HQ503.out).2⟩ (fun hHeld => ?_)
      clear hK K
      refine norm_ (a' := ?_) ?_ ?_
      rotate_left
      · show Act.put _ (some 42) _ = _
        simp only [Act.put, List.setIfInBounds_toArray, List.set_cons_zero, List.set_cons_succ, i64_w, i32_w]
        rfl
      exact norm_ (by simp only [putAll, Act.put, List.setIfInBounds_toArray, List.set_cons_zero, List.set_cons_succ]) (hCont (((z5).heap.size, v42, (w20.drew).heap.size) : Nat × Value × Nat) _ ⟨HQ503.out, HV503.out, HL503.out⟩)
  rintro ⟨g0, v42, g5⟩ z ⟨hq, hv, hl⟩
  have HQj := Lib.hid hq
  have HVj := Lib.hid hv
  have HLj := Lib.hid hl
  clear hq hv hl
  have hHeld := hS HQj.out
  refine norm_ (a' := ?_) ?_ ?_
  rotate_left
  · simp only [putAll, Act.put, List.setIfInBounds_toArray, List.set_cons_zero, List.set_cons_succ]
    rfl
  refine one_ (i := 6) (N := some 45) #[true, true, true, true, true, true, true, false, false] rfl rfl (by kernel_rfl) (by decide) (fun K hK => ?_)
  refine Kd.R_append_rows_step pk (w0 := w20) w20.heap.size (by rfl) (.tmp 42) (.tmp 44) 46 29 (pv pz) 64 (by rfl) Tryd.underlying46 infoB rfl (by decide) (by decide) v42 (d.L.map (fun x : Int × Pg => x.2)) [p] _ _ _ (fun _ => True) (fun _ => False) (by rfl) (by rfl) HVj.out (readsBk _ _ p HLj.out) (fun _ _ h => h) (fun _ h => h.elim) (fun _ _ => trivial) HQj.out HQj.out.size (by simp; omega) ?_
  intro v45 w5 ho5 hb5 hg5 hn5
  obtain ⟨Ay, my, ky, rfl⟩ := r_sl ho5
  have HO5 := Lib.hid ho5
  have HB5 := Lib.hid hb5
  have HD5 := blk_to HD20 hb5
  have c1 := (rv_cells HD5).2.2.1
  have f1 := rv_fz HD5 2
  clear ho5 hb5 hg5 hn5
  refine hK.out _ _ ⟨(hS HB5.out).1, (hS HB5.out).2⟩ (fun hHeld => ?_)
  clear hK K
  refine norm_ (a' := ?_) ?_ ?_
  rotate_left
  · show Act.put _ (some 45) _ = _
    simp only [Act.put, List.setIfInBounds_toArray, List.set_cons_zero, List.set_cons_succ, i64_w, i32_w]
    rfl
  refine pure_ (i := 7) (N := some 46) (v := ?_) (a' := ?_) #[true, true, true, true, true, true, true, true, false] rfl rfl (by kernel_rfl) (fun _ _ _ h => h) (Or.inl ⟨by rfl, ?_⟩) ?_ ?_
  rotate_left
  · intro w'
    go_simp
    with_reducible rfl
  rotate_left
  · simp only [Act.put, List.setIfInBounds_toArray, List.set_cons_zero, List.set_cons_succ, i64_w, i32_w]
    rfl
  refine last_ (i := 8) (N := none) #[true, true, true, true, true, true, true, true, true] rfl rfl (by kernel_rfl) (by decide) (fun K hK => ?_)
  refine skip_ (w1 := ?_) (by rfl) rfl ?_ ?_
  rotate_left
  · go_simp
    rfl
  refine hK.out _ _ ?_
  clear hK K
  refine done_ (by kernel_rfl) ?_
  clear hHeld hS HQ HQj HVj HLj
  have hm : Mod (· = D) w5 (w5.setCell ⟨D, 2, none⟩ (.slice Ay my ky)) := mod_set w5 D 2 _
  have HD30 := Lib.hid (rv_set (r2 := ⟨sz, ⟨Ax, mx, kx⟩, ⟨Ay, my, ky⟩, ⟨zp, zn, zc⟩, false, b2⟩) HD5 2 (.slice Ay my ky) rfl)
  have HR2_30 := Lib.hid (row_keep (Kd.R_lower HO5.out (Nat.zero_le _)) HD5.out hm (by decide) (fun _ _ _ h => h))
  have HP30 := Lib.hid (hm.blk (blk_to HP20 HB5.out).out hPD)
  have HZ30 := Lib.hid (hm.blk (blk_to HZ20 HB5.out).out hZD)
  have HR1_30 := Lib.hid (row_keep (Kd.R_below HR1_20.out HB5.out) HD5.out hm (by decide) (fun _ _ _ h => h))
  have hbx := HB20.out.trans (HB5.out.mono HB20.out.size)
  have HB30 := Lib.hid (hbx.trans (hm.below hbx.size (fun i hi (e : i = D) => by omega)))
  generalize (w5.setCell ⟨D, 2, none⟩ (.slice Ay my ky)) = w30 at *
  clear hm hbx HO5 HB5 HD5 c1 f1 HD20 HP20 HZ20 HB20
  clear HR1_20
  go_upto_region 12 with (first
    | ((with_reducible refine gate_dst (N := 47) rfl ?_); refine Kd.R_lit Kd.bool w30.heap.size 4 rfl (w0 := w30) (N := 47) rfl (xs := ([] : List Bool)) (inner := []) (ok := fun _ => True) (okp := fun _ => True) ?hr ?hp (fun _ hk => hk) trivial (Below.refl _ _) (Nat.le_refl _) (by simp) ?_; (case hr => (go_simp; done)); (case hp => exact (Reps.none _ _)); intro v1 w3 ho3 hb3 hg3 hn3; have HO3 := Lib.hid ho3; have HB3 := Lib.hid hb3; have c1 : w3.cell? ⟨D, 3, none⟩ = some (.slice zp zn zc) := (rv_cells (blk_to HD30 hb3)).2.2.2.1; clear ho3 hb3 hg3 hn3)
    | (at_builtin; refine Kd.R_append_rows Kd.bool (w0 := w30) w30.heap.size rfl (.tmp 47) (.tmp 49) 47 4 (.bool false) 1 rfl Tryd.underlying47 infoL rfl (by decide) (by decide) v1 [] (d.fi) _ _ _ (fun _ => True) (fun _ => False) rfl rfl HO3.out (h.out.on (HB30.out.trans (HB3.out.mono HB30.out.size))).Cz (fun _ _ h => h) (fun _ h => h.elim) (fun _ _ => trivial) HB3.out HB3.out.size ?aL ?_; (case aL => (simp; omega)); intro v2 w4 ho4 hb4 hg4 hn4; rw [List.nil_append] at ho4; have HO4 := Lib.hid ho4; have HB4 := Lib.hid hb4; clear ho4 hb4 hg4 hn4)
    | (at_builtin; refine Kd.R_append Kd.bool (w0 := w30) w30.heap.size rfl (.tmp 50) (.tmp 51) 47 4 (.bool false) 1 rfl Tryd.underlying47 infoL rfl (by decide) (by decide) v2 (d.fi) false [.bool false] (fun _ => True) (fun _ => False) rfl rfl rfl (fun _ h => h.elim) (fun _ _ => trivial) HO4.out HB4.out HB4.out.size ?aL ?_; (case aL => (have := d.fi_length; simp; omega)); intro v3 w5 ho5 hb5 hg5 hn5; obtain ⟨Az, mz, kz, rfl⟩ := r_sl ho5; have HO5 := Lib.hid ho5; have HB5 := Lib.hid hb5; have HD5 := blk_to HD30 hb5; have c1 := (rv_cells HD5).2.2.2.1; have f1 := rv_fz HD5 3; clear ho5 hb5 hg5 hn5))
  have hm : Mod (· = D) w5 (w5.setCell ⟨D, 3, none⟩ (.slice Az mz kz)) := mod_set w5 D 3 _
  have HD40 := Lib.hid (rv_set (r2 := ⟨sz, ⟨Ax, mx, kx⟩, ⟨Ay, my, ky⟩, ⟨Az, mz, kz⟩, false, b2⟩) HD5 3 (.slice Az mz kz) rfl)
  have HR3_40 := Lib.hid (row_keep (Kd.R_lower HO5.out (Nat.zero_le _)) HD5.out hm (by decide) (fun _ _ _ h => h))
  have HP40 := Lib.hid (hm.blk (blk_to HP30 HB5.out).out hPD)
  have HZ40 := Lib.hid (hm.blk (blk_to HZ30 HB5.out).out hZD)
  have HR1_40 := Lib.hid (row_keep (Kd.R_below HR1_30.out HB5.out) HD5.out hm (by decide) (fun _ _ _ h => h))
  have HR2_40 := Lib.hid (row_keep (Kd.R_below HR2_30.out HB5.out) HD5.out hm (by decide) (fun _ _ _ h => h))
  have hbx := HB30.out.trans (HB5.out.mono HB30.out.size)
  have HB40 := Lib.hid (hbx.trans (hm.below hbx.size (fun i hi (e : i = D) => by omega)))
  generalize (w5.setCell ⟨D, 3, none⟩ (.slice Az mz kz)) = w40 at *
  clear hm hbx HO5 HB5 HD5 c1 f1 HD30 HP30 HZ30 HB30
  clear HR1_30
  clear HR2_30
  obtain ⟨r9, hr9⟩ : ∃ r9 : RV, r9 = ⟨sz, ⟨Ax, mx, kx⟩, ⟨Ay, my, ky⟩, ⟨Az, mz, kz⟩, false, b2⟩ := ⟨_, rfl⟩
  rw [← hr9] at HD40
  have HR9 := Lib.hid hr9
  clear hr9
  go_wp2_with (first
    | (refine wl_loadD D r9 HD40.out rfl _ rfl rfl ?_)
    | (refine wl_storeD Z RV.zero.a rfl r9 HZ40.out rfl _ _ rfl rfl rfl ?_))
  (try simp only [Exit.inBlock, Exit.then])
  refine bodyPost_ret (v := .tuple #[.agg r9.a, .int .i64 0]) ?_ rfl ?_
  · exact rwrite_results _ _ Z r9 _ rfl rfl (rowD _ _ RV.zero _ HZ40.out)
  have hm : Mod (· = Z) w40 (w40.setRow Z r9.a) := mod_row w40 Z r9.a
  refine ⟨r9, rfl, ?_, HB40.out.trans (hm.below HB40.out.size (fun i hi (e : i = Z) => by omega))⟩
  have h1 := row_keep HR1_40.out HZ40.out hm (by decide) (fun _ _ _ h => h)
  have h2 := row_keep HR2_40.out HZ40.out hm (by decide) (fun _ _ _ h => h)
  have h3 := row_keep HR3_40.out HZ40.out hm (by decide) (fun _ _ _ h => h)
  clear hm
  generalize (w40.setRow Z r9.a) = w9 at h1 h2 h3 ⊢
  rw [HR9.out]
  exact ⟨HSs.out, HDd.out, HBb.out, by simpa [RD.L, Sl.v] using h1, by simpa [RD.L, Sl.v] using h2, by simpa [RD.fi, List.replicate_succ', Sl.v] using h3⟩
set_option maxHeartbeats 16000000 in
set_option maxRecDepth 100000 in
theorem rwrite_free (r : RV) (d : RD) (i : Int) (p : Pg) (w : World) (h : Hid (IsR w r d)) (hdn : r.down = false) (h0 : 0 ≤ i) (hi : i < r.size) (hb : r.budget = -1) (hb1 : r.budget < 9223372036854775808) (hl : d.L.length ≤ 1000) (b2 : Int) (hb2 : Hid (b2 = max (d.budget - 1) (-1))) : Calls Tryd.prog 20 #[.agg r.a, .int .i64 i, pv p] w fun e w' => ∃ r', e = .returned (.tuple #[.agg r'.a, .int .i64 0]) ∧ IsR w' r' { d with S := d.S ++ [(i, p)], budget := max (d.budget - 1) (-1) } ∧ Below w.heap.size w w' := by
  have hbe := h.out.budget
  have hbb : b2 = r.budget := by rw [hb2.out, ← hbe]; omega
  have hdd := h.out.down
  have hss := h.out.size
  rw [hdn] at hdd
  have HBb := Lib.hid hb2.out
  have HDd := Lib.hid hdd
  have HSs := Lib.hid hss
  have d1 : decide (i < 0) = false := decide_eq_false (by omega)
  have d2 : decide (i ≥ r.size) = false := decide_eq_false (by omega)
  have d2b : decide (r.size ≤ i) = false := decide_eq_false (by omega)
  have d3 : (r.budget == 0) = false := beq_eq_false_iff_ne.2 (by omega)
  have d3b : decide (r.budget = 0) = false := decide_eq_false (by omega)
  have d4 : decide (r.budget > 0) = false := decide_eq_false (by omega)
  have d4b : decide (0 < r.budget) = false := decide_eq_false (by omega)
  have q1 : IntKind.i64.wrap (r.budget - 1) = r.budget - 1 := IntWalk.i64_in _ (by omega)
  obtain ⟨sz, ⟨xp, xn, xc⟩, ⟨yp, yn, yc⟩, ⟨zp, zn, zc⟩, dn, bu⟩ := r
  have hnx := h.out.nx
  have hny := h.out.ny
  have hnz := h.out.nz
  simp only at hdn hi hb hb1 hbe hss d1 d2 d2b d3 d3b d4 d4b q1 hnx hny hnz hbb
  subst dn
  have hpv := pv_eq p
  obtain ⟨rr, hrr⟩ : ∃ rr : RV, rr = ⟨sz, ⟨xp, xn, xc⟩, ⟨yp, yn, yc⟩, ⟨zp, zn, zc⟩, false, bu⟩ := ⟨_, rfl⟩
  obtain ⟨g1, g2, g3⟩ := alloc3 w (Obj.cells rr.a 49 (0, 0)) (Obj.cells (pa p) 29 (0, 0)) (Obj.cells RV.zero.a 49 (0, 0))
  have hb3 := below3 w (Obj.cells rr.a 49 (0, 0)) (Obj.cells (pa p) 29 (0, 0)) (Obj.cells RV.zero.a 49 (0, 0))
  have HD1 := Lib.hid g1
  have HP1 := Lib.hid g2
  have HZ1 := Lib.hid g3
  have HB1 := Lib.hid hb3
  rw [← hrr]
  rw [hrr] at HD1
  have a0 : (((w.alloc (Obj.cells rr.a 49 (0, 0))).alloc (Obj.cells (pa p) 29 (0, 0))).alloc (Obj.cells RV.zero.a 49 (0, 0))).cell? ⟨w.heap.size, 0, none⟩ = some (.int .i64 sz) := by rw [hrr]; exact Err.cell_of_blk HD1.out 0
  have a4 : (((w.alloc (Obj.cells rr.a 49 (0, 0))).alloc (Obj.cells (pa p) 29 (0, 0))).alloc (Obj.cells RV.zero.a 49 (0, 0))).cell? ⟨w.heap.size, 4, none⟩ = some (.bool false) := by rw [hrr]; exact Err.cell_of_blk HD1.out 4
  have a5 : (((w.alloc (Obj.cells rr.a 49 (0, 0))).alloc (Obj.cells (pa p) 29 (0, 0))).alloc (Obj.cells RV.zero.a 49 (0, 0))).cell? ⟨w.heap.size, 5, none⟩ = some (.int .i64 bu) := by rw [hrr]; exact Err.cell_of_blk HD1.out 5
  have f5 : (((w.alloc (Obj.cells rr.a 49 (0, 0))).alloc (Obj.cells (pa p) 29 (0, 0))).alloc (Obj.cells RV.zero.a 49 (0, 0))).frozen? ⟨w.heap.size, 5, none⟩ = false := by rw [hrr]; exact rv_fz HD1 5
  have HRr := Lib.hid hrr
  have HNx := Lib.hid hnx
  have HNy := Lib.hid hny
  have HNz := Lib.hid hnz
  have HBe := Lib.hid hbe
  have HBB := Lib.hid hbb
  have hln : xn ≤ 1000 ∧ yn ≤ 1000 ∧ zn ≤ 1000 := by omega
  clear hrr g1 g2 g3 hb3 hnx hny hnz hbe hss hdd hbb
  go_enter Tryd.func20, Tryd.ntmps20
  go_upto_region 9 with (first | (refine wl_allocD rfl rfl ?_))
  have hX : rr.a = (RV.a ⟨sz, ⟨xp, xn, xc⟩, ⟨yp, yn, yc⟩, ⟨zp, zn, zc⟩, false, b2⟩) := by first | (rw [HRr.out, HBB.out]; done) | (rw [HRr.out, HBB.out]; rfl)
  rw [hX]
  obtain ⟨g1, g2, g3⟩ := alloc3 w (Obj.cells (RV.a ⟨sz, ⟨xp, xn, xc⟩, ⟨yp, yn, yc⟩, ⟨zp, zn, zc⟩, false, b2⟩) 49 (0, 0)) (Obj.cells (pa p) 29 (0, 0)) (Obj.cells RV.zero.a 49 (0, 0))
  have hb3 := below3 w (Obj.cells (RV.a ⟨sz, ⟨xp, xn, xc⟩, ⟨yp, yn, yc⟩, ⟨zp, zn, zc⟩, false, b2⟩) 49 (0, 0)) (Obj.cells (pa p) 29 (0, 0)) (Obj.cells RV.zero.a 49 (0, 0))
  obtain ⟨D, hD⟩ : ∃ D, w.heap.size = D := ⟨_, rfl⟩
  obtain ⟨P, hP⟩ : ∃ P, w.heap.size + 1 = P := ⟨_, rfl⟩
  obtain ⟨Z, hZ⟩ : ∃ Z, w.heap.size + 1 + 1 = Z := ⟨_, rfl⟩
  have HD2 := Lib.hid (show (((w.alloc (Obj.cells (RV.a ⟨sz, ⟨xp, xn, xc⟩, ⟨yp, yn, yc⟩, ⟨zp, zn, zc⟩, false, b2⟩) 49 (0, 0))).alloc (Obj.cells (pa p) 29 (0, 0))).alloc (Obj.cells RV.zero.a 49 (0, 0))).heap[D]? = some (Obj.cells (RV.a ⟨sz, ⟨xp, xn, xc⟩, ⟨yp, yn, yc⟩, ⟨zp, zn, zc⟩, false, b2⟩) 49 (0, 0)) by rw [← hD]; exact g1)
  have HP2 := Lib.hid (show (((w.alloc (Obj.cells (RV.a ⟨sz, ⟨xp, xn, xc⟩, ⟨yp, yn, yc⟩, ⟨zp, zn, zc⟩, false, b2⟩) 49 (0, 0))).alloc (Obj.cells (pa p) 29 (0, 0))).alloc (Obj.cells RV.zero.a 49 (0, 0))).heap[P]? = some (Obj.cells (pa p) 29 (0, 0)) by rw [← hP]; exact g2)
  have HZ2 := Lib.hid (show (((w.alloc (Obj.cells (RV.a ⟨sz, ⟨xp, xn, xc⟩, ⟨yp, yn, yc⟩, ⟨zp, zn, zc⟩, false, b2⟩) 49 (0, 0))).alloc (Obj.cells (pa p) 29 (0, 0))).alloc (Obj.cells RV.zero.a 49 (0, 0))).heap[Z]? = some (Obj.cells RV.zero.a 49 (0, 0)) by rw [← hZ]; exact g3)
  have HB2 := Lib.hid hb3
  have hPD : ¬ P = D := by omega
  have hZD : ¬ Z = D := by omega
  have hgD : w.heap.size ≤ D := by omega
  have hgZ : w.heap.size ≤ Z := by omega
  (try rw [hZ])
  (try rw [hP])
  (try simp only [hZ])
  (try simp only [hP])
  (try simp only [hD])
  generalize (((w.alloc (Obj.cells (RV.a ⟨sz, ⟨xp, xn, xc⟩, ⟨yp, yn, yc⟩, ⟨zp, zn, zc⟩, false, b2⟩) 49 (0, 0))).alloc (Obj.cells (pa p) 29 (0, 0))).alloc (Obj.cells RV.zero.a 49 (0, 0))) = w2 at *
  clear g1 g2 g3 hb3 hX HD1 HP1 HZ1 HB1 a0 a4 a5 f5 hZ hP hD
  go_wp2_with (first
    | ((with_reducible refine gate_dst (N := 31) rfl ?_); refine Kd.R_lit (Kd.int .i64) w2.heap.size 3 rfl (w0 := w2) (N := 31) rfl (xs := ([] : List Int)) (inner := []) (ok := fun _ => True) (okp := fun _ => True) ?hr ?hp (fun _ hk => hk) trivial (Below.refl _ _) (Nat.le_refl _) (by simp) ?_; (case hr => (go_simp; done)); (case hp => exact (Reps.none _ _)); intro v1 w3 ho3 hb3 hg3 hn3; have HO3 := Lib.hid ho3; have HB3 := Lib.hid hb3; have c1 : w3.cell? ⟨D, 1, none⟩ = some (.slice xp xn xc) := (rv_cells (blk_to HD2 hb3)).2.1; clear ho3 hb3 hg3 hn3)
    | (at_builtin; refine Kd.R_append_rows (Kd.int .i64) (w0 := w2) w2.heap.size rfl (.tmp 31) (.tmp 33) 45 3 (.int .i64 0) 8 rfl Tryd.underlying45 infoI rfl (by decide) (by decide) v1 [] (d.L.map (fun x : Int × Pg => x.1)) _ _ _ (fun _ => True) (fun _ => False) rfl rfl HO3.out (h.out.on (HB2.out.trans (HB3.out.mono HB2.out.size))).Cx (fun _ _ h => h) (fun _ h => h.elim) (fun _ _ => trivial) HB3.out HB3.out.size ?aL ?_; (case aL => (simp; omega)); intro v2 w4 ho4 hb4 hg4 hn4; rw [List.nil_append] at ho4; have HO4 := Lib.hid ho4; have HB4 := Lib.hid hb4; clear ho4 hb4 hg4 hn4)
    | (at_builtin; refine Kd.R_append (Kd.int .i64) (w0 := w2) w2.heap.size rfl (.tmp 34) (.tmp 36) 45 3 (.int .i64 0) 8 rfl Tryd.underlying45 infoI rfl (by decide) (by decide) v2 (d.L.map (fun x : Int × Pg => x.1)) i [.int .i64 i] (fun _ => True) (fun _ => False) rfl rfl rfl (fun _ h => h.elim) (fun _ _ => trivial) HO4.out HB4.out HB4.out.size ?aL ?_; (case aL => (have := d.fi_length; simp; omega)); intro v3 w5 ho5 hb5 hg5 hn5; obtain ⟨Ax, mx, kx, rfl⟩ := r_sl ho5; have HO5 := Lib.hid ho5; have HB5 := Lib.hid hb5; have HD5 := blk_to HD2 hb5; have c1 := (rv_cells HD5).2.1; have f1 := rv_fz HD5 1; clear ho5 hb5 hg5 hn5))
  have hm : Mod (· = D) w5 (w5.setCell ⟨D, 1, none⟩ (.slice Ax mx kx)) := mod_set w5 D 1 _
  have HD20 := Lib.hid (rv_set (r2 := ⟨sz, ⟨Ax, mx, kx⟩, ⟨yp, yn, yc⟩, ⟨zp, zn, zc⟩, false, b2⟩) HD5 1 (.slice Ax mx kx) rfl)
  have HR1_20 := Lib.hid (row_keep (Kd.R_lower HO5.out (Nat.zero_le _)) HD5.out hm (by decide) (fun _ _ _ h => h))
  have HP20 := Lib.hid (hm.blk (blk_to HP2 HB5.out).out hPD)
  have HZ20 := Lib.hid (hm.blk (blk_to HZ2 HB5.out).out hZD)
  have hbx := HB2.out.trans (HB5.out.mono HB2.out.size)
  have HB20 := Lib.hid (hbx.trans (hm.below hbx.size (fun i hi (e : i = D) => by omega)))
  generalize (w5.setCell ⟨D, 1, none⟩ (.slice Ax mx kx)) = w20 at *
  clear hm hbx HO5 HB5 HD5 c1 f1 HD2 HP2 HZ2 HB2
  have HQ := Lib.hid (show Below w20.heap.size w20 w20.drew from (Below.refl _ _).drew)
  have hS := fun {w' : World} (k : Below w20.heap.size w20 w') => (show w'.cell? ⟨D, 2, none⟩ = some (.slice yp yn yc) ∧ w'.rangeAt P 0 (pcs p) from ⟨(rv_cells (blk_to HD20 k)).2.2.1, range_row _ _ _ (blk_to HP20 k).out⟩)
  refine start_ (n := 9) (S := fun w' => w'.cell? ⟨D, 2, none⟩ = some (.slice yp yn yc) ∧ w'.rangeAt P 0 (pcs p)) (ds := [8]) #[false, false, false, false, false, false, false, false, false] (by kernel_rfl) rfl rfl ⟨(hS HQ.out).1, (hS HQ.out).2⟩ (fun hHeld => ?_)
  refine pure_ (i := 1) (N := some 40) (v := ?_) (a' := ?_) #[false, true, false, false, false, false, false, false, false] rfl rfl (by kernel_rfl) (fun _ _ _ h => h) (Or.inl ⟨by rfl, ?_⟩) ?_ ?_
  rotate_left
  · intro w'
    go_simp
    with_reducible rfl
  rotate_left
  · simp only [Act.put, List.setIfInBounds_toArray, List.set_cons_zero, List.set_cons_succ, i64_w, i32_w]
    rfl
  refine take_ (i := 2) (N := some 41) (v := ?_) (a' := ?_) #[false, true, true, false, false, false, false, false, false] rfl rfl (by kernel_rfl) (fun _ _ _ h => h) (Or.inl ⟨by rfl, ?_⟩) hHeld ?_ ?_
  rotate_left
  · rintro w' ⟨s0, s1⟩
    go_simp
    with_reducible rfl
  rotate_left
  · simp only [Act.put, List.setIfInBounds_toArray, List.set_cons_zero, List.set_cons_succ, i64_w, i32_w]
    rfl
  refine take_ (i := 4) (N := some 43) (v := ?_) (a' := ?_) #[false, true, true, false, true, false, false, false, false] rfl rfl (by kernel_rfl) (fun _ _ _ h => h) (Or.inl ⟨by rfl, ?_⟩) hHeld ?_ ?_
  rotate_left
  · rintro w' ⟨s0, s1⟩
    refine exec_loadPB (x := .tmp 5) ?_ ?_  s1
    · rfl
    · rfl
  rotate_left
  · simp only [Act.put, List.setIfInBounds_toArray, List.set_cons_zero, List.set_cons_succ, i64_w, i32_w]
    rfl
  refine join_ (σ := Nat × Value × Nat) 3 #[true, true, true, true, true, true, false, false, false] (fun s => [(39, .slice (some ⟨s.1, 0, none⟩) 0 0), (42, s.2.1), (44, .slice (some ⟨s.2.2, 0, none⟩) 1 1)]) (fun s w' => Below w20.heap.size w20 w' ∧ pk.R 29 w' w20.heap.size (fun _ => True) s.2.1 (d.L.map (fun x : Int × Pg => x.2)) ∧ w'.heap[s.2.2]? = some (Obj.cells (pa p) 29 (0, 0))) ?_ ?_
  rotate_left
  · intro hCont
    refine two_ (i := 0) (j := 5) (Ni := some 39) (Nj := some 44) #[true, true, true, false, true, false, false, false, false] #[false, true, true, false, true, true, false, false, false] rfl rfl rfl rfl (by kernel_rfl) (by decide) (by decide) (fun K hK => ?_) (fun K hK => ?_)
    · skip
      refine value_ (by rfl) rfl (exec_lit0 rfl _) ?_
      have hd : Below (w20.drew).heap.size w20.drew (World.alloc w20.drew (Obj.cells #[] 29 (0, 0))) := (Below.refl _ _).alloc (Nat.le_refl _) _
      have hs0 : (w20.drew).heap.size < (World.alloc w20.drew (Obj.cells #[] 29 (0, 0))).heap.size := by simp
      have HQ0 := Lib.hid (HQ.out.trans (hd.mono HQ.out.size))
      have HE0 := Lib.hid (r_empty pk 29 w20.drew w20.heap.size HQ.out.size)
      generalize (World.alloc w20.drew (Obj.cells #[] 29 (0, 0))) = z0 at *
      clear hd
      refine hK.out _ _ ⟨(hS HQ0.out).1, (hS HQ0.out).2⟩ (fun hHeld => ?_)
      clear hK K
      refine norm_ (a' := ?_) ?_ ?_
      rotate_left
      · show Act.put _ (some 39) _ = _
        simp only [Act.put, List.setIfInBounds_toArray, List.set_cons_zero, List.set_cons_succ, i64_w, i32_w]
        rfl
      refine two_ (i := 3) (j := 5) (Ni := some 42) (Nj := some 44) #[true, true, true, true, true, false, false, false, false] #[true, true, true, false, true, true, false, false, false] rfl rfl rfl rfl (by kernel_rfl) (by decide) (by decide) (fun K hK => ?_) (fun K hK => ?_)
      · skip
        refine Kd.R_append_rows_step pk (w0 := w20) w20.heap.size (by rfl) (.tmp 39) (.tmp 41) 46 29 (pv pz) 64 (by rfl) Tryd.underlying46 infoB rfl (by decide) (by decide) (.slice (some ⟨(w20.drew).heap.size, 0, none⟩) 0 0) [] (d.L.map (fun x : Int × Pg => x.2)) _ _ _ (fun _ => True) (fun _ => False) (by rfl) (by rfl) HE0.out (h.out.on (HB20.out.trans (HQ0.out.mono HB20.out.size))).Cy (fun _ _ h => h) (fun _ h => h.elim) (fun _ _ => trivial) HQ0.out HQ0.out.size (by simp; omega) ?_
        intro v42 z03 ho hb hg hn
        rw [List.nil_append] at ho
        have HV03 := Lib.hid ho
        have HQ03 := Lib.hid hb
        clear ho hb hg hn
        refine hK.out _ _ ⟨(hS HQ03.out).1, (hS HQ03.out).2⟩ (fun hHeld => ?_)
        clear hK K
        refine norm_ (a' := ?_) ?_ ?_
        rotate_left
        · show Act.put _ (some 42) _ = _
          simp only [Act.put, List.setIfInBounds_toArray, List.set_cons_zero, List.set_cons_succ, i64_w, i32_w]
          rfl
        refine one_ (i := 5) (N := some 44) #[true, true, true, true, true, true, false, false, false] rfl rfl (by kernel_rfl) (by decide) (fun K hK => ?_)
        refine value_ (by rfl) rfl (exec_litP rfl rfl _) ?_
        have hd : Below (z03).heap.size z03 (World.alloc z03 (Obj.cells (pa p) 29 (0, 0))) := (Below.refl _ _).alloc (Nat.le_refl _) _
        have hs035 : (z03).heap.size < (World.alloc z03 (Obj.cells (pa p) 29 (0, 0))).heap.size := by simp
        have HQ035 := Lib.hid (HQ03.out.trans (hd.mono HQ03.out.size))
        have HL035 := Lib.hid (heap_alloc_last z03 (Obj.cells (pa p) 29 (0, 0)))
        have HV035 := Lib.hid (Kd.R_below HV03.out hd)
        generalize (World.alloc z03 (Obj.cells (pa p) 29 (0, 0))) = z035 at *
        clear hd
        refine hK.out _ _ ⟨(hS HQ035.out).1, (hS HQ035.out).2⟩ (fun hHeld => ?_)
        clear hK K
        refine norm_ (a' := ?_) ?_ ?_
        rotate_left
        · show Act.put _ (some 44) _ = _
          simp only [Act.put, List.setIfInBounds_toArray, List.set_cons_zero, List.set_cons_succ, i64_w, i32_w]
          rfl
        exact norm_ (by simp only [putAll, Act.put, List.setIfInBounds_toArray, List.set_cons_zero, List.set_cons_succ]) (hCont (((w20.drew).heap.size, v42, (z03).heap.size) : Nat × Value × Nat) _ ⟨HQ035.out, HV035.out, HL035.out⟩)
      · skip
        refine value_ (by rfl) rfl (exec_litP rfl rfl _) ?_
        have hd : Below (z0).heap.size z0 (World.alloc z0 (Obj.cells (pa p) 29 (0, 0))) := (Below.refl _ _).alloc (Nat.le_refl _) _
        have hs05 : (z0).heap.size < (World.alloc z0 (Obj.cells (pa p) 29 (0, 0))).heap.size := by simp
        have HQ05 := Lib.hid (HQ0.out.trans (hd.mono HQ0.out.size))
        have HL05 := Lib.hid (heap_alloc_last z0 (Obj.cells (pa p) 29 (0, 0)))
        have HE05 := Lib.hid (Kd.R_below HE0.out hd)
        generalize (World.alloc z0 (Obj.cells (pa p) 29 (0, 0))) = z05 at *
        clear hd
        refine hK.out _ _ ⟨(hS HQ05.out).1, (hS HQ05.out).2⟩ (fun hHeld => ?_)
        clear hK K
        refine norm_ (a' := ?_) ?_ ?_
        rotate_left
        · show Act.put _ (some 44) _ = _
          simp only [Act.put, List.setIfInBounds_toArray, List.set_cons_zero, List.set_cons_succ, i64_w, i32_w]
          rfl
        refine one_ (i := 3) (N := some 42) #[true, true, true, true, true, true, false, false, false] rfl rfl (by kernel_rfl) (by decide) (fun K hK => ?_)
        refine Kd.R_append_rows_step pk (w0 := w20) w20.heap.size (by rfl) (.tmp 39) (.tmp 41) 46 29 (pv pz) 64 (by rfl) Tryd.underlying46 infoB rfl (by decide) (by decide) (.slice (some ⟨(w20.drew).heap.size, 0, none⟩) 0 0) [] (d.L.map (fun x : Int × Pg => x.2)) _ _ _ (fun _ => True) (fun _ => False) (by rfl) (by rfl) HE05.out (h.out.on (HB20.out.trans (HQ05.out.mono HB20.out.size))).Cy (fun _ _ h => h) (fun _ h => h.elim) (fun _ _ => trivial) HQ05.out HQ05.out.size (by simp; omega) ?_
        intro v42 z053 ho hb hg hn
        rw [List.nil_append] at ho
        have HV053 := Lib.hid ho
        have HQ053 := Lib.hid hb
        have HL053 := Lib.hid ((hg.block _ (Err.lt_of_block HL05.out) (by simp [Value.ownBlock]; simp at *; omega)).trans HL05.out)
        clear ho hb hg hn
        refine hK.out _ _ ⟨(hS HQ053.out).1, (hS HQ053.out).2⟩ (fun hHeld => ?_)
        clear hK K
        refine norm_ (a' := ?_) ?_ ?_
        rotate_left
        · show Act.put _ (some 42) _ = _
          simp only [Act.put, List.setIfInBounds_toArray, List.set_cons_zero, List.set_cons_succ, i64_w, i32_w]
          rfl
        exact norm_ (by simp only [putAll, Act.put, List.setIfInBounds_toArray, List.set_cons_zero, List.set_cons_succ]) (hCont (((w20.drew).heap.size, v42, (z0).heap.size) : Nat × Value × Nat) _ ⟨HQ053.out, HV053.out, HL053.out⟩)
    · skip
      refine value_ (by rfl) rfl (exec_litP rfl rfl _) ?_
      have hd : Below (w20.drew).heap.size w20.drew (World.alloc w20.drew (Obj.cells (pa p) 29 (0, 0))) := (Below.refl _ _).alloc (Nat.le_refl _) _
      have hs5 : (w20.drew).heap.size < (World.alloc w20.drew (Obj.cells (pa p) 29 (0, 0))).heap.size := by simp
      have HQ5 := Lib.hid (HQ.out.trans (hd.mono HQ.out.size))
      have HL5 := Lib.hid (heap_alloc_last w20.drew (Obj.cells (pa p) 29 (0, 0)))
      generalize (World.alloc w20.drew (Obj.cells (pa p) 29 (0, 0))) = z5 at *
      clear hd
      refine hK.out _ _ ⟨(hS HQ5.out).1, (hS HQ5.out).2⟩ (fun hHeld => ?_)
      clear hK K
      refine norm_ (a' := ?_) ?_ ?_
      rotate_left
      · show Act.put _ (some 44) _ = _
        simp only [Act.put, List.setIfInBounds_toArray, List.set_cons_zero, List.set_cons_succ, i64_w, i32_w]
        rfl
      refine one_ (i := 0) (N := some 39) #[true, true, true, false, true, true, false, false, false] rfl rfl (by kernel_rfl) (by decide) (fun K hK => ?_)
      refine value_ (by rfl) rfl (exec_lit0 rfl _) ?_
      have hd : Below (z5).heap.size z5 (World.alloc z5 (Obj.cells #[] 29 (0, 0))) := (Below.refl _ _).alloc (Nat.le_refl _) _
      have hs50 : (z5).heap.size < (World.alloc z5 (Obj.cells #[] 29 (0, 0))).heap.size := by simp
      have HQ50 := Lib.hid (HQ5.out.trans (hd.mono HQ5.out.size))
      have HE50 := Lib.hid (r_empty pk 29 z5 w20.heap.size HQ5.out.size)
      have HL50 := Lib.hid ((hd.block _ (Err.lt_of_block HL5.out)).trans HL5.out)
      generalize (World.alloc z5 (Obj.cells #[] 29 (0, 0))) = z50 at *
      clear hd
      refine hK.out _ _ ⟨(hS HQ50.out).1, (hS HQ50.out).2⟩ (fun hHeld => ?_)
      clear hK K
      refine norm_ (a' := ?_) ?_ ?_
      rotate_left
      · show Act.put _ (some 39) _ = _
        simp only [Act.put, List.setIfInBounds_toArray, List.set_cons_zero, List.set_cons_succ, i64_w, i32_w]
        rfl
      refine one_ (i := 3) (N := some 42) #[true, true, true, true, true, true, false, false, false] rfl rfl (by kernel_rfl) (by decide) (fun K hK => ?_)
      refine Kd.R_append_rows_step pk (w0 := w20) w20.heap.size (by rfl) (.tmp 39) (.tmp 41) 46 29 (pv pz) 64 (by rfl) Tryd.underlying46 infoB rfl (by decide) (by decide) (.slice (some ⟨(z5).heap.size, 0, none⟩) 0 0) [] (d.L.map (fun x : Int × Pg => x.2)) _ _ _ (fun _ => True) (fun _ => False) (by rfl) (by rfl) HE50.out (h.out.on (HB20.out.trans (HQ50.out.mono HB20.out.size))).Cy (fun _ _ h => h) (fun _ h => h.elim) (fun _ _ => trivial) HQ50.out HQ50.out.size (by simp; omega) ?_
      intro v42 z503 ho hb hg hn
      rw [List.nil_append] at ho
      have HV503 := Lib.hid ho
      have HQ503 := Lib.hid hb
      have HL503 := Lib.hid ((hg.block _ (Err.lt_of_block HL50.out) (by simp [Value.ownBlock]; simp at *; omega)).trans HL50.out)
      clear ho hb hg hn
      refine hK.out _ _ ⟨(hS HQ503.out).1, (hS HQ503.out).2⟩ (fun hHeld => ?_)
      clear hK K
      refine norm_ (a' := ?_) ?_ ?_
      rotate_left
      · show Act.put _ (some 42) _ = _
        simp only [Act.put, List.setIfInBounds_toArray, List.set_cons_zero, List.set_cons_succ, i64_w, i32_w]
        rfl
      exact norm_ (by simp only [putAll, Act.put, List.setIfInBounds_toArray, List.set_cons_zero, List.set_cons_succ]) (hCont (((z5).heap.size, v42, (w20.drew).heap.size) : Nat × Value × Nat) _ ⟨HQ503.out, HV503.out, HL503.out⟩)
  rintro ⟨g0, v42, g5⟩ z ⟨hq, hv, hl⟩
  have HQj := Lib.hid hq
  have HVj := Lib.hid hv
  have HLj := Lib.hid hl
  clear hq hv hl
  have hHeld := hS HQj.out
  refine norm_ (a' := ?_) ?_ ?_
  rotate_left
  · simp only [putAll, Act.put, List.setIfInBounds_toArray, List.set_cons_zero, List.set_cons_succ]
    rfl
  refine one_ (i := 6) (N := some 45) #[true, true, true, true, true, true, true, false, false] rfl rfl (by kernel_rfl) (by decide) (fun K hK => ?_)
  refine Kd.R_append_rows_step pk (w0 := w20) w20.heap.size (by rfl) (.tmp 42) (.tmp 44) 46 29 (pv pz) 64 (by rfl) Tryd.underlying46 infoB rfl (by decide) (by decide) v42 (d.L.map (fun x : Int × Pg => x.2)) [p] _ _ _ (fun _ => True) (fun _ => False) (by rfl) (by rfl) HVj.out (readsBk _ _ p HLj.out) (fun _ _ h => h) (fun _ h => h.elim) (fun _ _ => trivial) HQj.out HQj.out.size (by simp; omega) ?_
  intro v45 w5 ho5 hb5 hg5 hn5
  obtain ⟨Ay, my, ky, rfl⟩ := r_sl ho5
  have HO5 := Lib.hid ho5
  have HB5 := Lib.hid hb5
  have HD5 := blk_to HD20 hb5
  have c1 := (rv_cells HD5).2.2.1
  have f1 := rv_fz HD5 2
  clear ho5 hb5 hg5 hn5
  refine hK.out _ _ ⟨(hS HB5.out).1, (hS HB5.out).2⟩ (fun hHeld => ?_)
  clear hK K
  refine norm_ (a' := ?_) ?_ ?_
  rotate_left
  · show Act.put _ (some 45) _ = _
    simp only [Act.put, List.setIfInBounds_toArray, List.set_cons_zero, List.set_cons_succ, i64_w, i32_w]
    rfl
  refine pure_ (i := 7) (N := some 46) (v := ?_) (a' := ?_) #[true, true, true, true, true, true, true, true, false] rfl rfl (by kernel_rfl) (fun _ _ _ h => h) (Or.inl ⟨by rfl, ?_⟩) ?_ ?_
  rotate_left
  · intro w'
    go_simp
    with_reducible rfl
  rotate_left
  · simp only [Act.put, List.setIfInBounds_toArray, List.set_cons_zero, List.set_cons_succ, i64_w, i32_w]
    rfl
  refine last_ (i := 8) (N := none) #[true, true, true, true, true, true, true, true, true] rfl rfl (by kernel_rfl) (by decide) (fun K hK => ?_)
  refine skip_ (w1 := ?_) (by rfl) rfl ?_ ?_
  rotate_left
  · go_simp
    rfl
  refine hK.out _ _ ?_
  clear hK K
  refine done_ (by kernel_rfl) ?_
  clear hHeld hS HQ HQj HVj HLj
  have hm : Mod (· = D) w5 (w5.setCell ⟨D, 2, none⟩ (.slice Ay my ky)) := mod_set w5 D 2 _
  have HD30 := Lib.hid (rv_set (r2 := ⟨sz, ⟨Ax, mx, kx⟩, ⟨Ay, my, ky⟩, ⟨zp, zn, zc⟩, false, b2⟩) HD5 2 (.slice Ay my ky) rfl)
  have HR2_30 := Lib.hid (row_keep (Kd.R_lower HO5.out (Nat.zero_le _)) HD5.out hm (by decide) (fun _ _ _ h => h))
  have HP30 := Lib.hid (hm.blk (blk_to HP20 HB5.out).out hPD)
  have HZ30 := Lib.hid (hm.blk (blk_to HZ20 HB5.out).out hZD)
  have HR1_30 := Lib.hid (row_keep (Kd.R_below HR1_20.out HB5.out) HD5.out hm (by decide) (fun _ _ _ h => h))
  have hbx := HB20.out.trans (HB5.out.mono HB20.out.size)
  have HB30 := Lib.hid (hbx.trans (hm.below hbx.size (fun i hi (e : i = D) => by omega)))
  generalize (w5.setCell ⟨D, 2, none⟩ (.slice Ay my ky)) = w30 at *
  clear hm hbx HO5 HB5 HD5 c1 f1 HD20 HP20 HZ20 HB20
  clear HR1_20
  go_upto_region 12 with (first
    | ((with_reducible refine gate_dst (N := 47) rfl ?_); refine Kd.R_lit Kd.bool w30.heap.size 4 rfl (w0 := w30) (N := 47) rfl (xs := ([] : List Bool)) (inner := []) (ok := fun _ => True) (okp := fun _ => True) ?hr ?hp (fun _ hk => hk) trivial (Below.refl _ _) (Nat.le_refl _) (by simp) ?_; (case hr => (go_simp; done)); (case hp => exact (Reps.none _ _)); intro v1 w3 ho3 hb3 hg3 hn3; have HO3 := Lib.hid ho3; have HB3 := Lib.hid hb3; have c1 : w3.cell? ⟨D, 3, none⟩ = some (.slice zp zn zc) := (rv_cells (blk_to HD30 hb3)).2.2.2.1; clear ho3 hb3 hg3 hn3)
    | (at_builtin; refine Kd.R_append_rows Kd.bool (w0 := w30) w30.heap.size rfl (.tmp 47) (.tmp 49) 47 4 (.bool false) 1 rfl Tryd.underlying47 infoL rfl (by decide) (by decide) v1 [] (d.fi) _ _ _ (fun _ => True) (fun _ => False) rfl rfl HO3.out (h.out.on (HB30.out.trans (HB3.out.mono HB30.out.size))).Cz (fun _ _ h => h) (fun _ h => h.elim) (fun _ _ => trivial) HB3.out HB3.out.size ?aL ?_; (case aL => (simp; omega)); intro v2 w4 ho4 hb4 hg4 hn4; rw [List.nil_append] at ho4; have HO4 := Lib.hid ho4; have HB4 := Lib.hid hb4; clear ho4 hb4 hg4 hn4)
    | (at_builtin; refine Kd.R_append Kd.bool (w0 := w30) w30.heap.size rfl (.tmp 50) (.tmp 51) 47 4 (.bool false) 1 rfl Tryd.underlying47 infoL rfl (by decide) (by decide) v2 (d.fi) false [.bool false] (fun _ => True) (fun _ => False) rfl rfl rfl (fun _ h => h.elim) (fun _ _ => trivial) HO4.out HB4.out HB4.out.size ?aL ?_; (case aL => (have := d.fi_length; simp; omega)); intro v3 w5 ho5 hb5 hg5 hn5; obtain ⟨Az, mz, kz, rfl⟩ := r_sl ho5; have HO5 := Lib.hid ho5; have HB5 := Lib.hid hb5; have HD5 := blk_to HD30 hb5; have c1 := (rv_cells HD5).2.2.2.1; have f1 := rv_fz HD5 3; clear ho5 hb5 hg5 hn5))
  have hm : Mod (· = D) w5 (w5.setCell ⟨D, 3, none⟩ (.slice Az mz kz)) := mod_set w5 D 3 _
  have HD40 := Lib.hid (rv_set (r2 := ⟨sz, ⟨Ax, mx, kx⟩, ⟨Ay, my, ky⟩, ⟨Az, mz, kz⟩, false, b2⟩) HD5 3 (.slice Az mz kz) rfl)
  have HR3_40 := Lib.hid (row_keep (Kd.R_lower HO5.out (Nat.zero_le _)) HD5.out hm (by decide) (fun _ _ _ h => h))
  have HP40 := Lib.hid (hm.blk (blk_to HP30 HB5.out).out hPD)
  have HZ40 := Lib.hid (hm.blk (blk_to HZ30 HB5.out).out hZD)
  have HR1_40 := Lib.hid (row_keep (Kd.R_below HR1_30.out HB5.out) HD5.out hm (by decide) (fun _ _ _ h => h))
  have HR2_40 := Lib.hid (row_keep (Kd.R_below HR2_30.out HB5.out) HD5.out hm (by decide) (fun _ _ _ h => h))
  have hbx := HB30.out.trans (HB5.out.mono HB30.out.size)
  have HB40 := Lib.hid (hbx.trans (hm.below hbx.size (fun i hi (e : i = D) => by omega)))
  generalize (w5.setCell ⟨D, 3, none⟩ (.slice Az mz kz)) = w40 at *
  clear hm hbx HO5 HB5 HD5 c1 f1 HD30 HP30 HZ30 HB30
  clear HR1_30
  clear HR2_30
  obtain ⟨r9, hr9⟩ : ∃ r9 : RV, r9 = ⟨sz, ⟨Ax, mx, kx⟩, ⟨Ay, my, ky⟩, ⟨Az, mz, kz⟩, false, b2⟩ := ⟨_, rfl⟩
  rw [← hr9] at HD40
  have HR9 := Lib.hid hr9
  clear hr9
  go_wp2_with (first
    | (refine wl_loadD D r9 HD40.out rfl _ rfl rfl ?_)
    | (refine wl_storeD Z RV.zero.a rfl r9 HZ40.out rfl _ _ rfl rfl rfl ?_))
  (try simp only [Exit.inBlock, Exit.then])
  refine bodyPost_ret (v := .tuple #[.agg r9.a, .int .i64 0]) ?_ rfl ?_
  · exact rwrite_results _ _ Z r9 _ rfl rfl (rowD _ _ RV.zero _ HZ40.out)
  have hm : Mod (· = Z) w40 (w40.setRow Z r9.a) := mod_row w40 Z r9.a
  refine ⟨r9, rfl, ?_, HB40.out.trans (hm.below HB40.out.size (fun i hi (e : i = Z) => by omega))⟩
  have h1 := row_keep HR1_40.out HZ40.out hm (by decide) (fun _ _ _ h => h)
  have h2 := row_keep HR2_40.out HZ40.out hm (by decide) (fun _ _ _ h => h)
  have h3 := row_keep HR3_40.out HZ40.out hm (by decide) (fun _ _ _ h => h)
  clear hm
  generalize (w40.setRow Z r9.a) = w9 at h1 h2 h3 ⊢
  rw [HR9.out]
  exact ⟨HSs.out, HDd.out, HBb.out, by simpa [RD.L, Sl.v] using h1, by simpa [RD.L, Sl.v] using h2, by simpa [RD.fi, List.replicate_succ', Sl.v] using h3⟩
end Go.Proofs.YtoanhafbofphgaaDoor.Rfd
