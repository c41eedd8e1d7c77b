/- The document's Settle of a disk, the walk. -/
import Derived.Test.YtoanhafbofphgaaDoorRefD4
set_option linter.unusedVariables false
set_option linter.unusedSimpArgs false
namespace Go.Proofs.YtoanhafbofphgaaDoor.Rfd
open Go.RowKit Go.Proofs.YtoanhafbofphgaaDoorW.PrintWords Go.Proofs.YtoanhafbofphgaaDoorW.PrintLast Go.Proofs.YtoanhafbofphgaaDoorW.PrintMore Go.Proofs.YtoanhafbofphgaaDoor.Md Go.Proofs.YtoanhafbofphgaaDoor.Dk
open Go.Extern.Stop (cell)
open Go.Proofs.YtoanhafbofphgaaDoor.Err (Laid IsErr code_nil Chain at_some at_nil)
theorem rsettle_results (tmps : Array Value) (W : World) (b : Nat) (r : RV) (h4 : tmps.getD 4 undef = .pointer (some ⟨b, 0, none⟩)) (h : W.heap[b]? = some (Obj.cells r.a 49 (0, 0))) : (results Tryd.f18 tmps).run Tryd.prog W = .ok (.agg r.a) W := by
  have hl : (loadVar 49 ⟨b, 0, none⟩).run Tryd.prog W = .ok (.agg r.a) W := run_loadVar_row W b 49 49 r.a (0, 0) _ h Tryd.underlying49 rfl (by kernel_rfl)
  have h4' : tmps[4]?.getD undef = .pointer (some ⟨b, 0, none⟩) := by simpa using h4
  simp [results, Tryd.results18, asAddr, h4', hl]
theorem litI (x : Int) (W : World) : (Instr.buildSlice 45 1 #[(0, .int .i64 x)]).run Tryd.prog W = .ok (.slice (some ⟨W.heap.size, 0, none⟩) 1 1) (W.alloc (.cells #[.int .i64 x] 3 (0, 0))) := by kernel_rfl
theorem exec_litI {a : Operand → Value} {o : Oper} {x : Operand} {p : Int} (ho : o.op = .buildSlice 45 1 #[(0, x)]) (hx : a x = .int .i64 p) (W : World) : (execOp a o).run Tryd.prog W = .ok (.value (.slice (some ⟨W.heap.size, 0, none⟩) 1 1)) (W.alloc (.cells #[.int .i64 p] 3 (0, 0))) := by
  have h2 := litI p W
  unfold execOp
  simp only [ho]
  have e : (#[((0 : Nat), x)] : Array (Nat × Operand)).map (fun (y : Nat × Operand) => (y.1, a y.2)) = #[(0, .int .i64 p)] := by simp [hx]
  show (Sem.run _ (do let v ← Instr.buildSlice _ 1 (Array.map _ _); _) _) = _
  rw [e, Sem.run_bind, h2]
  rfl
theorem int_lt {w : World} {ok : Nat → Prop} {A : Option Addr} {n c : Nat} {l : List Int} (h : (Kd.int .i64).R 3 w 0 ok (.slice A n c) l) (k : Nat) (hk : k < l.length) : ∃ g, A = some ⟨g, 0, none⟩ ∧ g < w.heap.size := by
  obtain ⟨g, cap, e, _, hg, _⟩ := Kd.R_form h (by omega)
  injection e with e1 _ _
  exact ⟨g, e1, hg⟩
theorem page_lt {w : World} {ok : Nat → Prop} {A : Option Addr} {n c : Nat} {l : List Pg} (h : pk.R 29 w 0 ok (.slice A n c) l) (k : Nat) (hk : k < l.length) : ∃ g, A = some ⟨g, 0, none⟩ ∧ g < w.heap.size := by
  obtain ⟨g, cap, e, _, hg, _⟩ := Kd.R_form h (by omega)
  injection e with e1 _ _
  exact ⟨g, e1, hg⟩
theorem range_on {w w' : World} {g off : Nat} {cs : List Value} (h : w.rangeAt g off cs) (k : Below w.heap.size w w') (hg : g < w.heap.size) : w'.rangeAt g off cs := fun j u hu => (k.cell hg).trans (h j u hu)
set_option maxHeartbeats 16000000 in
set_option maxRecDepth 100000 in
theorem rsettle_c (r : RV) (d : RD) (mask : Nat) (w : World) (h : Hid (IsR w r d)) (hm : mask < 2 ^ 64) (hl : d.L.length ≤ 1000) : Calls Tryd.prog 18 #[.agg r.a, .int .u64 (mask : Int)] w fun e w' => ∃ r', e = .returned (.agg r'.a) ∧ IsR w' r' { d with F := d.F ++ kept mask d.S 0, S := [] } ∧ Below w.heap.size w w' := by
  obtain ⟨n, hn⟩ : ∃ n, d.L.length = n := ⟨_, rfl⟩
  have hnx := h.out.nx
  have hny := h.out.ny
  have hnz := h.out.nz
  obtain ⟨sz, ⟨xp, xn, xc⟩, ⟨yp, yn, yc⟩, ⟨zp, zn, zc⟩, dn, bu⟩ := r
  simp only at hnx hny hnz
  rw [hn] at hnx hny hnz hl
  subst xn
  subst yn
  subst zn
  obtain ⟨rr, hrr⟩ : ∃ rr : RV, rr = ⟨sz, ⟨xp, n, xc⟩, ⟨yp, n, yc⟩, ⟨zp, n, zc⟩, dn, bu⟩ := ⟨_, rfl⟩
  rw [← hrr] at h ⊢
  have HRr := Lib.hid hrr
  have HNn := Lib.hid hn
  obtain ⟨r0, hr0⟩ : ∃ r0 : RV, r0 = ⟨sz, ⟨none, 0, 0⟩, ⟨none, 0, 0⟩, ⟨none, 0, 0⟩, dn, bu⟩ := ⟨_, rfl⟩
  have HR0 := Lib.hid hr0
  obtain ⟨g1, g2, g3⟩ := alloc3 w (Obj.cells rr.a 49 (0, 0)) (Obj.cells RV.zero.a 49 (0, 0)) (Obj.cells r0.a 49 (0, 0))
  have hb3 := below3 w (Obj.cells rr.a 49 (0, 0)) (Obj.cells RV.zero.a 49 (0, 0)) (Obj.cells r0.a 49 (0, 0))
  have hw2 : (w.alloc (Obj.cells rr.a 49 (0, 0))).heap[w.heap.size]? = some (Obj.cells rr.a 49 (0, 0)) := heap_alloc_last _ _
  have hb2 : Below (w.alloc (Obj.cells rr.a 49 (0, 0))).heap.size (w.alloc (Obj.cells rr.a 49 (0, 0))) ((w.alloc (Obj.cells rr.a 49 (0, 0))).alloc (Obj.cells RV.zero.a 49 (0, 0))) := (Below.refl _ _).alloc (Nat.le_refl _) _
  have HW2 := Lib.hid ((hb2.block _ (Err.lt_of_block hw2)).trans hw2)
  have a0 : ((w.alloc (Obj.cells rr.a 49 (0, 0))).alloc (Obj.cells RV.zero.a 49 (0, 0))).cell? ⟨w.heap.size, 0, none⟩ = some (.int .i64 sz) := by rw [(rv_cells HW2).1, hrr]
  have a4 : ((w.alloc (Obj.cells rr.a 49 (0, 0))).alloc (Obj.cells RV.zero.a 49 (0, 0))).cell? ⟨w.heap.size, 4, none⟩ = some (.bool dn) := by rw [(rv_cells HW2).2.2.2.2.1, hrr]
  have a5 : ((w.alloc (Obj.cells rr.a 49 (0, 0))).alloc (Obj.cells RV.zero.a 49 (0, 0))).cell? ⟨w.heap.size, 5, none⟩ = some (.int .i64 bu) := by rw [(rv_cells HW2).2.2.2.2.2, hrr]
  have hra : RV.a ⟨sz, ⟨none, 0, 0⟩, ⟨none, 0, 0⟩, ⟨none, 0, 0⟩, dn, bu⟩ = r0.a := by rw [hr0]
  have HRA := Lib.hid hra
  clear hn hrr hr0 hw2 hb2 hra
  go_enter Tryd.func18, Tryd.ntmps18
  go_wp2_with (first
    | (refine wl_allocD rfl rfl ?_)
    | (refine wl_storeDn RV.zero.a rfl ⟨sz, ⟨none, 0, 0⟩, ⟨none, 0, 0⟩, ⟨none, 0, 0⟩, dn, bu⟩ rfl _ _ rfl rfl rfl ?_; rw [HRA.out]))
  obtain ⟨D, hD⟩ : ∃ D, w.heap.size = D := ⟨_, rfl⟩
  obtain ⟨Z, hZ⟩ : ∃ Z, w.heap.size + 1 = Z := ⟨_, rfl⟩
  obtain ⟨O, hO⟩ : ∃ O, w.heap.size + 1 + 1 = O := ⟨_, rfl⟩
  rw [hZ] at g2
  rw [hO] at g3
  have g1 : (((w.alloc (Obj.cells rr.a 49 (0, 0))).alloc (Obj.cells RV.zero.a 49 (0, 0))).alloc (Obj.cells r0.a 49 (0, 0))).heap[D]? = some (Obj.cells rr.a 49 (0, 0)) := by rw [← hD]; exact g1
  have HO1 := Lib.hid (show Ou w (((w.alloc (Obj.cells rr.a 49 (0, 0))).alloc (Obj.cells RV.zero.a 49 (0, 0))).alloc (Obj.cells r0.a 49 (0, 0))) D Z O rr ⟨sz, ⟨none, 0, 0⟩, ⟨none, 0, 0⟩, ⟨none, 0, 0⟩, dn, bu⟩ (Sl.v ⟨none, 0, 0⟩) (Sl.v ⟨none, 0, 0⟩) (Sl.v ⟨none, 0, 0⟩) ((got d.F d.S mask 0).map (fun x : Int × Pg => x.1)) ((got d.F d.S mask 0).map (fun x : Int × Pg => x.2)) (List.replicate (got d.F d.S mask 0).length true) from by
    rw [got_zero]
    exact ⟨hb3, g1, g2, by rw [HRA.out]; exact g3, Kd.R_nil _ _ _ _ _, Kd.R_nil _ _ _ _ _, Kd.R_nil _ _ _ _ _⟩)
  have hDO : D ≠ O := by omega
  have hZO : Z ≠ O := by omega
  have hgO : w.heap.size ≤ O := by omega
  have hgZ : w.heap.size ≤ Z := by omega
  (try rw [hO])
  (try rw [hZ])
  (try simp only [hO])
  (try simp only [hZ])
  (try simp only [hD])
  generalize (((w.alloc (Obj.cells rr.a 49 (0, 0))).alloc (Obj.cells RV.zero.a 49 (0, 0))).alloc (Obj.cells r0.a 49 (0, 0))) = w1 at *
  clear g1 g2 g3 hb3 hO hZ hD a0 a4 a5 HW2
  go_loopg [6, 7] n (fun kq v0 v1 wr => ∃ (k : Nat) (ox oy oz : Sl), v0 = .int .i64 ((k - d.F.length : Nat) : Int) ∧ v1 = .int .i64 (k : Int) ∧ kq + k = n ∧ Hid (Ou w wr D Z O rr ⟨sz, ox, oy, oz, dn, bu⟩ ox.v oy.v oz.v ((got d.F d.S mask k).map (fun x : Int × Pg => x.1)) ((got d.F d.S mask k).map (fun x : Int × Pg => x.2)) (List.replicate (got d.F d.S mask k).length true)))
  case atStart => exact ⟨0, _, _, _, by simp, rfl, by omega, HO1⟩
  case round =>
    clear HO1
    obtain ⟨k, ox, oy, oz, rfl, rfl, hk, HO⟩ := hrel
    have c1 : wr.cell? ⟨D, 1, none⟩ = some (.slice xp n xc) := by rw [(rv_cells (Lib.hid HO.out.dd)).2.1, HRr.out]; rfl
    cases gk with
    | zero =>
      have hkn : k = n := by omega
      have c5 : decide ((k : Int) < (n : Int)) = false := decide_eq_false (by omega)
      have c5' : decide (k < n) = false := decide_eq_false (by omega)
      obtain ⟨r9, hr9⟩ : ∃ r9 : RV, r9 = ⟨sz, ox, oy, oz, dn, bu⟩ := ⟨_, rfl⟩
      have HR9 := Lib.hid hr9
      have HOo := Lib.hid HO.out.oo
      rw [← hr9] at HOo
      have HZz := Lib.hid HO.out.zz
      have HKn := Lib.hid hkn
      clear hr9 hk hkn
      go_wp2_with (first
        | (refine wl_loadD O r9 HOo.out rfl _ rfl rfl ?_)
        | (refine wl_storeD Z RV.zero.a rfl r9 HZz.out rfl _ _ rfl rfl rfl ?_))
      (try simp only [Exit.inBlock, Exit.then])
      refine bodyPost_ret (v := .agg r9.a) ?_ rfl ?_
      · exact rsettle_results _ _ Z r9 rfl (rowD _ _ RV.zero _ HZz.out)
      have hm : Mod (· = Z) wr (wr.setRow Z r9.a) := mod_row wr Z r9.a
      refine ⟨r9, rfl, ?_, HO.out.bel.trans (hm.below HO.out.bel.size (fun i hi (e : i = Z) => by omega))⟩
      have h1 := row_keep (Kd.R_lower HO.out.x (Nat.zero_le _)) HZz.out hm (by decide) (fun _ _ _ h => h)
      have h2 := row_keep (Kd.R_lower HO.out.y (Nat.zero_le _)) HZz.out hm (by decide) (fun _ _ _ h => h)
      have h3 := row_keep (Kd.R_lower HO.out.z (Nat.zero_le _)) HZz.out hm (by decide) (fun _ _ _ h => h)
      have hga : got d.F d.S mask k = d.F ++ kept mask d.S 0 := by
        rw [HKn.out, ← HNn.out]; exact got_all d.F d.S mask
      rw [hga] at h1 h2 h3
      clear hm
      generalize (wr.setRow Z r9.a) = w9 at h1 h2 h3 ⊢
      have hs := h.out.size
      have hd := h.out.down
      have hbu := h.out.budget
      rw [HRr.out] at hs hd hbu
      rw [HR9.out]
      exact ⟨hs, hd, hbu, by simpa [RD.L] using h1, by simpa [RD.L] using h2, by simpa [RD.fi] using h3⟩
    | succ k1 =>
      have hkn : k < n := by omega
      have hkl : k < d.L.length := by have := HNn.out; omega
      have hkf : k < d.fi.length := by rw [d.fi_length]; exact hkl
      have hgl := got_len d.F d.S mask k
      have c5 : decide ((k : Int) < (n : Int)) = true := decide_eq_true (by omega)
      have c5' : decide (k < n) = true := decide_eq_true (by omega)
      have q5 : IntKind.i64.wrap ((k : Int) + 1) = (k : Int) + 1 := IntWalk.i64_in _ (by omega)
      have p1 : (0 ≤ (k : Int)) = True := eq_true (by omega)
      have p2 : ((k : Int) < (n : Int)) = True := eq_true (by omega)
      have hIx := h.out.x
      have hIy := h.out.y
      have hIz := (h.out.on HO.out.bel).z
      rw [show rr.x.v = .slice xp n xc by rw [HRr.out]; rfl] at hIx
      rw [show rr.y.v = .slice yp n yc by rw [HRr.out]; rfl] at hIy
      rw [show rr.z.v = .slice zp n zc by rw [HRr.out]; rfl] at hIz
      obtain ⟨gx, ex, hcx⟩ := int_at hIx k (by rw [List.length_map]; exact hkl)
      obtain ⟨gy, ey, hcy⟩ := page_at hIy k (by rw [List.length_map]; exact hkl)
      obtain ⟨gz, ez, hcz⟩ := bool_at hIz k hkf
      obtain ⟨_, ex2, hgx⟩ := int_lt hIx k (by rw [List.length_map]; exact hkl)
      obtain ⟨_, ey2, hgy⟩ := page_lt hIy k (by rw [List.length_map]; exact hkl)
      rw [ex] at ex2
      cases ex2
      rw [ey] at ey2
      cases ey2
      subst ex
      subst ey
      subst ez
      rw [List.getElem_map] at hcx hcy
      rw [fi_at d k hkf] at hcz
      have HXk := Lib.hid (show (d.F ++ d.S)[k]? = some d.L[k] from List.getElem?_eq_getElem hkl)
      obtain ⟨x, hx⟩ : ∃ x, d.L[k] = x := ⟨_, rfl⟩
      rw [hx] at hcx hcy HXk
      have HO0 := HO
      have c3 : wr.cell? ⟨D, 3, none⟩ = some (.slice (some ⟨gz, 0, none⟩) n zc) := by rw [(rv_cells (Lib.hid HO.out.dd)).2.2.2.1, HRr.out]; rfl
      clear hIx hIy hIz hx HO
      by_cases hf : k < d.F.length
      · rw [decide_eq_true hf] at hcz
        have HGo := Lib.hid (got_firm d.F d.S mask k hf x HXk.out)
        have hcnt : k + 1 - d.F.length = k - d.F.length := by omega
        go_upto_region 16 with fail
        clear hcz c1 c3
        have HO0d := Lib.hid (HO0.out.on (Below.refl _ _).drew)
        have hS := fun {w' : World} {vx vy vz : Value} {X : List Int} {Y : List Pg} {B : List Bool} (o : Ou w w' D Z O rr ⟨sz, ox, oy, oz, dn, bu⟩ vx vy vz X Y B) => (show w'.cell? ⟨O, 1, none⟩ = some (.slice ox.p ox.n ox.c) ∧ w'.cell? ⟨D, 1, none⟩ = some (.slice (some ⟨gx, 0, none⟩) n xc) ∧ w'.cell? ⟨gx, k, none⟩ = some (.int .i64 x.1) from ⟨(rv_cells (Lib.hid o.oo)).2.1, by rw [(rv_cells (Lib.hid o.dd)).2.1, HRr.out]; rfl, (o.bel.cell hgx).trans hcx⟩)
        refine start_ (n := 11) (S := fun w' => w'.cell? ⟨O, 1, none⟩ = some (.slice ox.p ox.n ox.c) ∧ w'.cell? ⟨D, 1, none⟩ = some (.slice (some ⟨gx, 0, none⟩) n xc) ∧ w'.cell? ⟨gx, k, none⟩ = some (.int .i64 x.1)) (ds := [10]) #[false, false, false, false, false, false, false, false, false, false, false] (by kernel_rfl) rfl rfl ⟨(hS HO0d.out).1, (hS HO0d.out).2.1, (hS HO0d.out).2.2⟩ (fun hHeld => ?_)
        refine pure_ (i := 0) (N := some 47) (v := ?_) (a' := ?_) #[true, false, false, false, false, false, false, false, false, false, false] rfl rfl (by kernel_rfl) (fun _ _ _ h => h) (Or.inl ⟨by rfl, ?_⟩) ?_ ?_
        rotate_left
        · intro w'
          go_simp
          with_reducible rfl
        rotate_left
        · simp only [Act.put, List.setIfInBounds_toArray, List.set_cons_zero, List.set_cons_succ, i64_w, i32_w]
          rfl
        refine pure_ (i := 2) (N := some 49) (v := ?_) (a' := ?_) #[true, false, true, false, false, false, false, false, false, false, false] rfl rfl (by kernel_rfl) (fun _ _ _ h => h) (Or.inl ⟨by rfl, ?_⟩) ?_ ?_
        rotate_left
        · intro w'
          go_simp
          with_reducible rfl
        rotate_left
        · simp only [Act.put, List.setIfInBounds_toArray, List.set_cons_zero, List.set_cons_succ, i64_w, i32_w]
          rfl
        refine pure_ (i := 4) (N := some 51) (v := ?_) (a' := ?_) #[true, false, true, false, true, false, false, false, false, false, false] rfl rfl (by kernel_rfl) (fun _ _ _ h => h) (Or.inl ⟨by rfl, ?_⟩) ?_ ?_
        rotate_left
        · intro w'
          go_simp
          with_reducible rfl
        rotate_left
        · simp only [Act.put, List.setIfInBounds_toArray, List.set_cons_zero, List.set_cons_succ, i64_w, i32_w]
          rfl
        refine take_ (i := 1) (N := some 48) (v := ?_) (a' := ?_) #[true, true, true, false, true, false, false, false, false, false, false] rfl rfl (by kernel_rfl) (fun _ _ _ h => h) (Or.inl ⟨by rfl, ?_⟩) hHeld ?_ ?_
        rotate_left
        · rintro w' ⟨s0, s1, s2⟩
          go_simp
          with_reducible rfl
        rotate_left
        · simp only [Act.put, List.setIfInBounds_toArray, List.set_cons_zero, List.set_cons_succ, i64_w, i32_w]
          rfl
        refine take_ (i := 3) (N := some 50) (v := ?_) (a' := ?_) #[true, true, true, true, true, false, false, false, false, false, false] rfl rfl (by kernel_rfl) (fun _ _ _ h => h) (Or.inl ⟨by rfl, ?_⟩) hHeld ?_ ?_
        rotate_left
        · rintro w' ⟨s0, s1, s2⟩
          go_simp
          with_reducible rfl
        rotate_left
        · simp only [Act.put, List.setIfInBounds_toArray, List.set_cons_zero, List.set_cons_succ, i64_w, i32_w]
          rfl
        refine pure_ (i := 5) (N := some 52) (v := ?_) (a' := ?_) #[true, true, true, true, true, true, false, false, false, false, false] rfl rfl (by kernel_rfl) (fun _ _ _ h => h) (Or.inl ⟨by rfl, ?_⟩) ?_ ?_
        rotate_left
        · intro w'
          go_simp
          with_reducible rfl
        rotate_left
        · simp only [Act.put, List.setIfInBounds_toArray, List.set_cons_zero, List.set_cons_succ, i64_w, i32_w]
          rfl
        refine take_ (i := 6) (N := some 53) (v := ?_) (a' := ?_) #[true, true, true, true, true, true, true, false, false, false, false] rfl rfl (by kernel_rfl) (fun _ _ _ h => h) (Or.inl ⟨by rfl, ?_⟩) hHeld ?_ ?_
        rotate_left
        · rintro w' ⟨s0, s1, s2⟩
          go_simp
          with_reducible rfl
        rotate_left
        · simp only [Act.put, List.setIfInBounds_toArray, List.set_cons_zero, List.set_cons_succ, i64_w, i32_w]
          rfl
        refine one_ (i := 7) (N := some 54) #[true, true, true, true, true, true, true, true, false, false, false] rfl rfl (by kernel_rfl) (by decide) (fun K hK => ?_)
        refine value_ (by rfl) rfl (exec_litI rfl rfl _) ?_
        have hd : Below (World.drew wr).heap.size (World.drew wr) (World.alloc (World.drew wr) (Obj.cells #[.int .i64 x.1] 3 (0, 0))) := (Below.refl _ _).alloc (Nat.le_refl _) _
        have HO07 := Lib.hid (HO0d.out.on hd)
        have HL7 := Lib.hid (heap_alloc_last (World.drew wr) (Obj.cells #[.int .i64 x.1] 3 (0, 0)))
        generalize (World.alloc (World.drew wr) (Obj.cells #[.int .i64 x.1] 3 (0, 0))) = z7 at *
        clear hd
        refine hK.out _ _ ⟨(hS HO07.out).1, (hS HO07.out).2.1, (hS HO07.out).2.2⟩ (fun hHeld => ?_)
        clear hK K
        refine norm_ (a' := ?_) ?_ ?_
        rotate_left
        · show Act.put _ (some 54) _ = _
          simp only [Act.put, List.setIfInBounds_toArray, List.set_cons_zero, List.set_cons_succ, i64_w, i32_w]
          rfl
        refine one_ (i := 8) (N := some 55) #[true, true, true, true, true, true, true, true, true, false, false] rfl rfl (by kernel_rfl) (by decide) (fun K hK => ?_)
        refine Kd.R_append_rows_step (Kd.int .i64) (w0 := w) w.heap.size (by rfl) (.tmp 48) (.tmp 54) 45 3 (.int .i64 0) 8 (by rfl) Tryd.underlying45 infoI rfl (by decide) (by decide) ox.v ((got d.F d.S mask k).map (fun x : Int × Pg => x.1)) [x.1] _ _ _ (fun _ => True) (fun _ => False) (by rfl) (by rfl) HO07.out.x (readsIk _ _ x.1 HL7.out) (fun _ _ h => h) (fun _ h => h.elim) (fun _ _ => trivial) HO07.out.bel HO07.out.bel.size (by simp; omega) ?_
        intro v8 w8 ho hb hg hn
        obtain ⟨Ax, mx, kx, rfl⟩ := r_sl ho
        have HO08 := Lib.hid (HO07.out.growX hg hb ho)
        have c9 := (rv_cells (Lib.hid HO08.out.oo)).2.1
        have f9 := rv_fz (Lib.hid HO08.out.oo) 1
        clear ho hb hg hn
        refine hK.out _ _ ⟨(hS HO08.out).1, (hS HO08.out).2.1, (hS HO08.out).2.2⟩ (fun hHeld => ?_)
        clear hK K
        refine norm_ (a' := ?_) ?_ ?_
        rotate_left
        · show Act.put _ (some 55) _ = _
          simp only [Act.put, List.setIfInBounds_toArray, List.set_cons_zero, List.set_cons_succ, i64_w, i32_w]
          rfl
        refine pure_ (i := 9) (N := some 56) (v := ?_) (a' := ?_) #[true, true, true, true, true, true, true, true, true, true, false] rfl rfl (by kernel_rfl) (fun _ _ _ h => h) (Or.inl ⟨by rfl, ?_⟩) ?_ ?_
        rotate_left
        · intro w'
          go_simp
          with_reducible rfl
        rotate_left
        · simp only [Act.put, List.setIfInBounds_toArray, List.set_cons_zero, List.set_cons_succ, i64_w, i32_w]
          rfl
        refine last_ (i := 10) (N := none) #[true, true, true, true, true, true, true, true, true, true, true] rfl rfl (by kernel_rfl) (by decide) (fun K hK => ?_)
        refine skip_ (w1 := ?_) (by rfl) rfl ?_ ?_
        rotate_left
        · go_simp
          rfl
        refine hK.out _ _ ?_
        clear hK K
        refine done_ (by kernel_rfl) ?_
        clear hHeld hS HO0d HO07 HL7
        have HO1 := Lib.hid (HO08.out.set 1 (.slice Ax mx kx) (r2 := ⟨sz, ⟨Ax, mx, kx⟩, oy, oz, dn, bu⟩) rfl hDO hZO hgO)
        generalize (w8.setCell ⟨O, 1, none⟩ (.slice Ax mx kx)) = w1 at *
        clear HO08 c9 f9
        go_upto_region 17 with fail
        have HO1d := Lib.hid (HO1.out.on (Below.refl _ _).drew)
        have hS := fun {w' : World} {vx vy vz : Value} {X : List Int} {Y : List Pg} {B : List Bool} (o : Ou w w' D Z O rr ⟨sz, ⟨Ax, mx, kx⟩, oy, oz, dn, bu⟩ vx vy vz X Y B) => (show w'.cell? ⟨O, 2, none⟩ = some (.slice oy.p oy.n oy.c) ∧ w'.cell? ⟨D, 2, none⟩ = some (.slice (some ⟨gy, 0, none⟩) n yc) ∧ w'.rangeAt gy (k * 64) (pcs x.2) from ⟨(rv_cells (Lib.hid o.oo)).2.2.1, by rw [(rv_cells (Lib.hid o.dd)).2.2.1, HRr.out]; rfl, range_on hcy o.bel hgy⟩)
        refine start_ (n := 11) (S := fun w' => w'.cell? ⟨O, 2, none⟩ = some (.slice oy.p oy.n oy.c) ∧ w'.cell? ⟨D, 2, none⟩ = some (.slice (some ⟨gy, 0, none⟩) n yc) ∧ w'.rangeAt gy (k * 64) (pcs x.2)) (ds := [10]) #[false, false, false, false, false, false, false, false, false, false, false] (by kernel_rfl) rfl rfl ⟨(hS HO1d.out).1, (hS HO1d.out).2.1, (hS HO1d.out).2.2⟩ (fun hHeld => ?_)
        refine pure_ (i := 0) (N := some 57) (v := ?_) (a' := ?_) #[true, false, false, false, false, false, false, false, false, false, false] rfl rfl (by kernel_rfl) (fun _ _ _ h => h) (Or.inl ⟨by rfl, ?_⟩) ?_ ?_
        rotate_left
        · intro w'
          go_simp
          with_reducible rfl
        rotate_left
        · simp only [Act.put, List.setIfInBounds_toArray, List.set_cons_zero, List.set_cons_succ, i64_w, i32_w]
          rfl
        refine pure_ (i := 2) (N := some 59) (v := ?_) (a' := ?_) #[true, false, true, false, false, false, false, false, false, false, false] rfl rfl (by kernel_rfl) (fun _ _ _ h => h) (Or.inl ⟨by rfl, ?_⟩) ?_ ?_
        rotate_left
        · intro w'
          go_simp
          with_reducible rfl
        rotate_left
        · simp only [Act.put, List.setIfInBounds_toArray, List.set_cons_zero, List.set_cons_succ, i64_w, i32_w]
          rfl
        refine pure_ (i := 4) (N := some 61) (v := ?_) (a' := ?_) #[true, false, true, false, true, false, false, false, false, false, false] rfl rfl (by kernel_rfl) (fun _ _ _ h => h) (Or.inl ⟨by rfl, ?_⟩) ?_ ?_
        rotate_left
        · intro w'
          go_simp
          with_reducible rfl
        rotate_left
        · simp only [Act.put, List.setIfInBounds_toArray, List.set_cons_zero, List.set_cons_succ, i64_w, i32_w]
          rfl
        refine take_ (i := 1) (N := some 58) (v := ?_) (a' := ?_) #[true, true, true, false, true, false, false, false, false, false, false] rfl rfl (by kernel_rfl) (fun _ _ _ h => h) (Or.inl ⟨by rfl, ?_⟩) hHeld ?_ ?_
        rotate_left
        · rintro w' ⟨s0, s1, s2⟩
          go_simp
          with_reducible rfl
        rotate_left
        · simp only [Act.put, List.setIfInBounds_toArray, List.set_cons_zero, List.set_cons_succ, i64_w, i32_w]
          rfl
        refine take_ (i := 3) (N := some 60) (v := ?_) (a' := ?_) #[true, true, true, true, true, false, false, false, false, false, false] rfl rfl (by kernel_rfl) (fun _ _ _ h => h) (Or.inl ⟨by rfl, ?_⟩) hHeld ?_ ?_
        rotate_left
        · rintro w' ⟨s0, s1, s2⟩
          go_simp
          with_reducible rfl
        rotate_left
        · simp only [Act.put, List.setIfInBounds_toArray, List.set_cons_zero, List.set_cons_succ, i64_w, i32_w]
          rfl
        refine pure_ (i := 5) (N := some 62) (v := ?_) (a' := ?_) #[true, true, true, true, true, true, false, false, false, false, false] rfl rfl (by kernel_rfl) (fun _ _ _ h => h) (Or.inl ⟨by rfl, ?_⟩) ?_ ?_
        rotate_left
        · intro w'
          go_simp
          with_reducible rfl
        rotate_left
        · simp only [Act.put, List.setIfInBounds_toArray, List.set_cons_zero, List.set_cons_succ, i64_w, i32_w]
          rfl
        refine take_ (i := 6) (N := some 63) (v := ?_) (a' := ?_) #[true, true, true, true, true, true, true, false, false, false, false] rfl rfl (by kernel_rfl) (fun _ _ _ h => h) (Or.inl ⟨by rfl, ?_⟩) hHeld ?_ ?_
        rotate_left
        · rintro w' ⟨s0, s1, s2⟩
          refine exec_loadPB (x := .tmp 62) ?_ ?_  s2
          · rfl
          · rfl
        rotate_left
        · simp only [Act.put, List.setIfInBounds_toArray, List.set_cons_zero, List.set_cons_succ, i64_w, i32_w]
          rfl
        refine one_ (i := 7) (N := some 64) #[true, true, true, true, true, true, true, true, false, false, false] rfl rfl (by kernel_rfl) (by decide) (fun K hK => ?_)
        refine value_ (by rfl) rfl (exec_litP rfl rfl _) ?_
        have hd : Below (World.drew w1).heap.size (World.drew w1) (World.alloc (World.drew w1) (Obj.cells (pa x.2) 29 (0, 0))) := (Below.refl _ _).alloc (Nat.le_refl _) _
        have HO17 := Lib.hid (HO1d.out.on hd)
        have HL7 := Lib.hid (heap_alloc_last (World.drew w1) (Obj.cells (pa x.2) 29 (0, 0)))
        generalize (World.alloc (World.drew w1) (Obj.cells (pa x.2) 29 (0, 0))) = z7 at *
        clear hd
        refine hK.out _ _ ⟨(hS HO17.out).1, (hS HO17.out).2.1, (hS HO17.out).2.2⟩ (fun hHeld => ?_)
        clear hK K
        refine norm_ (a' := ?_) ?_ ?_
        rotate_left
        · show Act.put _ (some 64) _ = _
          simp only [Act.put, List.setIfInBounds_toArray, List.set_cons_zero, List.set_cons_succ, i64_w, i32_w]
          rfl
        refine one_ (i := 8) (N := some 65) #[true, true, true, true, true, true, true, true, true, false, false] rfl rfl (by kernel_rfl) (by decide) (fun K hK => ?_)
        refine Kd.R_append_rows_step pk (w0 := w) w.heap.size (by rfl) (.tmp 58) (.tmp 64) 46 29 (pv pz) 64 (by rfl) Tryd.underlying46 infoB rfl (by decide) (by decide) oy.v ((got d.F d.S mask k).map (fun x : Int × Pg => x.2)) [x.2] _ _ _ (fun _ => True) (fun _ => False) (by rfl) (by rfl) HO17.out.y (readsBk _ _ x.2 HL7.out) (fun _ _ h => h) (fun _ h => h.elim) (fun _ _ => trivial) HO17.out.bel HO17.out.bel.size (by simp; omega) ?_
        intro v8 w8 ho hb hg hn
        obtain ⟨Ay, my, ky, rfl⟩ := r_sl ho
        have HO18 := Lib.hid (HO17.out.growY hg hb ho)
        have c9 := (rv_cells (Lib.hid HO18.out.oo)).2.2.1
        have f9 := rv_fz (Lib.hid HO18.out.oo) 2
        clear ho hb hg hn
        refine hK.out _ _ ⟨(hS HO18.out).1, (hS HO18.out).2.1, (hS HO18.out).2.2⟩ (fun hHeld => ?_)
        clear hK K
        refine norm_ (a' := ?_) ?_ ?_
        rotate_left
        · show Act.put _ (some 65) _ = _
          simp only [Act.put, List.setIfInBounds_toArray, List.set_cons_zero, List.set_cons_succ, i64_w, i32_w]
          rfl
        refine pure_ (i := 9) (N := some 66) (v := ?_) (a' := ?_) #[true, true, true, true, true, true, true, true, true, true, false] rfl rfl (by kernel_rfl) (fun _ _ _ h => h) (Or.inl ⟨by rfl, ?_⟩) ?_ ?_
        rotate_left
        · intro w'
          go_simp
          with_reducible rfl
        rotate_left
        · simp only [Act.put, List.setIfInBounds_toArray, List.set_cons_zero, List.set_cons_succ, i64_w, i32_w]
          rfl
        refine last_ (i := 10) (N := none) #[true, true, true, true, true, true, true, true, true, true, true] rfl rfl (by kernel_rfl) (by decide) (fun K hK => ?_)
        refine skip_ (w1 := ?_) (by rfl) rfl ?_ ?_
        rotate_left
        · go_simp
          rfl
        refine hK.out _ _ ?_
        clear hK K
        refine done_ (by kernel_rfl) ?_
        clear hHeld hS HO1d HO17 HL7
        have HO2 := Lib.hid (HO18.out.set 2 (.slice Ay my ky) (r2 := ⟨sz, ⟨Ax, mx, kx⟩, ⟨Ay, my, ky⟩, oz, dn, bu⟩) rfl hDO hZO hgO)
        generalize (w8.setCell ⟨O, 2, none⟩ (.slice Ay my ky)) = w2 at *
        clear HO18 c9 f9
        have c18 : w2.cell? ⟨O, 3, none⟩ = some (.slice oz.p oz.n oz.c) := (rv_cells (Lib.hid HO2.out.oo)).2.2.2.1
        go_wp2_with (first
          | (at_builtin; refine Kd.R_append Kd.bool (w0 := w) w.heap.size rfl (.tmp 68) (.tmp 69) 47 4 (.bool false) 1 rfl Tryd.underlying47 infoL rfl (by decide) (by decide) oz.v (List.replicate (got d.F d.S mask k).length true) true [.bool true] (fun _ => True) (fun _ => False) rfl rfl rfl (fun _ h => h.elim) (fun _ _ => trivial) HO2.out.z HO2.out.bel HO2.out.bel.size ?aL ?_; (case aL => (simp; omega)); intro v8 w8 ho hb hg hn; obtain ⟨Az, mz, kz, rfl⟩ := r_sl ho; have HO8 := Lib.hid (HO2.out.growZ hg hb ho); have c9 := (rv_cells (Lib.hid HO8.out.oo)).2.2.2.1; have f9 := rv_fz (Lib.hid HO8.out.oo) 3; clear ho hb hg hn))
        have HO9 := Lib.hid (HO8.out.set 3 (.slice Az mz kz) (r2 := ⟨sz, ⟨Ax, mx, kx⟩, ⟨Ay, my, ky⟩, ⟨Az, mz, kz⟩, dn, bu⟩) rfl hDO hZO hgO)
        go_roundg k1
        case measure => exact Nat.lt_succ_self _
        case rel => exact ⟨k + 1, _, _, _, by rw [hcnt], by simp, by omega, Lib.hid (by rw [HGo.out]; simpa [List.replicate_succ', Sl.v] using HO9.out)⟩
      · rw [decide_eq_false hf] at hcz
        have hgs := got_soft d.F d.S mask k hf x HXk.out
        obtain ⟨c, hc⟩ : ∃ c, k - d.F.length = c := ⟨_, rfl⟩
        have hc1 : k + 1 - d.F.length = c + 1 := by omega
        rw [hc] at hgs ⊢
        obtain ⟨m, hm64⟩ : ∃ m, c % 64 = m := ⟨_, rfl⟩
        have hck : c ≤ k := by omega
        have q6 : ((c : Nat) : Int).tmod 64 = (m : Int) := by rw [Int.tmod_eq_emod_of_nonneg (by omega)]; omega
        have q7 : IntKind.i64.wrap ((c : Int) + 1) = ((c + 1 : Nat) : Int) := by rw [IntWalk.i64_in _ (by omega)]; omega
        have HM64 := Lib.hid hm64
        have HGs := Lib.hid hgs
        have HHf := Lib.hid hf
        have hmlt : m < 64 := by omega
        clear hc hm64 hgs hf
        go_wp2_with fail
        go_loopg [9, 10] m (fun kq2 v0 v1 wr2 => ∃ j : Nat, v0 = .int .u64 ((mask / 2 ^ j : Nat) : Int) ∧ v1 = .int .i64 (j : Int) ∧ kq2 + j = m ∧ wr2 = wr)
        case atStart => exact ⟨0, by simp, rfl, by omega, rfl⟩
        case round =>
          obtain ⟨j, rfl, rfl, hj, rfl⟩ := hrel
          cases gk with
          | zero =>
            have hjm : j = m := by omega
            have c6 : decide ((j : Int) < (m : Int)) = false := decide_eq_false (by omega)
            have c6' : decide (j < m) = false := decide_eq_false (by omega)
            have hbit : (mask / 2 ^ j % 2 == 1) = bit mask c := by unfold bit; rw [HM64.out, hjm]
            obtain ⟨y, hy⟩ : ∃ y, mask / 2 ^ j = y := ⟨_, rfl⟩
            rw [hy] at hbit ⊢
            have q8 : ((y : Nat) : Int).tmod 2 = ((y % 2 : Nat) : Int) := by rw [Int.tmod_eq_emod_of_nonneg (by omega)]; omega
            have q9 : (((y % 2 : Nat) : Int) == 1) = (y % 2 == 1) := by
              by_cases e : y % 2 = 1
              · rw [e]; rfl
              · rw [beq_eq_false_iff_ne.2 e, beq_eq_false_iff_ne.2 (by omega)]
            rw [hbit] at q9
            obtain ⟨y2, hy2⟩ : ∃ y2, y % 2 = y2 := ⟨_, rfl⟩
            rw [hy2] at q8 q9
            clear hbit hy hjm hj hy2
            cases hb : bit mask c with
            | true =>
              have HGo := Lib.hid (show got d.F d.S mask (k + 1) = got d.F d.S mask k ++ [x] by rw [HGs.out, if_pos hb])
              rw [hb] at q9
              clear hb
              go_upto_region 16 with fail
              clear hcz c1 c3
              have HO0d := Lib.hid (HO0.out.on (Below.refl _ _).drew)
              have hS := fun {w' : World} {vx vy vz : Value} {X : List Int} {Y : List Pg} {B : List Bool} (o : Ou w w' D Z O rr ⟨sz, ox, oy, oz, dn, bu⟩ vx vy vz X Y B) => (show w'.cell? ⟨O, 1, none⟩ = some (.slice ox.p ox.n ox.c) ∧ w'.cell? ⟨D, 1, none⟩ = some (.slice (some ⟨gx, 0, none⟩) n xc) ∧ w'.cell? ⟨gx, k, none⟩ = some (.int .i64 x.1) from ⟨(rv_cells (Lib.hid o.oo)).2.1, by rw [(rv_cells (Lib.hid o.dd)).2.1, HRr.out]; rfl, (o.bel.cell hgx).trans hcx⟩)
              refine start_ (n := 11) (S := fun w' => w'.cell? ⟨O, 1, none⟩ = some (.slice ox.p ox.n ox.c) ∧ w'.cell? ⟨D, 1, none⟩ = some (.slice (some ⟨gx, 0, none⟩) n xc) ∧ w'.cell? ⟨gx, k, none⟩ = some (.int .i64 x.1)) (ds := [10]) #[false, false, false, false, false, false, false, false, false, false, false] (by kernel_rfl) rfl rfl ⟨(hS HO0d.out).1, (hS HO0d.out).2.1, (hS HO0d.out).2.2⟩ (fun hHeld => ?_)
              refine pure_ (i := 0) (N := some 47) (v := ?_) (a' := ?_) #[true, false, false, false, false, false, false, false, false, false, false] rfl rfl (by kernel_rfl) (fun _ _ _ h => h) (Or.inl ⟨by rfl, ?_⟩) ?_ ?_
              rotate_left
              · intro w'
                go_simp
                with_reducible rfl
              rotate_left
              · simp only [Act.put, List.setIfInBounds_toArray, List.set_cons_zero, List.set_cons_succ, i64_w, i32_w]
                rfl
              refine pure_ (i := 2) (N := some 49) (v := ?_) (a' := ?_) #[true, false, true, false, false, false, false, false, false, false, false] rfl rfl (by kernel_rfl) (fun _ _ _ h => h) (Or.inl ⟨by rfl, ?_⟩) ?_ ?_
              rotate_left
              · intro w'
                go_simp
                with_reducible rfl
              rotate_left
              · simp only [Act.put, List.setIfInBounds_toArray, List.set_cons_zero, List.set_cons_succ, i64_w, i32_w]
                rfl
              refine pure_ (i := 4) (N := some 51) (v := ?_) (a' := ?_) #[true, false, true, false, true, false, false, false, false, false, false] rfl rfl (by kernel_rfl) (fun _ _ _ h => h) (Or.inl ⟨by rfl, ?_⟩) ?_ ?_
              rotate_left
              · intro w'
                go_simp
                with_reducible rfl
              rotate_left
              · simp only [Act.put, List.setIfInBounds_toArray, List.set_cons_zero, List.set_cons_succ, i64_w, i32_w]
                rfl
              refine take_ (i := 1) (N := some 48) (v := ?_) (a' := ?_) #[true, true, true, false, true, false, false, false, false, false, false] rfl rfl (by kernel_rfl) (fun _ _ _ h => h) (Or.inl ⟨by rfl, ?_⟩) hHeld ?_ ?_
              rotate_left
              · rintro w' ⟨s0, s1, s2⟩
                go_simp
                with_reducible rfl
              rotate_left
              · simp only [Act.put, List.setIfInBounds_toArray, List.set_cons_zero, List.set_cons_succ, i64_w, i32_w]
                rfl
              refine take_ (i := 3) (N := some 50) (v := ?_) (a' := ?_) #[true, true, true, true, true, false, false, false, false, false, false] rfl rfl (by kernel_rfl) (fun _ _ _ h => h) (Or.inl ⟨by rfl, ?_⟩) hHeld ?_ ?_
              rotate_left
              · rintro w' ⟨s0, s1, s2⟩
                go_simp
                with_reducible rfl
              rotate_left
              · simp only [Act.put, List.setIfInBounds_toArray, List.set_cons_zero, List.set_cons_succ, i64_w, i32_w]
                rfl
              refine pure_ (i := 5) (N := some 52) (v := ?_) (a' := ?_) #[true, true, true, true, true, true, false, false, false, false, false] rfl rfl (by kernel_rfl) (fun _ _ _ h => h) (Or.inl ⟨by rfl, ?_⟩) ?_ ?_
              rotate_left
              · intro w'
                go_simp
                with_reducible rfl
              rotate_left
              · simp only [Act.put, List.setIfInBounds_toArray, List.set_cons_zero, List.set_cons_succ, i64_w, i32_w]
                rfl
              refine take_ (i := 6) (N := some 53) (v := ?_) (a' := ?_) #[true, true, true, true, true, true, true, false, false, false, false] rfl rfl (by kernel_rfl) (fun _ _ _ h => h) (Or.inl ⟨by rfl, ?_⟩) hHeld ?_ ?_
              rotate_left
              · rintro w' ⟨s0, s1, s2⟩
                go_simp
                with_reducible rfl
              rotate_left
              · simp only [Act.put, List.setIfInBounds_toArray, List.set_cons_zero, List.set_cons_succ, i64_w, i32_w]
                rfl
              refine one_ (i := 7) (N := some 54) #[true, true, true, true, true, true, true, true, false, false, false] rfl rfl (by kernel_rfl) (by decide) (fun K hK => ?_)
              refine value_ (by rfl) rfl (exec_litI rfl rfl _) ?_
              have hd : Below (World.drew wr).heap.size (World.drew wr) (World.alloc (World.drew wr) (Obj.cells #[.int .i64 x.1] 3 (0, 0))) := (Below.refl _ _).alloc (Nat.le_refl _) _
              have HO07 := Lib.hid (HO0d.out.on hd)
              have HL7 := Lib.hid (heap_alloc_last (World.drew wr) (Obj.cells #[.int .i64 x.1] 3 (0, 0)))
              generalize (World.alloc (World.drew wr) (Obj.cells #[.int .i64 x.1] 3 (0, 0))) = z7 at *
              clear hd
              refine hK.out _ _ ⟨(hS HO07.out).1, (hS HO07.out).2.1, (hS HO07.out).2.2⟩ (fun hHeld => ?_)
              clear hK K
              refine norm_ (a' := ?_) ?_ ?_
              rotate_left
              · show Act.put _ (some 54) _ = _
                simp only [Act.put, List.setIfInBounds_toArray, List.set_cons_zero, List.set_cons_succ, i64_w, i32_w]
                rfl
              refine one_ (i := 8) (N := some 55) #[true, true, true, true, true, true, true, true, true, false, false] rfl rfl (by kernel_rfl) (by decide) (fun K hK => ?_)
              refine Kd.R_append_rows_step (Kd.int .i64) (w0 := w) w.heap.size (by rfl) (.tmp 48) (.tmp 54) 45 3 (.int .i64 0) 8 (by rfl) Tryd.underlying45 infoI rfl (by decide) (by decide) ox.v ((got d.F d.S mask k).map (fun x : Int × Pg => x.1)) [x.1] _ _ _ (fun _ => True) (fun _ => False) (by rfl) (by rfl) HO07.out.x (readsIk _ _ x.1 HL7.out) (fun _ _ h => h) (fun _ h => h.elim) (fun _ _ => trivial) HO07.out.bel HO07.out.bel.size (by simp; omega) ?_
              intro v8 w8 ho hb hg hn
              obtain ⟨Ax, mx, kx, rfl⟩ := r_sl ho
              have HO08 := Lib.hid (HO07.out.growX hg hb ho)
              have c9 := (rv_cells (Lib.hid HO08.out.oo)).2.1
              have f9 := rv_fz (Lib.hid HO08.out.oo) 1
              clear ho hb hg hn
              refine hK.out _ _ ⟨(hS HO08.out).1, (hS HO08.out).2.1, (hS HO08.out).2.2⟩ (fun hHeld => ?_)
              clear hK K
              refine norm_ (a' := ?_) ?_ ?_
              rotate_left
              · show Act.put _ (some 55) _ = _
                simp only [Act.put, List.setIfInBounds_toArray, List.set_cons_zero, List.set_cons_succ, i64_w, i32_w]
                rfl
              refine pure_ (i := 9) (N := some 56) (v := ?_) (a' := ?_) #[true, true, true, true, true, true, true, true, true, true, false] rfl rfl (by kernel_rfl) (fun _ _ _ h => h) (Or.inl ⟨by rfl, ?_⟩) ?_ ?_
              rotate_left
              · intro w'
                go_simp
                with_reducible rfl
              rotate_left
              · simp only [Act.put, List.setIfInBounds_toArray, List.set_cons_zero, List.set_cons_succ, i64_w, i32_w]
                rfl
              refine last_ (i := 10) (N := none) #[true, true, true, true, true, true, true, true, true, true, true] rfl rfl (by kernel_rfl) (by decide) (fun K hK => ?_)
              refine skip_ (w1 := ?_) (by rfl) rfl ?_ ?_
              rotate_left
              · go_simp
                rfl
              refine hK.out _ _ ?_
              clear hK K
              refine done_ (by kernel_rfl) ?_
              clear hHeld hS HO0d HO07 HL7
              have HO1 := Lib.hid (HO08.out.set 1 (.slice Ax mx kx) (r2 := ⟨sz, ⟨Ax, mx, kx⟩, oy, oz, dn, bu⟩) rfl hDO hZO hgO)
              generalize (w8.setCell ⟨O, 1, none⟩ (.slice Ax mx kx)) = w1 at *
              clear HO08 c9 f9
              go_upto_region 17 with fail
              have HO1d := Lib.hid (HO1.out.on (Below.refl _ _).drew)
              have hS := fun {w' : World} {vx vy vz : Value} {X : List Int} {Y : List Pg} {B : List Bool} (o : Ou w w' D Z O rr ⟨sz, ⟨Ax, mx, kx⟩, oy, oz, dn, bu⟩ vx vy vz X Y B) => (show w'.cell? ⟨O, 2, none⟩ = some (.slice oy.p oy.n oy.c) ∧ w'.cell? ⟨D, 2, none⟩ = some (.slice (some ⟨gy, 0, none⟩) n yc) ∧ w'.rangeAt gy (k * 64) (pcs x.2) from ⟨(rv_cells (Lib.hid o.oo)).2.2.1, by rw [(rv_cells (Lib.hid o.dd)).2.2.1, HRr.out]; rfl, range_on hcy o.bel hgy⟩)
              refine start_ (n := 11) (S := fun w' => w'.cell? ⟨O, 2, none⟩ = some (.slice oy.p oy.n oy.c) ∧ w'.cell? ⟨D, 2, none⟩ = some (.slice (some ⟨gy, 0, none⟩) n yc) ∧ w'.rangeAt gy (k * 64) (pcs x.2)) (ds := [10]) #[false, false, false, false, false, false, false, false, false, false, false] (by kernel_rfl) rfl rfl ⟨(hS HO1d.out).1, (hS HO1d.out).2.1, (hS HO1d.out).2.2⟩ (fun hHeld => ?_)
              refine pure_ (i := 0) (N := some 57) (v := ?_) (a' := ?_) #[true, false, false, false, false, false, false, false, false, false, false] rfl rfl (by kernel_rfl) (fun _ _ _ h => h) (Or.inl ⟨by rfl, ?_⟩) ?_ ?_
              rotate_left
              · intro w'
                go_simp
                with_reducible rfl
              rotate_left
              · simp only [Act.put, List.setIfInBounds_toArray, List.set_cons_zero, List.set_cons_succ, i64_w, i32_w]
                rfl
              refine pure_ (i := 2) (N := some 59) (v := ?_) (a' := ?_) #[true, false, true, false, false, false, false, false, false, false, false] rfl rfl (by kernel_rfl) (fun _ _ _ h => h) (Or.inl ⟨by rfl, ?_⟩) ?_ ?_
              rotate_left
              · intro w'
                go_simp
                with_reducible rfl
              rotate_left
              · simp only [Act.put, List.setIfInBounds_toArray, List.set_cons_zero, List.set_cons_succ, i64_w, i32_w]
                rfl
              refine pure_ (i := 4) (N := some 61) (v := ?_) (a' := ?_) #[true, false, true, false, true, false, false, false, false, false, false] rfl rfl (by kernel_rfl) (fun _ _ _ h => h) (Or.inl ⟨by rfl, ?_⟩) ?_ ?_
              rotate_left
              · intro w'
                go_simp
                with_reducible rfl
              rotate_left
              · simp only [Act.put, List.setIfInBounds_toArray, List.set_cons_zero, List.set_cons_succ, i64_w, i32_w]
                rfl
              refine take_ (i := 1) (N := some 58) (v := ?_) (a' := ?_) #[true, true, true, false, true, false, false, false, false, false, false] rfl rfl (by kernel_rfl) (fun _ _ _ h => h) (Or.inl ⟨by rfl, ?_⟩) hHeld ?_ ?_
              rotate_left
              · rintro w' ⟨s0, s1, s2⟩
                go_simp
                with_reducible rfl
              rotate_left
              · simp only [Act.put, List.setIfInBounds_toArray, List.set_cons_zero, List.set_cons_succ, i64_w, i32_w]
                rfl
              refine take_ (i := 3) (N := some 60) (v := ?_) (a' := ?_) #[true, true, true, true, true, false, false, false, false, false, false] rfl rfl (by kernel_rfl) (fun _ _ _ h => h) (Or.inl ⟨by rfl, ?_⟩) hHeld ?_ ?_
              rotate_left
              · rintro w' ⟨s0, s1, s2⟩
                go_simp
                with_reducible rfl
              rotate_left
              · simp only [Act.put, List.setIfInBounds_toArray, List.set_cons_zero, List.set_cons_succ, i64_w, i32_w]
                rfl
              refine pure_ (i := 5) (N := some 62) (v := ?_) (a' := ?_) #[true, true, true, true, true, true, false, false, false, false, false] rfl rfl (by kernel_rfl) (fun _ _ _ h => h) (Or.inl ⟨by rfl, ?_⟩) ?_ ?_
              rotate_left
              · intro w'
                go_simp
                with_reducible rfl
              rotate_left
              · simp only [Act.put, List.setIfInBounds_toArray, List.set_cons_zero, List.set_cons_succ, i64_w, i32_w]
                rfl
              refine take_ (i := 6) (N := some 63) (v := ?_) (a' := ?_) #[true, true, true, true, true, true, true, false, false, false, false] rfl rfl (by kernel_rfl) (fun _ _ _ h => h) (Or.inl ⟨by rfl, ?_⟩) hHeld ?_ ?_
              rotate_left
              · rintro w' ⟨s0, s1, s2⟩
                refine exec_loadPB (x := .tmp 62) ?_ ?_  s2
                · rfl
                · rfl
              rotate_left
              · simp only [Act.put, List.setIfInBounds_toArray, List.set_cons_zero, List.set_cons_succ, i64_w, i32_w]
                rfl
              refine one_ (i := 7) (N := some 64) #[true, true, true, true, true, true, true, true, false, false, false] rfl rfl (by kernel_rfl) (by decide) (fun K hK => ?_)
              refine value_ (by rfl) rfl (exec_litP rfl rfl _) ?_
              have hd : Below (World.drew w1).heap.size (World.drew w1) (World.alloc (World.drew w1) (Obj.cells (pa x.2) 29 (0, 0))) := (Below.refl _ _).alloc (Nat.le_refl _) _
              have HO17 := Lib.hid (HO1d.out.on hd)
              have HL7 := Lib.hid (heap_alloc_last (World.drew w1) (Obj.cells (pa x.2) 29 (0, 0)))
              generalize (World.alloc (World.drew w1) (Obj.cells (pa x.2) 29 (0, 0))) = z7 at *
              clear hd
              refine hK.out _ _ ⟨(hS HO17.out).1, (hS HO17.out).2.1, (hS HO17.out).2.2⟩ (fun hHeld => ?_)
              clear hK K
              refine norm_ (a' := ?_) ?_ ?_
              rotate_left
              · show Act.put _ (some 64) _ = _
                simp only [Act.put, List.setIfInBounds_toArray, List.set_cons_zero, List.set_cons_succ, i64_w, i32_w]
                rfl
              refine one_ (i := 8) (N := some 65) #[true, true, true, true, true, true, true, true, true, false, false] rfl rfl (by kernel_rfl) (by decide) (fun K hK => ?_)
              refine Kd.R_append_rows_step pk (w0 := w) w.heap.size (by rfl) (.tmp 58) (.tmp 64) 46 29 (pv pz) 64 (by rfl) Tryd.underlying46 infoB rfl (by decide) (by decide) oy.v ((got d.F d.S mask k).map (fun x : Int × Pg => x.2)) [x.2] _ _ _ (fun _ => True) (fun _ => False) (by rfl) (by rfl) HO17.out.y (readsBk _ _ x.2 HL7.out) (fun _ _ h => h) (fun _ h => h.elim) (fun _ _ => trivial) HO17.out.bel HO17.out.bel.size (by simp; omega) ?_
              intro v8 w8 ho hb hg hn
              obtain ⟨Ay, my, ky, rfl⟩ := r_sl ho
              have HO18 := Lib.hid (HO17.out.growY hg hb ho)
              have c9 := (rv_cells (Lib.hid HO18.out.oo)).2.2.1
              have f9 := rv_fz (Lib.hid HO18.out.oo) 2
              clear ho hb hg hn
              refine hK.out _ _ ⟨(hS HO18.out).1, (hS HO18.out).2.1, (hS HO18.out).2.2⟩ (fun hHeld => ?_)
              clear hK K
              refine norm_ (a' := ?_) ?_ ?_
              rotate_left
              · show Act.put _ (some 65) _ = _
                simp only [Act.put, List.setIfInBounds_toArray, List.set_cons_zero, List.set_cons_succ, i64_w, i32_w]
                rfl
              refine pure_ (i := 9) (N := some 66) (v := ?_) (a' := ?_) #[true, true, true, true, true, true, true, true, true, true, false] rfl rfl (by kernel_rfl) (fun _ _ _ h => h) (Or.inl ⟨by rfl, ?_⟩) ?_ ?_
              rotate_left
              · intro w'
                go_simp
                with_reducible rfl
              rotate_left
              · simp only [Act.put, List.setIfInBounds_toArray, List.set_cons_zero, List.set_cons_succ, i64_w, i32_w]
                rfl
              refine last_ (i := 10) (N := none) #[true, true, true, true, true, true, true, true, true, true, true] rfl rfl (by kernel_rfl) (by decide) (fun K hK => ?_)
              refine skip_ (w1 := ?_) (by rfl) rfl ?_ ?_
              rotate_left
              · go_simp
                rfl
              refine hK.out _ _ ?_
              clear hK K
              refine done_ (by kernel_rfl) ?_
              clear hHeld hS HO1d HO17 HL7
              have HO2 := Lib.hid (HO18.out.set 2 (.slice Ay my ky) (r2 := ⟨sz, ⟨Ax, mx, kx⟩, ⟨Ay, my, ky⟩, oz, dn, bu⟩) rfl hDO hZO hgO)
              generalize (w8.setCell ⟨O, 2, none⟩ (.slice Ay my ky)) = w2 at *
              clear HO18 c9 f9
              have c18 : w2.cell? ⟨O, 3, none⟩ = some (.slice oz.p oz.n oz.c) := (rv_cells (Lib.hid HO2.out.oo)).2.2.2.1
              go_wp2_with (first
                | (at_builtin; refine Kd.R_append Kd.bool (w0 := w) w.heap.size rfl (.tmp 68) (.tmp 69) 47 4 (.bool false) 1 rfl Tryd.underlying47 infoL rfl (by decide) (by decide) oz.v (List.replicate (got d.F d.S mask k).length true) true [.bool true] (fun _ => True) (fun _ => False) rfl rfl rfl (fun _ h => h.elim) (fun _ _ => trivial) HO2.out.z HO2.out.bel HO2.out.bel.size ?aL ?_; (case aL => (simp; omega)); intro v8 w8 ho hb hg hn; obtain ⟨Az, mz, kz, rfl⟩ := r_sl ho; have HO8 := Lib.hid (HO2.out.growZ hg hb ho); have c9 := (rv_cells (Lib.hid HO8.out.oo)).2.2.2.1; have f9 := rv_fz (Lib.hid HO8.out.oo) 3; clear ho hb hg hn))
              have HO9 := Lib.hid (HO8.out.set 3 (.slice Az mz kz) (r2 := ⟨sz, ⟨Ax, mx, kx⟩, ⟨Ay, my, ky⟩, ⟨Az, mz, kz⟩, dn, bu⟩) rfl hDO hZO hgO)
              go_roundg k1
              case measure => exact Nat.lt_succ_self _
              case rel => exact ⟨k + 1, _, _, _, by rw [hc1]; first | rfl | (simp; done), by simp, by omega, Lib.hid (by rw [HGo.out]; simpa [List.replicate_succ', Sl.v] using HO9.out)⟩
            | false =>
              have HGo := Lib.hid (show got d.F d.S mask (k + 1) = got d.F d.S mask k by rw [HGs.out, if_neg (by rw [hb]; simp), List.append_nil])
              rw [hb] at q9
              clear hb
              go_wp2_with fail
              go_roundg k1
              case measure => exact Nat.lt_succ_self _
              case rel => exact ⟨k + 1, _, _, _, by rw [hc1]; first | rfl | (simp; done), by simp, by omega, Lib.hid (by rw [HGo.out]; exact HO0.out)⟩
          | succ k2 =>
            have c6 : decide ((j : Int) < (m : Int)) = true := decide_eq_true (by omega)
            have c6' : decide (j < m) = true := decide_eq_true (by omega)
            have q8 : IntKind.i64.wrap ((j : Int) + 1) = (j : Int) + 1 := IntWalk.i64_in _ (by omega)
            have hy2 : mask / 2 ^ j / 2 = mask / 2 ^ (j + 1) := by rw [Nat.div_div_eq_div_mul, Nat.pow_succ]
            have hyl : mask / 2 ^ (j + 1) < 2 ^ 64 := Nat.lt_of_le_of_lt (Nat.div_le_self _ _) hm
            obtain ⟨y, hy⟩ : ∃ y, mask / 2 ^ j = y := ⟨_, rfl⟩
            rw [hy] at hy2 ⊢
            obtain ⟨z, hz⟩ : ∃ z, mask / 2 ^ (j + 1) = z := ⟨_, rfl⟩
            rw [hz] at hy2 hyl
            have HZe := Lib.hid hz
            have q9 : ((y : Nat) : Int).tdiv 2 = (z : Int) := by rw [Int.tdiv_eq_ediv_of_nonneg (by omega)]; omega
            have q10 : IntKind.u64.wrap (z : Int) = (z : Int) := by rw [IntKind.wrap_u64]; omega
            clear hy hz hy2
            go_wp2_with fail
            go_roundg k2
            case measure => exact Nat.lt_succ_self _
            case rel => exact ⟨j + 1, by rw [HZe.out], by simp, by omega, rfl⟩
end Go.Proofs.YtoanhafbofphgaaDoor.Rfd
