/- The document's Read of a disk. -/
import Derived.Test.YtoanhafbofphgaaDoorRefD0
set_option linter.unusedVariables false
set_option linter.unusedSimpArgs false
namespace Go.Proofs.YtoanhafbofphgaaDoor.Rfd
open Go.RowKit Go.Proofs.YtoanhafbofphgaaDoorW.PrintWords Go.Proofs.YtoanhafbofphgaaDoorW.PrintLast Go.Proofs.YtoanhafbofphgaaDoorW.PrintMore Go.Proofs.YtoanhafbofphgaaDoor.Md Go.Proofs.YtoanhafbofphgaaDoor.Dk
open Go.Extern.Stop (cell)
open Go.Proofs.YtoanhafbofphgaaDoor.Err (Laid IsErr code_nil Chain at_some at_nil)
theorem alloc3 (w : World) (o1 o2 o3 : Obj) : (((w.alloc o1).alloc o2).alloc o3).heap[w.heap.size]? = some o1 ∧ (((w.alloc o1).alloc o2).alloc o3).heap[w.heap.size + 1]? = some o2 ∧ (((w.alloc o1).alloc o2).alloc o3).heap[w.heap.size + 1 + 1]? = some o3 := by
  have s1 : (w.alloc o1).heap.size = w.heap.size + 1 := by simp
  have s2 : ((w.alloc o1).alloc o2).heap.size = w.heap.size + 1 + 1 := by simp
  have b2 : Below (w.alloc o1).heap.size (w.alloc o1) ((w.alloc o1).alloc o2) := (Below.refl _ _).alloc (Nat.le_refl _) _
  have b3 : Below ((w.alloc o1).alloc o2).heap.size ((w.alloc o1).alloc o2) (((w.alloc o1).alloc o2).alloc o3) := (Below.refl _ _).alloc (Nat.le_refl _) _
  have h1 := Go.Deep.blk_alloc_new w o1
  have h2 := Go.Deep.blk_alloc_new (w.alloc o1) o2
  have h3 := Go.Deep.blk_alloc_new ((w.alloc o1).alloc o2) o3
  rw [s1] at h2
  rw [s2] at h3
  exact ⟨(b3.block _ (by omega)).trans ((b2.block _ (by omega)).trans h1), (b3.block _ (by omega)).trans h2, h3⟩
theorem below3 (w : World) (o1 o2 o3 : Obj) : Below w.heap.size w (((w.alloc o1).alloc o2).alloc o3) := (((Below.refl _ _).alloc (Nat.le_refl _) _).alloc (by simp) _).alloc (by simp; omega) _
theorem run_loadVarB (w : World) (b : Nat) (p : Pg) (h : w.heap[b]? = some (Obj.cells (pa p) 29 (0, 0))) : (loadVar 29 ⟨b, 0, none⟩).run Tryd.prog w = .ok (pv p) w :=
  run_loadVar_row w b 29 29 (pa p) (0, 0) _ h Tryd.underlying29 rfl (by rw [sizeB, pa_size])
theorem rread_results (tmps : Array Value) (W : World) (b : Nat) (p : Pg) (h4 : tmps.getD 4 undef = .pointer (some ⟨b, 0, none⟩)) (h : W.heap[b]? = some (Obj.cells (pa p) 29 (0, 0))) : (results Tryd.f21 tmps).run Tryd.prog W = .ok (pv p) W := by
  have hl := run_loadVarB W b p h
  have h4' : tmps[4]?.getD undef = .pointer (some ⟨b, 0, none⟩) := by simpa using h4
  simp [results, Tryd.results21, asAddr, h4', hl]
set_option maxHeartbeats 4000000 in
set_option maxRecDepth 100000 in
theorem rread_c (r : RV) (d : RD) (i : Int) (w : World) (h : Hid (IsR w r d)) (hl : d.L.length ≤ 1000) : Calls Tryd.prog 21 #[.agg r.a, .int .i64 i] w fun e w' => e = .returned (pv (rdl d.L i)) ∧ Below w.heap.size w w' := by
  obtain ⟨n, hn⟩ : ∃ n, d.L.length = n := ⟨_, rfl⟩
  have hnx := h.out.nx
  have hny := h.out.ny
  obtain ⟨sz, ⟨xp, xn, xc⟩, ⟨yp, yn, yc⟩, zz, dn, bu⟩ := r
  simp only at hnx hny
  rw [hn] at hnx hny hl
  subst xn
  subst yn
  obtain ⟨rr, hrr⟩ : ∃ rr : RV, rr = ⟨sz, ⟨xp, n, xc⟩, ⟨yp, n, yc⟩, zz, dn, bu⟩ := ⟨_, rfl⟩
  rw [← hrr] at h ⊢
  have HRr := Lib.hid hrr
  have HNn := Lib.hid hn
  clear hn hrr
  go_enter Tryd.func21, Tryd.ntmps21
  go_wp2_with (first | (refine wl_allocB rfl rfl ?_))
  obtain ⟨g1, g2, g3⟩ := alloc3 w (Obj.cells rr.a 49 (0, 0)) (Obj.cells (pa pz) 29 (0, 0)) (Obj.cells (pa pz) 29 (0, 0))
  have hb3 := below3 w (Obj.cells rr.a 49 (0, 0)) (Obj.cells (pa pz) 29 (0, 0)) (Obj.cells (pa pz) 29 (0, 0))
  (try rw [show (w.alloc (Obj.cells rr.a 49 (0, 0))).heap.size = w.heap.size + 1 by simp])
  (try rw [show ((w.alloc (Obj.cells rr.a 49 (0, 0))).alloc (Obj.cells (pa pz) 29 (0, 0))).heap.size = w.heap.size + 1 + 1 by simp])
  obtain ⟨D, hD⟩ : ∃ D, w.heap.size = D := ⟨_, rfl⟩
  obtain ⟨Z, hZ⟩ : ∃ Z, w.heap.size + 1 = Z := ⟨_, rfl⟩
  obtain ⟨O, hO⟩ : ∃ O, w.heap.size + 1 + 1 = O := ⟨_, rfl⟩
  rw [hZ] at g2
  rw [hO] at g3
  have HP1 := Lib.hid g2
  have HQ1 := Lib.hid g3
  have HD1 := Lib.hid (show (((w.alloc (Obj.cells rr.a 49 (0, 0))).alloc (Obj.cells (pa pz) 29 (0, 0))).alloc (Obj.cells (pa pz) 29 (0, 0))).heap[D]? = some (Obj.cells rr.a 49 (0, 0)) by rw [← hD]; exact g1)
  have HB1 := Lib.hid hb3
  have hne1 : ¬ Z = O := by omega
  have hne2 : ¬ D = O := by omega
  have hgZ : w.heap.size ≤ Z := by omega
  have hgO : w.heap.size ≤ O := by omega
  (try rw [hO])
  (try rw [hZ])
  (try simp only [hO])
  (try simp only [hZ])
  (try simp only [hD])
  generalize (((w.alloc (Obj.cells rr.a 49 (0, 0))).alloc (Obj.cells (pa pz) 29 (0, 0))).alloc (Obj.cells (pa pz) 29 (0, 0))) = w1 at *
  clear g1 g2 g3 hb3 hO hZ hD
  go_loopg [6] n (fun kq v0 wr => ∃ k : Nat, v0 = .int .i64 (k : Int) ∧ kq + k = n ∧ Hid (Below w.heap.size w wr) ∧ Hid (wr.heap[D]? = some (Obj.cells rr.a 49 (0, 0))) ∧ Hid (wr.heap[Z]? = some (Obj.cells (pa pz) 29 (0, 0))) ∧ Hid (wr.heap[O]? = some (Obj.cells (pa (rdl (d.L.take k) i)) 29 (0, 0))))
  case atStart => exact ⟨0, rfl, by omega, HB1, HD1, HP1, HQ1⟩
  case round =>
    clear HB1 HP1 HQ1 HD1
    obtain ⟨k, rfl, hk, HB, HD, HP, HQ⟩ := hrel
    have hra : rr.a = #[.int .i64 sz, .slice xp n xc, .slice yp n yc, .slice zz.p zz.n zz.c, .bool dn, .int .i64 bu] := by rw [HRr.out]; rfl
    have c1 : wr.cell? ⟨D, 1, none⟩ = some (.slice xp n xc) := by have := Err.cell_of_blk HD.out 1; rw [hra] at this; exact this
    have c2 : wr.cell? ⟨D, 2, none⟩ = some (.slice yp n yc) := by have := Err.cell_of_blk HD.out 2; rw [hra] at this; exact this
    clear hra
    cases gk with
    | zero =>
      have hkn : k = n := by omega
      have c5 : decide ((k : Int) < (n : Int)) = false := decide_eq_false (by omega)
      have c5' : decide (k < n) = false := decide_eq_false (by omega)
      obtain ⟨out, hout⟩ : ∃ out, rdl d.L i = out := ⟨_, rfl⟩
      have HQ2 := Lib.hid (show wr.heap[O]? = some (Obj.cells (pa out) 29 (0, 0)) by
        have := HQ.out
        rw [hkn, ← HNn.out, List.take_length] at this
        rw [← hout]; exact this)
      have HOut := Lib.hid hout
      clear hk hkn hout
      go_wp2_with (first | (refine wl_loadPB O 0 out (range_row _ _ _ HQ2.out) rfl _ rfl rfl ?_) | (refine wl_storeB Z pz out HP.out rfl _ _ rfl rfl rfl ?_))
      (try simp only [Exit.inBlock, Exit.then])
      refine bodyPost_ret (v := pv out) ?_ rfl ?_
      · exact rread_results _ _ Z out rfl (rowB _ _ pz _ HP.out)
      exact ⟨by rw [HOut.out], HB.out.trans ((mod_row wr Z (pa out)).below HB.out.size (fun i hi (e : i = Z) => by omega))⟩
    | succ k1 =>
      have hkn : k < n := by omega
      have hkl : k < d.L.length := by have := HNn.out; omega
      have c5 : decide ((k : Int) < (n : Int)) = true := decide_eq_true (by omega)
      have c5' : decide (k < n) = true := decide_eq_true (by omega)
      have q5 : IntKind.i64.wrap ((k : Int) + 1) = (k : Int) + 1 := IntWalk.i64_in _ (by omega)
      have p1 : (0 ≤ (k : Int)) = True := eq_true (by omega)
      have p2 : ((k : Int) < (n : Int)) = True := eq_true (by omega)
      have hI := h.out.on HB.out
      have hIx := hI.x
      have hIy := hI.y
      rw [show rr.x.v = .slice xp n xc by rw [HRr.out]; rfl] at hIx
      rw [show rr.y.v = .slice yp n yc by rw [HRr.out]; rfl] at hIy
      obtain ⟨gx, ex, hx⟩ := int_at hIx k (by rw [List.length_map]; exact hkl)
      obtain ⟨gy, ey, hy⟩ := page_at hIy k (by rw [List.length_map]; exact hkl)
      rw [List.getElem_map] at hx hy
      have hfold : rdl (d.L.take (k + 1)) i = if (d.L[k]).1 = i then (d.L[k]).2 else rdl (d.L.take k) i := by
        rw [List.take_succ_eq_append_getElem hkl, rdl_snoc]
      obtain ⟨x, hxe⟩ : ∃ x, d.L[k] = x := ⟨_, rfl⟩
      rw [hxe] at hx hy hfold
      have HY := Lib.hid hy
      have HFo := Lib.hid hfold
      obtain ⟨out, hout⟩ : ∃ out, rdl (d.L.take k) i = out := ⟨_, rfl⟩
      rw [hout] at HQ HFo
      rw [ex] at c1
      rw [ey] at c2
      clear hI hIx hIy hy hxe hfold hout
      (try simp only [ex])
      by_cases hx1 : x.1 = i
      · have e1 : (x.1 == i) = true := beq_iff_eq.2 hx1
        rw [if_pos hx1] at HFo
        clear hx1
        go_wp2_with (first | (refine wl_loadPB gy (k * 64) x.2 HY.out rfl _ rfl rfl ?_) | (refine wl_storeB O out x.2 HQ.out rfl _ _ rfl rfl rfl ?_))
        have hM := mod_row wr O (pa x.2)
        have HB9 := Lib.hid (HB.out.trans (hM.below HB.out.size (fun i hi (e : i = O) => by omega)))
        have HP9 := Lib.hid (hM.blk HP.out hne1)
        have HD9 := Lib.hid (hM.blk HD.out hne2)
        have HQ9 := Lib.hid (rowB _ _ out x.2 HQ.out)
        clear hM c1 c2 hx
        generalize wr.setRow O (pa x.2) = wx at HB9 HP9 HQ9 HD9 ⊢
        go_roundg k1
        case measure => exact Nat.lt_succ_self _
        case rel => exact ⟨k + 1, by simp, by omega, HB9, HD9, HP9, Lib.hid (by rw [HFo.out]; exact HQ9.out)⟩
      · have e1 : (x.1 == i) = false := beq_eq_false_iff_ne.2 hx1
        rw [if_neg hx1] at HFo
        clear hx1
        go_wp2_with fail
        go_roundg k1
        case measure => exact Nat.lt_succ_self _
        case rel => exact ⟨k + 1, by simp, by omega, HB, HD, HP, Lib.hid (by rw [HFo.out]; exact HQ.out)⟩
end Go.Proofs.YtoanhafbofphgaaDoor.Rfd
