/- The document's sectors of a text: the walk. -/
import Derived.Test.YtkkikhbenhkfcaaDoorBlobPlays0
set_option linter.unusedVariables false
set_option linter.unusedSimpArgs false
namespace Go.Proofs.YtkkikhbenhkfcaaDoor.Blb
open Go.Proofs.YtkkikhbenhkfcaaDoor.AdM (sum)
open Go.RowKit Go.Proofs.YtkkikhbenhkfcaaDoor.QBlobBack Go.Proofs.YtkkikhbenhkfcaaDoorW.PrintWords Go.Proofs.YtkkikhbenhkfcaaDoorW.PrintLast Go.Proofs.YtkkikhbenhkfcaaDoorW.PrintMore Go.Proofs.YtkkikhbenhkfcaaDoor.CdM Go.Proofs.YtkkikhbenhkfcaaDoor.Md Go.Proofs.YtkkikhbenhkfcaaDoor.Dk
open Go.Extern.Stop (cell)
theorem reps1 (W : World) (base : Nat) (p : Pg) : Reps (pk.M W base (fun _ => False)) pk.sz [p] (pcs p) := by
  have h := Reps.snoc (Reps.none (pk.M W base (fun _ => False)) pk.sz) (p := p) (c := pcs p) rfl (pcs_length p)
  simpa using h
theorem litB0 (W : World) : (Instr.buildSlice 33 1 #[(0, pv pz)]).run Tryd.prog W = .ok (.slice (some ⟨W.heap.size, 0, none⟩) 1 1) (W.alloc (.cells (pa pz) 38 (0, 0))) := by kernel_rfl
theorem litB {a : Operand → Value} {o : Oper} {x : Operand} (ho : o.op = .buildSlice 33 1 #[(0, x)]) (hx : a x = pv pz) (W : World) : (execOp a o).run Tryd.prog W = .ok (.value (.slice (some ⟨W.heap.size, 0, none⟩) 1 1)) (W.alloc (.cells (pa pz) 38 (0, 0))) := by
  have h2 := litB0 W
  unfold execOp
  simp only [ho]
  have e : (#[((0 : Nat), x)] : Array (Nat × Operand)).map (fun (y : Nat × Operand) => (y.1, a y.2)) = #[(0, pv pz)] := by simp [hx]
  show (Sem.run _ (do let v ← Instr.buildSlice _ 1 (Array.map _ _); _) _) = _
  rw [e, Sem.run_bind, h2]
  rfl
theorem readsB (w : World) (p : Pg) : ReadsRow (fun (x : Pg) cs => cs = pcs x) pk.sz (w.alloc (.cells (pa p) 38 (0, 0))) (some ⟨w.heap.size, 0, none⟩) 1 [p] := by
  refine ⟨rfl, by decide, fun _ => ⟨_, rfl, fun j y hj => ?_⟩⟩
  have h0 : j = 0 ∧ y = p := by
    rcases j with _ | j
    · simp at hj; exact ⟨rfl, hj.symm⟩
    · simp at hj
  obtain ⟨rfl, rfl⟩ := h0
  refine ⟨pcs y, pcs_length y, rfl, fun i u hu => ?_⟩
  show (w.alloc (.cells (pa y) 38 (0, 0))).cell? _ = some u
  rw [Addr.add_mid, cell_of_row _ _ _ _ _ _ (heap_alloc_last w _), ← hu, ← pa_list, Array.getElem?_toList]
  simp
theorem row_cells {W : World} {base g cap n : Nat} {ok : Nat → Prop} {xs : List Pg} (h : Kd.R pk 38 W base ok (.slice (some ⟨g, 0, none⟩) n cap) xs) (m : Nat) (hm : m < xs.length) (x : Pg) (hx : xs[m]? = some x) : W.rangeAt g (m * 64) (pcs x) := by
  obtain ⟨_, _, hC⟩ := Kd.R_reads' h
  obtain ⟨_, _, h3⟩ := hC
  obtain ⟨ad, e, hc⟩ := h3 (by omega)
  injection e with e
  subst e
  obtain ⟨c, _, hK, hcell⟩ := hc m x hx
  have hK' : c = pcs x := hK
  intro j u hu
  have := hcell j u (by rw [hK']; exact hu)
  rw [Addr.add_mid] at this
  have e : 0 + (m * pk.sz + j) = m * 64 + j := by show 0 + (m * 64 + j) = _; omega
  rw [e] at this
  exact this
theorem page_step {w5 : World} {base g cap n0 : Nat} (s : ByteArray) (i m j : Nat) (h : i < s.size) (hm : m = i / 64) (hj : j = i % 64) (HO : Kd.R pk 38 w5 base (fun _ => True) (.slice (some ⟨g, 0, none⟩) n0 cap) (ps0 s i)) :
    Kd.R pk 38 (w5.setCell ⟨g, m * 64 + j, none⟩ (.int .u8 ((s[i]'h).toNat : Int))).drew base (fun _ => True) (.slice (some ⟨g, 0, none⟩) n0 cap) (ps s (i + 1)) := by
  have hp0 := ps0_length s i
  obtain ⟨hn, _, _⟩ := Kd.R_reads' HO
  have hrow := row_cells HO m (by omega) _ (by rw [hm]; exact ps0_get s i (i / 64) (by omega) (Nat.le_refl _))
  have hpc := pcs_length (pgOf (s.extract 0 i) (i / 64))
  have hseg := (Kd.R_seg (d := pk) (okp := fun _ => False) HO (m : Int) (by omega) (by omega) (c := pcs (pgOf (s.extract 0 i) (i / 64))) (seg := [.int .u8 ((s[i]'h).toNat : Int)]) (j := j) (by rw [hpc]; rfl) (fun j2 u hu => by rw [Int.toNat_natCast]; exact hrow j2 u hu) (by show j + 1 ≤ 64; omega) (x' := pset (pgOf (s.extract 0 i) (i / 64)) (i % 64) (s[i]'h)) (by
    show _ = pcs _
    unfold pcs pset
    rw [List.map_set]
    have hl : (List.map cell (pgOf (s.extract 0 i) (i / 64)).1).length = 64 := by rw [List.length_map]; exact (pgOf (s.extract 0 i) (i / 64)).2
    rw [List.set_eq_take_append_cons_drop, if_pos (by rw [hl]; omega), hj]
    show _ ++ [_] ++ _ = _
    rw [List.append_assoc]
    rfl) (fun _ h => h.elim)).1
  rw [Int.toNat_natCast] at hseg
  have e : (ps0 s i).set m (pset (pgOf (s.extract 0 i) (i / 64)) (i % 64) (s[i]'h)) = ps s (i + 1) := by rw [hm]; exact ps_next s i h
  rw [e] at hseg
  have hd := Kd.R_below hseg (Below.refl _ _).drew
  exact hd
set_option maxHeartbeats 8000000 in
set_option maxRecDepth 100000 in
theorem refpages_c (s : ByteArray) (hs : s.size ≤ 20000) (w : World) : Calls Tryd.prog 10 #[.string s] w fun ev w' => ∃ v, ev = .returned v ∧ Below w.heap.size w w' ∧ Kd.R pk 38 w' w.heap.size (fun _ => True) v (ps s s.size) := by
  go_enter Tryd.func10, Tryd.ntmps10
  go_wp2_with fail
  have HN := Lib.hid (Kd.R_nil pk 38 w w.heap.size (fun _ => True))
  go_loopg [3, 4] s.size (fun kq v0 v1 wr => ∃ (i : Nat), v1 = .int .i64 (i : Int) ∧ kq + i = s.size ∧ Hid (Kd.R pk 38 wr w.heap.size (fun _ => True) v0 (ps s i)) ∧ Hid (Below w.heap.size w wr))
  case atStart => exact ⟨0, rfl, by omega, HN, Lib.hid (Below.refl _ _)⟩
  case round =>
    clear HN
    obtain ⟨i, rfl, hk, HO, HB⟩ := hrel
    cases gk with
    | zero =>
      have c1 : decide ((i : Int) < (s.size : Int)) = false := decide_eq_false (by omega)
      have c1' : decide (i < s.size) = false := decide_eq_false (by omega)
      have hi : i = s.size := by omega
      have HI := Lib.hid hi
      clear hi hk
      go_wp2_with fail
      go_ret
      exact ⟨_, rfl, HB.out, by rw [← HI.out]; exact HO.out⟩
    | succ k1 =>
      have hlt : i < s.size := by omega
      have c1 : decide ((i : Int) < (s.size : Int)) = true := decide_eq_true (by omega)
      have c1' : decide (i < s.size) = true := decide_eq_true hlt
      have p1 : (0 ≤ (i : Int)) = True := eq_true (by omega)
      have p2 : ((i : Int) < (s.size : Int)) = True := eq_true (by omega)
      have q3 : IntKind.i64.wrap ((i : Int) + 1) = (i : Int) + 1 := IntWalk.i64_in _ (by omega)
      obtain ⟨m, hm⟩ : ∃ m, m = i / 64 := ⟨_, rfl⟩
      obtain ⟨j, hj⟩ : ∃ j, j = i % 64 := ⟨_, rfl⟩
      have q7 : (i : Int).tdiv 64 = (m : Int) := by rw [Int.tdiv_eq_ediv_of_nonneg (by omega)]; omega
      have q8 : (i : Int).tmod 64 = (j : Int) := by rw [Int.tmod_eq_emod_of_nonneg (by omega)]; omega
      have q10 : IntKind.i64.wrap (m : Int) = (m : Int) := IntWalk.i64_in _ (by omega)
      have hij : j < 64 := by omega
      have HMm := Lib.hid hm
      have HJ := Lib.hid hj
      have hpl := ps_length s i
      by_cases hj0 : i % 64 = 0
      · have c2 : ((j : Int) == 0) = true := beq_iff_eq.2 (by omega)
        have c2' : (j == 0) = true := beq_iff_eq.2 (by omega)
        have hps : ps0 s i = ps s i ++ [pz] := by unfold ps0; rw [if_pos hj0]
        clear hm hj
        have hbn : Below wr.heap.size wr (wr.alloc (Obj.cells (pa pz) 38 (0, 0))) := (Below.refl _ _).alloc (Nat.le_refl _) _
        go_wp2_with (first
          | (refine wl_buildB rfl rfl ?_)
          | (refine Kd.event_run rfl (litB rfl rfl _) ?_)
          | (at_builtin
             refine Kd.R_append_rows pk (w0 := w) w.heap.size rfl (.tmp 14) (.tmp 16) 33 38 (pv pz) 64 rfl Tryd.underlying33 infoB rfl (by decide) (by decide) u3 (ps s i) [pz] _ _ _ (fun _ => True) (fun _ => False) rfl rfl (Kd.R_below HO.out hbn) (readsB _ pz) (fun _ _ h => h) (fun _ h => h.elim) (fun _ _ => trivial) (HB.out.trans (hbn.mono HB.out.size)) (Nat.le_trans HB.out.size hbn.size) ?aL ?_
             (case aL => (rw [hpl]; omega))
             intro v2 w5 ho5 hb5 hg5 hn5
             rw [← hps] at ho5
             have HO5 := Lib.hid ho5
             have HB5 := Lib.hid hb5
             clear ho5 hb5 hg5 hn5))
        have hp0 := ps0_length s i
        obtain ⟨g, cap, rfl, hbg, hgl, cells, hcells⟩ := Kd.R_form HO5.out (by omega)
        obtain ⟨n0, hn0⟩ : ∃ n0, (ps0 s i).length = n0 := ⟨_, rfl⟩
        have hrow := row_cells HO5.out (i / 64) (by omega) _ (ps0_get s i (i / 64) (by omega) (Nat.le_refl _))
        obtain ⟨X, hX⟩ : ∃ X, pgOf (s.extract 0 i) (i / 64) = X := ⟨_, rfl⟩
        rw [hX] at hrow
        obtain ⟨b0, hb0⟩ : ∃ b0 : UInt8, X.1[j]? = some b0 := ⟨X.1[j]'(by rw [X.2]; exact hij), List.getElem?_eq_getElem _⟩
        have hcell : w5.drew.cell? ⟨g, m * 64 + j, none⟩ = some (cell b0) := by
          have e : (pcs X)[j]? = some (cell b0) := by unfold pcs; rw [List.getElem?_map, hb0]; rfl
          have := hrow j _ e
          rw [← HMm.out] at this
          exact this
        have hfz : w5.drew.frozen? ⟨g, m * 64 + j, none⟩ = false := by
          show w5.frozen? _ = false
          simp [World.frozen?, hcells]
        have p3 : (0 ≤ (m : Int)) = True := eq_true (by omega)
        have p4 : ((m : Int) < (n0 : Int)) = True := eq_true (by have := HMm.out; omega)
        have p5 : (0 ≤ (j : Int)) = True := eq_true (by omega)
        have p6 : ((j : Int) < 64) = True := eq_true (by omega)
        have HX := Lib.hid hX
        have HC0 := Lib.hid hn0
        rw [hn0] at HO5
        rw [hn0]
        clear hn0 hX hb0 hrow
        have HS0 := Lib.hid (show w5.drew.cell? ⟨g, m * 64 + j, none⟩ = some (cell b0) ∧ w5.drew.frozen? ⟨g, m * 64 + j, none⟩ = false from ⟨hcell, hfz⟩)
        go_region_held3 (fun w' => True)
          (trivial)
          (fail)
        clear HS0
        go_wp2_with fail
        go_roundg k1
        case measure => exact Nat.lt_succ_self _
        case rel => exact ⟨i + 1, by simp, by omega, Lib.hid (page_step s i m j hlt HMm.out HJ.out HO5.out), Lib.hid ((HB5.out.setCell hbg _).drew)⟩
      · have c2 : ((j : Int) == 0) = false := beq_eq_false_iff_ne.2 (by omega)
        have c2' : (j == 0) = false := beq_eq_false_iff_ne.2 (by omega)
        have hps : ps0 s i = ps s i := by unfold ps0; rw [if_neg hj0]
        have HO5 := Lib.hid (show Kd.R pk 38 wr w.heap.size (fun _ => True) u3 (ps0 s i) by rw [hps]; exact HO.out)
        have HB5 := HB
        clear hm hj HO HB
        go_wp2_with fail
        have hp0 := ps0_length s i
        obtain ⟨g, cap, rfl, hbg, hgl, cells, hcells⟩ := Kd.R_form HO5.out (by omega)
        obtain ⟨n0, hn0⟩ : ∃ n0, (ps0 s i).length = n0 := ⟨_, rfl⟩
        have hrow := row_cells HO5.out (i / 64) (by omega) _ (ps0_get s i (i / 64) (by omega) (Nat.le_refl _))
        obtain ⟨X, hX⟩ : ∃ X, pgOf (s.extract 0 i) (i / 64) = X := ⟨_, rfl⟩
        rw [hX] at hrow
        obtain ⟨b0, hb0⟩ : ∃ b0 : UInt8, X.1[j]? = some b0 := ⟨X.1[j]'(by rw [X.2]; exact hij), List.getElem?_eq_getElem _⟩
        have hcell : wr.drew.cell? ⟨g, m * 64 + j, none⟩ = some (cell b0) := by
          have e : (pcs X)[j]? = some (cell b0) := by unfold pcs; rw [List.getElem?_map, hb0]; rfl
          have := hrow j _ e
          rw [← HMm.out] at this
          exact this
        have hfz : wr.drew.frozen? ⟨g, m * 64 + j, none⟩ = false := by
          show wr.frozen? _ = false
          simp [World.frozen?, hcells]
        have p3 : (0 ≤ (m : Int)) = True := eq_true (by omega)
        have p4 : ((m : Int) < (n0 : Int)) = True := eq_true (by have := HMm.out; omega)
        have p5 : (0 ≤ (j : Int)) = True := eq_true (by omega)
        have p6 : ((j : Int) < 64) = True := eq_true (by omega)
        have HX := Lib.hid hX
        have HC0 := Lib.hid hn0
        rw [hn0] at HO5
        rw [hn0]
        clear hn0 hX hb0 hrow
        have HS0 := Lib.hid (show wr.drew.cell? ⟨g, m * 64 + j, none⟩ = some (cell b0) ∧ wr.drew.frozen? ⟨g, m * 64 + j, none⟩ = false from ⟨hcell, hfz⟩)
        go_region_held3 (fun w' => True)
          (trivial)
          (fail)
        clear HS0
        go_wp2_with fail
        go_roundg k1
        case measure => exact Nat.lt_succ_self _
        case rel => exact ⟨i + 1, by simp, by omega, Lib.hid (page_step s i m j hlt HMm.out HJ.out HO5.out), Lib.hid ((HB5.out.setCell hbg _).drew)⟩
end Go.Proofs.YtkkikhbenhkfcaaDoor.Blb
