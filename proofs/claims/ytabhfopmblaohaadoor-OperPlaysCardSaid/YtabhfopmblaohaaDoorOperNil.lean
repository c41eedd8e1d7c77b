/- A reader that is none: Num, Str, oper.Read. -/
import Derived.Test.YtabhfopmblaohaaDoorOper8
set_option linter.unusedVariables false
set_option linter.unusedSimpArgs false
namespace Go.Proofs.YtabhfopmblaohaaDoor.Opr
open Go.RowKit Go.Proofs.YtabhfopmblaohaaDoorW.PrintWords Go.Proofs.YtabhfopmblaohaaDoorW.PrintLast Go.Proofs.YtabhfopmblaohaaDoorW.PrintMore Go.Proofs.YtabhfopmblaohaaDoor.CdM Go.Proofs.YtabhfopmblaohaaDoor.Md Go.Proofs.YtabhfopmblaohaaDoor.Rdr
open Go.WideShapes
open Go.Proofs.YtabhfopmblaohaaDoor.Err (Laid IsErr code_nil code_c Chain at_some at_nil)
theorem safe_nilR (F : Nat) (caps : Array Value) (w : World) : Calls Tryd.prog 44 #[.pointer none, .func (.func F) #[] caps] w fun ev w' => ev = .returned (errV 1) ∧ Below w.heap.size w w' := by
  have hmf : ∀ (fn : Fn) (first cap : Array Value) (w : World), (Instr.makeFunc fn first cap).run Tryd.prog w = .ok (.func fn first cap) w := fun _ _ _ _ => rfl
  go_enter_defers Tryd.func44, Tryd.ntmps44
  go_wp2_with fail
  simp [bodyPostD, Leaves, settle, results, Tryd.results44, go_sem]
  have hW : ∀ o1 o2 : Obj, Below w.heap.size w ((w.alloc o1).alloc o2) := fun o1 o2 => ((Below.refl w.heap.size w).alloc (Nat.le_refl _) o1).alloc (by simp) o2
  exact ⟨rfl, hW _ _⟩
def W3n (w : World) (most : Int) : World := ((w.alloc (.cells #[.pointer none] 43)).alloc (.cells #[.int .i64 most] 3)).alloc (.cells #[.int .i64 0] 3)
set_option maxHeartbeats 2000000 in
set_option maxRecDepth 100000 in
theorem num_nilR (most : Int) (w : World) : Calls Tryd.prog 31 #[.pointer none, .int .i64 most] w fun ev w' => ev = .returned (.tuple #[.int .i64 0, errV 1]) ∧ Below w.heap.size w w' := by
  have hmf : ∀ (fn : Fn) (first cap : Array Value) (w : World), (Instr.makeFunc fn first cap).run Tryd.prog w = .ok (.func fn first cap) w := fun _ _ _ _ => rfl
  go_enter Tryd.func31, Tryd.ntmps31
  go_wp2_with fail
  obtain ⟨w1, hw1⟩ : ∃ w1, W3n w most = w1 := ⟨_, rfl⟩
  have hb : Below w.heap.size w (W3n w most) := by
    have h3 : ∀ o1 o2 o3 : Obj, Below w.heap.size w (((w.alloc o1).alloc o2).alloc o3) := fun o1 o2 o3 => (((Below.refl _ _).alloc (Nat.le_refl _) _).alloc (by simp) _).alloc (by simp; omega) _
    exact h3 _ _ _
  have hc : (W3n w most).cell? ⟨w.heap.size + 1 + 1, 0, none⟩ = some (.int .i64 0) := by
    have h := heap_alloc_last ((w.alloc (.cells #[.pointer none] 43)).alloc (.cells #[.int .i64 most] 3)) (.cells #[.int .i64 0] 3)
    rw [show ((w.alloc (.cells #[.pointer none] 43)).alloc (.cells #[.int .i64 most] 3)).heap.size = w.heap.size + 1 + 1 by simp] at h
    exact Err.cell_of_blk h 0
  have hl : w.heap.size + 1 + 1 < (W3n w most).heap.size := by unfold W3n; simp
  refine (safe_nilR _ _ (W3n w most)).mono ?_
  rintro e w' ⟨rfl, hd⟩
  have hc2 := (hd.cell (p := ⟨w.heap.size + 1 + 1, 0, none⟩) hl).trans hc
  have HB := Lib.hid (hb.trans (hd.mono hb.size))
  clear hd hb hc hw1
  go_wp2_with fail
  go_ret2
  exact ⟨rfl, HB.out⟩
def W3s (w : World) (most : Int) : World := ((w.alloc (.cells #[.pointer none] 43)).alloc (.cells #[.int .i64 most] 3)).alloc (.cells #[.string ⟨#[]⟩] 9)
set_option maxHeartbeats 2000000 in
set_option maxRecDepth 100000 in
theorem str_nilR (most : Int) (w : World) : Calls Tryd.prog 32 #[.pointer none, .int .i64 most] w fun ev w' => ev = .returned (.tuple #[.string ⟨#[]⟩, errV 1]) ∧ Below w.heap.size w w' := by
  have hmf : ∀ (fn : Fn) (first cap : Array Value) (w : World), (Instr.makeFunc fn first cap).run Tryd.prog w = .ok (.func fn first cap) w := fun _ _ _ _ => rfl
  go_enter Tryd.func32, Tryd.ntmps32
  go_wp2_with fail
  obtain ⟨w1, hw1⟩ : ∃ w1, W3s w most = w1 := ⟨_, rfl⟩
  have hb : Below w.heap.size w (W3s w most) := by
    have h3 : ∀ o1 o2 o3 : Obj, Below w.heap.size w (((w.alloc o1).alloc o2).alloc o3) := fun o1 o2 o3 => (((Below.refl _ _).alloc (Nat.le_refl _) _).alloc (by simp) _).alloc (by simp; omega) _
    exact h3 _ _ _
  have hc : (W3s w most).cell? ⟨w.heap.size + 1 + 1, 0, none⟩ = some (.string ⟨#[]⟩) := by
    have h := heap_alloc_last ((w.alloc (.cells #[.pointer none] 43)).alloc (.cells #[.int .i64 most] 3)) (.cells #[.string ⟨#[]⟩] 9)
    rw [show ((w.alloc (.cells #[.pointer none] 43)).alloc (.cells #[.int .i64 most] 3)).heap.size = w.heap.size + 1 + 1 by simp] at h
    exact Err.cell_of_blk h 0
  have hl : w.heap.size + 1 + 1 < (W3s w most).heap.size := by unfold W3s; simp
  refine (safe_nilR _ _ (W3s w most)).mono ?_
  rintro e w' ⟨rfl, hd⟩
  have hc2 := (hd.cell (p := ⟨w.heap.size + 1 + 1, 0, none⟩) hl).trans hc
  have HB := Lib.hid (hb.trans (hd.mono hb.size))
  clear hd hb hc hw1
  go_wp2_with fail
  go_ret2
  exact ⟨rfl, HB.out⟩
/-- the walk's state, without a reader -/
structure SN (w wk : World) (Z O E : Nat) (o : Op) (es : Array Value) : Prop where
  z : wk.heap[Z]? = some (Obj.cells Op.zero.a 30 (0, 0))
  o : wk.heap[O]? = some (Obj.cells o.a 30 (0, 0))
  e : wk.heap[E]? = some (Obj.cells es 63 (0, 0))
  bel : Below w.heap.size w wk
  hz : w.heap.size ≤ Z
  ho : w.heap.size ≤ O
  he : w.heap.size ≤ E
  zo : ¬ Z = O
  ze : ¬ Z = E
  oe : ¬ O = E
section
variable {w wk w' : World} {Z O E : Nat} {o o' : Op} {es es' : Array Value}
theorem SN.call (h : SN w wk Z O E o es) (b : Below wk.heap.size wk w') : SN w w' Z O E o es :=
  ⟨(b.block Z (Err.lt_of_block h.z)).trans h.z, (b.block O (Err.lt_of_block h.o)).trans h.o, (b.block E (Err.lt_of_block h.e)).trans h.e, h.bel.trans (b.mono h.bel.size), h.hz, h.ho, h.he, h.zo, h.ze, h.oe⟩
theorem SN.set (h : SN w wk Z O E o es) (i j : Nat) (u v : Value) (h1 : o.a.setIfInBounds i u = o'.a) (h2 : es.setIfInBounds j v = es') : SN w ((wk.setCell ⟨O, i, none⟩ u).setCell ⟨E, j, none⟩ v) Z O E o' es' := by
  have hm : Mod (fun k => k = O ∨ k = E) wk ((wk.setCell ⟨O, i, none⟩ u).setCell ⟨E, j, none⟩ v) := ((Mod.refl _ _).set _ _ (.inl (.inl rfl))).set _ _ (.inl (.inr rfl))
  have hoe := h.oe
  have := h.hz; have := h.ho; have := h.he
  refine ⟨hm.blk h.z (by rintro (e | e); exact h.zo e; exact h.ze e), ?_, ?_, h.bel.trans (hm.below h.bel.size (fun i hi e => by rcases e with e | e <;> omega)), h.hz, h.ho, h.he, h.zo, h.ze, h.oe⟩
  · rw [← h1]
    have h3 := set_blk h.o i u
    exact (Below.heap_setCell _ ⟨E, j, none⟩ v O hoe).trans h3
  · rw [← h2]
    have h3 : (wk.setCell ⟨O, i, none⟩ u).heap[E]? = some (Obj.cells es 63 (0, 0)) := (Below.heap_setCell wk ⟨O, i, none⟩ u E (fun e => hoe e.symm)).trans h.e
    exact set_blk h3 j v
theorem SN.co (h : SN w wk Z O E o es) (i : Nat) : wk.cell? ⟨O, i, none⟩ = o.a[i]? := Err.cell_of_blk h.o i
theorem SN.ce (h : SN w wk Z O E o es) (i : Nat) : wk.cell? ⟨E, i, none⟩ = es[i]? := Err.cell_of_blk h.e i
theorem SN.fo (h : SN w wk Z O E o es) (i : Nat) : wk.frozen? ⟨O, i, none⟩ = false := by simp [World.frozen?, h.o]
theorem SN.fe (h : SN w wk Z O E o es) (i : Nat) : wk.frozen? ⟨E, i, none⟩ = false := by simp [World.frozen?, h.e]
end
set_option maxHeartbeats 16000000 in
set_option maxRecDepth 100000 in
theorem oread_nil (w : World) : Calls Tryd.prog 16 #[.pointer none] w fun ev w' => ev = .returned (.tuple #[.agg Op.zero.a, errV 1]) ∧ Below w.heap.size w w' := by
  go_enter Tryd.func16, Tryd.ntmps16
  go_wp2_with (first
    | (refine wl_allocO rfl rfl ?_)
    | (refine wl_allocE rfl rfl ?_))
  obtain ⟨g1, g2, g3⟩ := Rdr.alloc3 w (Obj.cells Op.zero.a 30 (0, 0)) (Obj.cells Op.zero.a 30 (0, 0)) (Obj.cells (ea .nilIface .nilIface .nilIface .nilIface .nilIface) 63 (0, 0))
  have hb3 : Below w.heap.size w (((w.alloc (Obj.cells Op.zero.a 30 (0, 0))).alloc (Obj.cells Op.zero.a 30 (0, 0))).alloc (Obj.cells (ea .nilIface .nilIface .nilIface .nilIface .nilIface) 63 (0, 0))) := by
    have h3 : ∀ o1 o2 o3 : Obj, Below w.heap.size w (((w.alloc o1).alloc o2).alloc o3) := fun o1 o2 o3 => (((Below.refl _ _).alloc (Nat.le_refl _) _).alloc (by simp) _).alloc (by simp; omega) _
    exact h3 _ _ _
  (try rw [show (w.alloc (Obj.cells Op.zero.a 30 (0, 0))).heap.size = w.heap.size + 1 by simp])
  (try rw [show ((w.alloc (Obj.cells Op.zero.a 30 (0, 0))).alloc (Obj.cells Op.zero.a 30 (0, 0))).heap.size = w.heap.size + 1 + 1 by simp])
  obtain ⟨Z, hZ⟩ : ∃ Z, w.heap.size = Z := ⟨_, rfl⟩
  obtain ⟨O, hO⟩ : ∃ O, w.heap.size + 1 = O := ⟨_, rfl⟩
  obtain ⟨E, hE⟩ : ∃ E, w.heap.size + 1 + 1 = E := ⟨_, rfl⟩
  have HS1 := Lib.hid (show SN w (((w.alloc (Obj.cells Op.zero.a 30 (0, 0))).alloc (Obj.cells Op.zero.a 30 (0, 0))).alloc (Obj.cells (ea .nilIface .nilIface .nilIface .nilIface .nilIface) 63 (0, 0))) Z O E Op.zero (ea .nilIface .nilIface .nilIface .nilIface .nilIface) from
    ⟨by rw [← hZ]; exact g1, by rw [← hO]; exact g2, by rw [← hE]; exact g3, hb3, by omega, by omega, by omega, by omega, by omega, by omega⟩)
  have hOE : (O = E) = False := eq_false (by omega)
  have hEO : (E = O) = False := eq_false (by omega)
  (try rw [hE])
  (try rw [hO])
  (try simp only [hE])
  (try simp only [hO])
  (try simp only [hZ])
  generalize (((w.alloc (Obj.cells Op.zero.a 30 (0, 0))).alloc (Obj.cells Op.zero.a 30 (0, 0))).alloc (Obj.cells (ea .nilIface .nilIface .nilIface .nilIface .nilIface) 63 (0, 0))) = w1 at *
  clear g1 g2 g3 hb3 hE hO hZ
  refine (num_nilR _ _).mono ?_
  rintro e w2 ⟨rfl, hd⟩
  have HS2 := Lib.hid (HS1.out.call hd)
  clear hd HS1
  have c0 : w2.cell? ⟨O, 0, none⟩ = some (.int .i64 0) := HS2.out.co 0
  have c1 : w2.cell? ⟨E, 0, none⟩ = some .nilIface := HS2.out.ce 0
  have f0 := HS2.out.fo 0
  have f1 := HS2.out.fe 0
  have hev : Ev (errV 1) := .inr ⟨_, _, rfl⟩
  have c1 := cell_far (i := 0) (u := (.int .i64 0)) c1 HS2.out.oe
  have f1 := frozen_far (i := 0) (u := (.int .i64 0)) f1 HS2.out.oe
  have HS3 := Lib.hid (HS2.out.set (o' := Op.zero) (es' := ea (errV 1) .nilIface .nilIface .nilIface .nilIface) 0 0 (.int .i64 0) (errV 1) rfl rfl)
  go_wp2_with (first | (refine wl_storeV E 0 (errV 1) .nilIface hev c1 f1 rfl _ _ rfl rfl rfl ?_))
  generalize ((w2.setCell ⟨O, 0, none⟩ (.int .i64 0)).setCell ⟨E, 0, none⟩ (errV 1)) = w3 at *
  clear c0 c1 f0 f1 hev HS2
  refine (str_nilR _ _).mono ?_
  rintro e w4 ⟨rfl, hd⟩
  have HS4 := Lib.hid (HS3.out.call hd)
  clear hd HS3
  have c0 : w4.cell? ⟨O, 1, none⟩ = some (.string ⟨#[]⟩) := HS4.out.co 1
  have c1 : w4.cell? ⟨E, 1, none⟩ = some .nilIface := HS4.out.ce 1
  have f0 := HS4.out.fo 1
  have f1 := HS4.out.fe 1
  have hev : Ev (errV 1) := .inr ⟨_, _, rfl⟩
  have c1 := cell_far (i := 1) (u := (.string ⟨#[]⟩)) c1 HS4.out.oe
  have f1 := frozen_far (i := 1) (u := (.string ⟨#[]⟩)) f1 HS4.out.oe
  have HS5 := Lib.hid (HS4.out.set (o' := Op.zero) (es' := ea (errV 1) (errV 1) .nilIface .nilIface .nilIface) 1 1 (.string ⟨#[]⟩) (errV 1) rfl rfl)
  go_wp2_with (first | (refine wl_storeV E 1 (errV 1) .nilIface hev c1 f1 rfl _ _ rfl rfl rfl ?_))
  generalize ((w4.setCell ⟨O, 1, none⟩ (.string ⟨#[]⟩)).setCell ⟨E, 1, none⟩ (errV 1)) = w5 at *
  clear c0 c1 f0 f1 hev HS4
  refine (str_nilR _ _).mono ?_
  rintro e w6 ⟨rfl, hd⟩
  have HS6 := Lib.hid (HS5.out.call hd)
  clear hd HS5
  have c0 : w6.cell? ⟨O, 2, none⟩ = some (.string ⟨#[]⟩) := HS6.out.co 2
  have c1 : w6.cell? ⟨E, 2, none⟩ = some .nilIface := HS6.out.ce 2
  have f0 := HS6.out.fo 2
  have f1 := HS6.out.fe 2
  have hev : Ev (errV 1) := .inr ⟨_, _, rfl⟩
  have c1 := cell_far (i := 2) (u := (.string ⟨#[]⟩)) c1 HS6.out.oe
  have f1 := frozen_far (i := 2) (u := (.string ⟨#[]⟩)) f1 HS6.out.oe
  have HS7 := Lib.hid (HS6.out.set (o' := Op.zero) (es' := ea (errV 1) (errV 1) (errV 1) .nilIface .nilIface) 2 2 (.string ⟨#[]⟩) (errV 1) rfl rfl)
  go_wp2_with (first | (refine wl_storeV E 2 (errV 1) .nilIface hev c1 f1 rfl _ _ rfl rfl rfl ?_))
  generalize ((w6.setCell ⟨O, 2, none⟩ (.string ⟨#[]⟩)).setCell ⟨E, 2, none⟩ (errV 1)) = w7 at *
  clear c0 c1 f0 f1 hev HS6
  refine (num_nilR _ _).mono ?_
  rintro e w8 ⟨rfl, hd⟩
  have HS8 := Lib.hid (HS7.out.call hd)
  clear hd HS7
  go_wp2_with fail
  refine (back_c 0 _ (by omega) (by omega)).mono ?_
  rintro e w9 ⟨rfl, hd⟩
  rw [show backN 0 = 0 from rfl]
  have HS9 := Lib.hid (HS8.out.call hd)
  clear hd HS8
  have c0 : w9.cell? ⟨O, 3, none⟩ = some (.int .i64 0) := HS9.out.co 3
  have c1 : w9.cell? ⟨E, 3, none⟩ = some .nilIface := HS9.out.ce 3
  have f0 := HS9.out.fo 3
  have f1 := HS9.out.fe 3
  have hev : Ev (errV 1) := .inr ⟨_, _, rfl⟩
  have c1 := cell_far (i := 3) (u := (.int .i64 0)) c1 HS9.out.oe
  have f1 := frozen_far (i := 3) (u := (.int .i64 0)) f1 HS9.out.oe
  have HS10 := Lib.hid (HS9.out.set (o' := Op.zero) (es' := ea (errV 1) (errV 1) (errV 1) (errV 1) .nilIface) 3 3 (.int .i64 0) (errV 1) rfl rfl)
  go_wp2_with (first | (refine wl_storeV E 3 (errV 1) .nilIface hev c1 f1 rfl _ _ rfl rfl rfl ?_))
  generalize ((w9.setCell ⟨O, 3, none⟩ (.int .i64 0)).setCell ⟨E, 3, none⟩ (errV 1)) = w10 at *
  clear c0 c1 f0 f1 hev HS9
  refine (str_nilR _ _).mono ?_
  rintro e w11 ⟨rfl, hd⟩
  have HS11 := Lib.hid (HS10.out.call hd)
  clear hd HS10
  have c0 : w11.cell? ⟨O, 4, none⟩ = some (.string ⟨#[]⟩) := HS11.out.co 4
  have c1 : w11.cell? ⟨E, 4, none⟩ = some .nilIface := HS11.out.ce 4
  have f0 := HS11.out.fo 4
  have f1 := HS11.out.fe 4
  have hev : Ev (errV 1) := .inr ⟨_, _, rfl⟩
  have c1 := cell_far (i := 4) (u := (.string ⟨#[]⟩)) c1 HS11.out.oe
  have f1 := frozen_far (i := 4) (u := (.string ⟨#[]⟩)) f1 HS11.out.oe
  have HS12 := Lib.hid (HS11.out.set (o' := Op.zero) (es' := ea (errV 1) (errV 1) (errV 1) (errV 1) (errV 1)) 4 4 (.string ⟨#[]⟩) (errV 1) rfl rfl)
  go_wp2_with (first
    | (refine wl_storeV E 4 (errV 1) .nilIface hev c1 f1 rfl _ _ rfl rfl rfl ?_)
    | (refine wl_loadE E (errV 1) (errV 1) (errV 1) (errV 1) (errV 1) HS12.out.e rfl _ rfl rfl ?_))
  generalize ((w11.setCell ⟨O, 4, none⟩ (.string ⟨#[]⟩)).setCell ⟨E, 4, none⟩ (errV 1)) = w12 at *
  clear c0 c1 f0 f1 hev HS11
  clear hOE hEO
  go_loopg [49] 5 (fun kq v0 wr => v0 = .int .i64 0 ∧ kq = 5 ∧ wr = w12)
  case atStart => exact ⟨rfl, rfl, rfl⟩
  case round =>
    obtain ⟨rfl, hk, rfl⟩ := hrel
    cases gk with
    | zero => exact absurd hk (by omega)
    | succ k1 =>
      have hc : (ea (errV 1) (errV 1) (errV 1) (errV 1) (errV 1))[0]? = some (.iface 53 (.int .i64 1)) := rfl
      have h05 : 0 < 5 := by omega
      go_wp2_with (first
        | (refine wl_indexE (errV 1) (errV 1) (errV 1) (errV 1) (errV 1) _ 0 h05 hc rfl _ _ rfl rfl rfl ?_)
        | (refine wl_storeO Z Op.zero.a rfl Op.zero HS12.out.z rfl _ _ rfl rfl rfl ?_))
      (try simp only [Exit.inBlock, Exit.then])
      refine bodyPost_ret (v := .tuple #[.agg Op.zero.a, errV 1]) ?_ rfl ?_
      · exact read_results _ _ Z Op.zero (errV 1) rfl rfl (setRow_heap _ _ _ _ _ _ HS12.out.z)
      have hm := mod_row wr Z Op.zero.a
      exact ⟨rfl, HS12.out.bel.trans (hm.below HS12.out.bel.size (fun i hi (e : i = Z) => by have := HS12.out.hz; omega))⟩
end Go.Proofs.YtabhfopmblaohaaDoor.Opr
