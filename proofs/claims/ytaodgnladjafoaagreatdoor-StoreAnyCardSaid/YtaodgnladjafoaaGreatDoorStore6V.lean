/- Words that the proof uses. -/
import Derived.Test.YtaodgnladjafoaaGreatDoorStore5V
import Derived.Test.YtaodgnladjafoaaGreatDoorErr2V
set_option linter.unusedVariables false
set_option linter.unusedSimpArgs false
namespace Go.Proofs.YtaodgnladjafoaaGreatDoor.Sto
open Go.RowKit Go.Proofs.YtaodgnladjafoaaGreatDoorW.PrintWords Go.Proofs.YtaodgnladjafoaaGreatDoorW.PrintLast Go.Proofs.YtaodgnladjafoaaGreatDoorW.PrintMore Go.Proofs.YtaodgnladjafoaaGreatDoor.Md Go.Proofs.YtaodgnladjafoaaGreatDoor.Mni Go.Proofs.YtaodgnladjafoaaGreatDoor.QStoreLasts
open Go.Proofs.YtaodgnladjafoaaGreatDoor.Dk (Dsk IsD Ft mayN)
open Go.Proofs.YtaodgnladjafoaaGreatDoor.Slt (Sl switched switch_ok best_c BestAt bestOf slA)
open Go.Proofs.YtaodgnladjafoaaGreatDoor.Err (Laid IsErr code_nil code_c Chain at_some at_nil)
def s0 (d : Dsk) : St := { d := d, gen := 0, own := zr, put := [], held := [] }
theorem off_e (q : Pl) (s : St) : ∀ j v, eA.toList[j]? = some v → (sa q oE emptyM s)[2 + j]? = some v := by
  intro j v hj
  rcases j with _ | _ | _ | _ | j
  · cases hj; rfl
  · cases hj; rfl
  · cases hj; rfl
  · cases hj; rfl
  · simp at hj
set_option maxHeartbeats 2000000 in
set_option maxRecDepth 100000 in
theorem made_ok (w : World) (R M : Nat) (v : Value) (d : Dsk) (h : Hid (IsD w R M v d)) (hsz : 8 ≤ d.size) :
    Calls Tryz.prog 32 #[.pointer (some ⟨R, 0, none⟩)] w fun e w' => ∃ Z H, w.heap.size ≤ Z ∧ w.heap.size ≤ H ∧ e = .returned (.tuple #[.pointer (some ⟨Z, 0, none⟩), .nilIface]) ∧ Below w.heap.size w w' ∧ IsS w' ⟨Z, R, M, H, v, .slice none 0 0⟩ oE emptyM (s0 d) := by
  have c1 : decide (d.size < 8) = false := decide_eq_false (by omega)
  have hmm := @run_makeMap Tryz.prog
  clear hsz
  go_enter Tryz.func32, Tryz.ntmps32
  go_wp2_with fail
  refine (Dk.size_c _ R M v d h).mono ?_
  rintro e w1 ⟨rfl, hd⟩
  have H1 := Lib.hid (h.out.on hd)
  have HB1 := Lib.hid hd
  clear hd h
  go_wp2_with fail
  go_ret2
  have hb : Below w1.heap.size w1 (w1.alloc (Obj.map #[] 0)) := (Below.refl _ _).alloc (Nat.le_refl _) _
  have hb2 := hb.alloc hb.size (Obj.cells (sa ⟨w1.heap.size + 1, R, M, w1.heap.size, v, .slice none 0 0⟩ oE emptyM (s0 d)) 82 (0, 0))
  have hsz1 : (w1.alloc (Obj.map #[] 0)).heap.size = w1.heap.size + 1 := alloc_size _ _
  refine ⟨w1.heap.size + 1, w1.heap.size, Nat.le_succ_of_le HB1.out.size, HB1.out.size, rfl, HB1.out.trans (hb2.mono HB1.out.size), ?_, H1.out.on hb2, ?_, Kd.R_nil _ _ _ _ _, fun w2 _ _ => at_empty w2, ?_, ?_, ?_, ?_⟩
  · have z := heap_alloc_last (w1.alloc (Obj.map #[] 0)) (Obj.cells (sa ⟨w1.heap.size + 1, R, M, w1.heap.size, v, .slice none 0 0⟩ oE emptyM (s0 d)) 82 (0, 0))
    rw [hsz1] at z
    exact z
  · have z := HeldAt.new w1
    exact z.mod ((Mod.refl (fun _ => False) _).alloc _) (fun f => f)
  · show w1.heap.size + 1 ≠ w1.heap.size
    omega
  · intro i hi
    have := H1.out.ft_lt i hi
    exact ⟨by show i ≠ w1.heap.size + 1; omega, by show i ≠ w1.heap.size; omega, fun e => by cases e⟩
  · exact fun e => by cases e
  · exact fun e => by cases e
theorem IsS.setGen {w : World} {Z R M H : Nat} {v p : Value} {o : Mni.Loc} {m : Man} {s : St} (g : Int) (h : IsS w ⟨Z, R, M, H, v, p⟩ o m s) : IsS (w.setCell ⟨Z, 1, none⟩ (.int .u32 g)) ⟨Z, R, M, H, v, p⟩ o m { s with gen := g } ∧ Stp w ⟨Z, R, M, H, v, p⟩ (w.setCell ⟨Z, 1, none⟩ (.int .u32 g)) ⟨Z, R, M, H, v, p⟩ := by
  have k := mod_cellZ w Z 1 (.int .u32 g)
  have hst : Stp w ⟨Z, R, M, H, v, p⟩ (w.setCell ⟨Z, 1, none⟩ (.int .u32 g)) ⟨Z, R, M, H, v, p⟩ := ⟨k.mono (fun i _ e => .inl e), fun i hi => .inl hi⟩
  refine ⟨⟨blk_setZ h.blk 1 _, h.dsk.mod k (fun i hi e => (h.n2 i hi).1 e), h.held.mod k (fun e => h.n1 e.symm), row_on (α := Rf) rfl h.put k (fun b hb (e : b = Z) => h.n3.1 (e ▸ hb)), h.man_of hst, h.n1, h.n2, h.n3⟩, hst⟩
set_option maxHeartbeats 2000000 in
set_option maxRecDepth 100000 in
theorem Format_ok (w : World) (R M : Nat) (v : Value) (d : Dsk) (a : Int) (h : Hid (IsD w R M v d)) (hsz : 8 ≤ d.size) (hsz2 : d.size ≤ 2048) (hm0 : mayN d 0 = 0) (hm1 : mayN d 1 = 0) (hbo : ¬ 0 < (bestOf d 2).g) (hdn : Hid (d.down = false)) (hb : Hid (d.budget = -1)) (hl : d.soft.length + 1 ≤ 9000) (hf : Hid (SpM.find (used emptyM (s0 d)) ((1 : Nat) : Int) (used emptyM (s0 d)).length 0 = (a, true))) (ha0 : 0 ≤ a) (hx : a + ((1 : Nat) : Int) ≤ d.size) :
    Calls Tryz.prog 9 #[.pointer (some ⟨R, 0, none⟩)] w fun e w' => ∃ Z H, w.heap.size ≤ Z ∧ w.heap.size ≤ H ∧ e = .returned (.tuple #[.pointer (some ⟨Z, 0, none⟩), .nilIface]) ∧ IsS w' ⟨Z, R, M, H, .slice none 0 0, .slice none 0 0⟩ oE emptyM (swS (s0 d) a) ∧ Mod (Ft R M v) w w' := by
  have hok : Ok emptyM (s0 d) := ⟨Nat.zero_le _, Nat.zero_le _, right_empty ⟨by show 2 ≤ d.size; omega, hsz2⟩, fun r hr => by
    have : r = zr := by simpa [s0, keys] using hr
    rw [this]; exact ⟨Int.le_refl _, by decide⟩, Nat.zero_le _⟩
  go_enter Tryz.func9, Tryz.ntmps9
  go_wp2_with fail
  refine (made_ok w R M v d h hsz).mono ?_
  rintro e w1 ⟨Z, H, hZ, hH, rfl, hd, hi⟩
  have H1 := Lib.hid hi
  have HB1 := Lib.hid hd
  have HZH := Lib.hid (And.intro hZ hH)
  clear hd hi h hZ hH
  go_wp2_with fail
  refine (best_c w1 R M v d (Lib.hid H1.out.dsk) (by omega)).mono ?_
  rintro e w2 ⟨hd, _, h2, _⟩
  obtain ⟨T, u, rfl, he⟩ := h2 hm0 hm1 (Int.not_lt.2 hbo)
  have H2 := Lib.hid (H1.out.on hd)
  have HB2 := below_to HB1 (Nat.le_refl _) hd
  have HE2 := Lib.hid he
  clear hd he h2 H1 HB1 hbo hm0 hm1
  go_upto_region 5 with (first | (refine Slt.wl_allocS rfl rfl ?_) | (refine Slt.wl_storeSn 0 0 0 0 0 0 0 0 rfl _ _ rfl rfl (by rfl) ?_))
  have hd3 : Below w2.heap.size w2 (w2.alloc (Obj.cells (slA 0 0 0 0) 62 (0, 0))) := (Below.refl _ _).alloc (Nat.le_refl _) _
  have HX3 := Lib.hid (heap_alloc_last w2 (Obj.cells (slA 0 0 0 0) 62 (0, 0)))
  have H3 := Lib.hid (H2.out.on hd3)
  have HB3 := below_to HB2 (Nat.le_refl _) hd3
  have HE3 := Lib.hid (HE2.out.on hd3)
  obtain ⟨X, hX⟩ : ∃ X, w2.heap.size = X := ⟨_, rfl⟩
  rw [hX] at HX3
  simp only [hX]
  generalize (w2.alloc (Obj.cells (slA 0 0 0 0) 62 (0, 0))) = w3 at *
  clear hX hd3 H2 HB2 HE2
  obtain ⟨l, hch⟩ : ∃ l, Chain w3 (.iface T u) 3 l := HE3.out.elim (fun e => by cases e.1) id
  have HCh := Lib.hid hch
  clear hch HE3
  go_wp2_with fail
  refine (Err.fis_num (.iface T u) 3 3 l w3 HCh).mono ?_
  rintro e w4 ⟨rfl, hd⟩
  have H4 := Lib.hid (H3.out.on hd)
  have HB4 := below_to HB3 (Nat.le_refl _) hd
  have HX4 := blk_to HX3 hd
  clear hd H3 HB3 HX3 HCh
  have cx := Err.cell_of_blk HX4.out 0
  have c1 : w4.cell? ⟨Z, 1, none⟩ = some (.int .u32 0) := H4.out.cs.2.1
  have hbz := H4.out.blk
  have f1 : w4.frozen? ⟨Z, 1, none⟩ = false := by simp [World.frozen?, hbz]
  clear hbz
  go_upto_region 8 with fail
  have H5 := Lib.hid (H4.out.setGen 0).1
  have HB5 := Lib.hid (HB4.out.trans ((mod_cellZ w4 Z 1 (.int .u32 0)).below HB4.out.size (fun i hi (e : i = Z) => by have := HZH.out.1; omega)))
  clear cx c1 f1 H4 HB4 HX4
  generalize (w4.setCell ⟨Z, 1, none⟩ (.int .u32 0)) = w5 at *
  have hs5 : ({ s0 d with gen := 0 } : St) = s0 d := rfl
  rw [hs5] at H5
  clear hs5
  go_wp2_with (first | (refine wl_load_off aggM szM Z 2 (sa ⟨Z, R, M, H, v, .slice none 0 0⟩ oE emptyM (s0 d)) 82 eA.toList H5.out.blk rfl (off_e _ _) rfl _ rfl rfl ?_))
  refine (Switch_ok Z R M H v (.slice none 0 0) oE emptyM (s0 d) a w5 H5 hok (Int.le_refl _) (show (0 : Int) < 4294967295 by decide) (fun x hx => by cases hx) hf ha0 hx hdn hb hl).mono ?_
  rintro e w6 ⟨rfl, hi6, hs6⟩
  have H6 := Lib.hid hi6
  have HS6 := Lib.hid hs6
  clear hi6 hs6
  go_wp2_with fail
  go_ret2
  refine ⟨Z, H, HZH.out.1, HZH.out.2, rfl, H6.out, ?_⟩
  refine (Mod.of_below HB5.out (Nat.le_refl _)).trans HS6.out.mod (fun i hi f => ?_)
  rcases f with e | e | e | e
  · have := HZH.out.1; have e : i = Z := e; omega
  · have := HZH.out.2; have e : i = H := e; omega
  · exact e
  · cases e
end Go.Proofs.YtaodgnladjafoaaGreatDoor.Sto
