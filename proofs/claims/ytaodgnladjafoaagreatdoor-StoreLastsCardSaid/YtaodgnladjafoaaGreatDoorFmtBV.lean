/- Words that the proof uses. -/
import Derived.Test.YtaodgnladjafoaaGreatDoorKeepsV
set_option linter.unusedVariables false
set_option linter.unusedSimpArgs false
namespace Go.Proofs.YtaodgnladjafoaaGreatDoor.Sto
open Go.RowKit Go.Proofs.YtaodgnladjafoaaGreatDoorW.PrintWords Go.Proofs.YtaodgnladjafoaaGreatDoorW.PrintLast Go.Proofs.YtaodgnladjafoaaGreatDoorW.PrintMore Go.Proofs.YtaodgnladjafoaaGreatDoor.Md Go.Proofs.YtaodgnladjafoaaGreatDoor.Mni Go.Proofs.YtaodgnladjafoaaGreatDoor.QStoreLasts
open Go.Proofs.YtaodgnladjafoaaGreatDoor.Dk (Dsk IsD Ft mayN)
open Go.Proofs.YtaodgnladjafoaaGreatDoor.Slt (Sl switched best_c BestAt bestOf slA)
open Go.Proofs.YtaodgnladjafoaaGreatDoor.Err (Laid IsErr code_nil code_c Chain at_some at_nil)
theorem swB_S (s : St) (a : Int) (h : s.d.budget = -1) : swB s a tE 1 = swS s a := by
  have e : Blb.bud s.d.budget 1 = s.d.budget := by
    unfold Blb.bud
    rw [if_pos h, h]
  unfold swB swS
  rw [e]
set_option maxHeartbeats 2000000 in
set_option maxRecDepth 100000 in
theorem Format_b (w : World) (R M : Nat) (v : Value) (d : Dsk) (a : Int) (h : Hid (IsD w R M v d)) (hsz : 8 ≤ d.size) (hsz2 : d.size ≤ 2048) (hm0 : mayN d 0 = 0) (hm1 : mayN d 1 = 0) (hbo : ¬ 0 < (bestOf d 2).g) (hdn : Hid (d.down = false)) (hb : Hid (d.budget = -1)) (hl : d.soft.length + 1 ≤ 9000) (hf : Hid (SpM.find (used emptyM (s0 d)) ((1 : Nat) : Int) (used emptyM (s0 d)).length 0 = (a, true))) (ha0 : 0 ≤ a) (hx : a + ((1 : Nat) : Int) ≤ d.size) :
    Calls Tryz.prog 9 #[.pointer (some ⟨R, 0, none⟩)] w fun e w' => ∃ Z H o, w.heap.size ≤ Z ∧ w.heap.size ≤ H ∧ e = .returned (.tuple #[.pointer (some ⟨Z, 0, none⟩), .nilIface]) ∧ IsS w' ⟨Z, R, M, H, .slice none 0 0, .slice none 0 0⟩ o emptyM (swS (s0 d) a) ∧ Mod (Ft R M v) w w' := by
  have hok : Ok emptyM (s0 d) := ⟨Nat.zero_le _, Nat.zero_le _, right_empty ⟨by show 2 ≤ d.size; omega, hsz2⟩, fun r hr => by
    have : r = zr := by simpa [s0, keys] using hr
    rw [this]; exact ⟨Int.le_refl _, by decide⟩, Nat.zero_le _⟩
  go_enter Tryz.func9, Tryz.ntmps9
  go_wp2_with fail
  refine (made_ok w R M v d h hsz).mono ?_
  rintro e w1 ⟨Z, H, hZ, hH, rfl, hd, hi⟩
  have H1 := Lib.hid hi
  have HB1 := Lib.hid hd
  have HZH := Lib.hid (And.intro hZ hH)
  clear hd hi h hZ hH
  go_wp2_with fail
  refine (best_c w1 R M v d (Lib.hid H1.out.dsk) (by omega)).mono ?_
  rintro e w2 ⟨hd, _, h2, _⟩
  obtain ⟨T, u, rfl, he⟩ := h2 hm0 hm1 (Int.not_lt.2 hbo)
  have H2 := Lib.hid (H1.out.on hd)
  have HB2 := below_to HB1 (Nat.le_refl _) hd
  have HE2 := Lib.hid he
  clear hd he h2 H1 HB1 hbo hm0 hm1
  go_upto_region 5 with (first | (refine Slt.wl_allocS rfl rfl ?_) | (refine Slt.wl_storeSn 0 0 0 0 0 0 0 0 rfl _ _ rfl rfl (by rfl) ?_))
  have hd3 : Below w2.heap.size w2 (w2.alloc (Obj.cells (slA 0 0 0 0) 62 (0, 0))) := (Below.refl _ _).alloc (Nat.le_refl _) _
  have HX3 := Lib.hid (heap_alloc_last w2 (Obj.cells (slA 0 0 0 0) 62 (0, 0)))
  have H3 := Lib.hid (H2.out.on hd3)
  have HB3 := below_to HB2 (Nat.le_refl _) hd3
  have HE3 := Lib.hid (HE2.out.on hd3)
  obtain ⟨X, hX⟩ : ∃ X, w2.heap.size = X := ⟨_, rfl⟩
  rw [hX] at HX3
  simp only [hX]
  generalize (w2.alloc (Obj.cells (slA 0 0 0 0) 62 (0, 0))) = w3 at *
  clear hX hd3 H2 HB2 HE2
  obtain ⟨l, hch⟩ : ∃ l, Chain w3 (.iface T u) 3 l := HE3.out.elim (fun e => by cases e.1) id
  have HCh := Lib.hid hch
  clear hch HE3
  go_wp2_with fail
  refine (Err.fis_num (.iface T u) 3 3 l w3 HCh).mono ?_
  rintro e w4 ⟨rfl, hd⟩
  have H4 := Lib.hid (H3.out.on hd)
  have HB4 := below_to HB3 (Nat.le_refl _) hd
  have HX4 := blk_to HX3 hd
  clear hd H3 HB3 HX3 HCh
  have cx := Err.cell_of_blk HX4.out 0
  have c1 : w4.cell? ⟨Z, 1, none⟩ = some (.int .u32 0) := H4.out.cs.2.1
  have hbz := H4.out.blk
  have f1 : w4.frozen? ⟨Z, 1, none⟩ = false := by simp [World.frozen?, hbz]
  clear hbz
  go_upto_region 8 with fail
  have H5 := Lib.hid (H4.out.setGen 0).1
  have HB5 := Lib.hid (HB4.out.trans ((mod_cellZ w4 Z 1 (.int .u32 0)).below HB4.out.size (fun i hi (e : i = Z) => by have := HZH.out.1; omega)))
  clear cx c1 f1 H4 HB4 HX4
  generalize (w4.setCell ⟨Z, 1, none⟩ (.int .u32 0)) = w5 at *
  have hs5 : ({ s0 d with gen := 0 } : St) = s0 d := rfl
  rw [hs5] at H5
  clear hs5
  go_wp2_with (first | (refine wl_load_off aggM szM Z 2 (sa ⟨Z, R, M, H, v, .slice none 0 0⟩ oE emptyM (s0 d)) 82 eA.toList H5.out.blk rfl (off_e _ _) rfl _ rfl rfl ?_))
  have hbq : (s0 d).d.budget = -1 := hb.out
  refine (Switch_b Z R M H v (.slice none 0 0) oE emptyM (s0 d) oE emptyM tE 1 a w5 H5 hok (Int.le_refl _) (show (0 : Int) < 4294967295 by decide) rfl (Nat.zero_le _) (Nat.zero_le _) (Lib.hid (fun w2 _ _ => at_empty w2)) (Lib.hid (right_empty ⟨by show 2 ≤ d.size; omega, hsz2⟩)) (Lib.hid empty_fits) (Lib.hid empty_lay) (Lib.hid pages_tE) (Nat.le_refl _) (by decide) (fun x hx => by cases hx) hf ha0 hx hdn (by rw [hbq]; decide) (by rw [hbq]; decide) hl).mono ?_
  rintro e w6 (⟨_, rfl, o6, hi6, hs6⟩ | ⟨q0, _⟩)
  rotate_left
  · rw [hbq] at q0
    exact absurd q0 (by decide)
  rw [swB_S (s0 d) a hbq] at hi6
  have H6 := Lib.hid hi6
  have HS6 := Lib.hid hs6
  clear hi6 hs6
  go_wp2_with fail
  go_ret2
  refine ⟨Z, H, o6, HZH.out.1, HZH.out.2, rfl, H6.out, ?_⟩
  refine (Mod.of_below HB5.out (Nat.le_refl _)).trans HS6.out.mod (fun i hi f => ?_)
  rcases f with e | e | e | e
  · have := HZH.out.1; have e : i = Z := e; omega
  · have := HZH.out.2; have e : i = H := e; omega
  · exact e
  · cases e
theorem Format_nb (w : World) (R M : Nat) (v : Value) (n : Nat) (h : Hid (IsD w R M v (d0 n))) (h8 : 8 ≤ n) (h2 : n ≤ 2048) :
    Calls Tryz.prog 9 #[.pointer (some ⟨R, 0, none⟩)] w fun e w' => ∃ Z H o, w.heap.size ≤ Z ∧ w.heap.size ≤ H ∧ e = .returned (.tuple #[.pointer (some ⟨Z, 0, none⟩), .nilIface]) ∧ IsS w' ⟨Z, R, M, H, .slice none 0 0, .slice none 0 0⟩ o emptyM (sF n) ∧ Mod (Ft R M v) w w' :=
  Format_b w R M v (d0 n) 2 h (by show (8 : Int) ≤ (n : Int); omega) (by show (n : Int) ≤ 2048; omega) (may_0 n 0 (by omega) (by omega)) (may_0 n 1 (by omega) (by omega)) (best_0 n) (Lib.hid rfl) (Lib.hid rfl) (by show 0 + 1 ≤ 9000; omega) (Lib.hid (find_0 n (by omega))) (by decide) (by show (2 : Int) + 1 ≤ (n : Int); omega)
theorem put_Fb (n : Nat) (h8 : 8 ≤ n) (h2 : n ≤ 2048) (Z R M H : Nat) (o : Mni.Loc) (t : ByteArray) (k : Nat) (w : World) (h : Hid (IsS w ⟨Z, R, M, H, .slice none 0 0, .slice none 0 0⟩ o emptyM (sF n))) (hp : Hid (Blb.pagesV (t.size : Int) = (k : Int))) (hk : 1 ≤ k) (hts : t.size ≤ 16384) (hn : 3 + k ≤ n) :
    Calls Tryz.prog 11 #[.pointer (some ⟨Z, 0, none⟩), .string t] w fun e w' => e = .returned (.tuple #[.agg (ra ⟨3, (t.size : Int), AdM.sum t⟩), .nilIface]) ∧ ∃ v' p', IsS w' ⟨Z, R, M, H, v', p'⟩ o emptyM (putB (sF n) 3 t k) ∧ Stp w ⟨Z, R, M, H, .slice none 0 0, .slice none 0 0⟩ w' ⟨Z, R, M, H, v', p'⟩ := by
  refine (Put_b Z R M H _ _ o emptyM (sF n) t k 3 w h (ok_F n ⟨h8, h2⟩) hp hk hts (Lib.hid (find_F n k h8 hk hn)) (by decide) (by show (3 : Int) + (k : Int) ≤ (n : Int); omega) (Lib.hid rfl) (show (-1 : Int) ≤ -1 by decide) (show (-1 : Int) < 9223372036854775808 by decide) (by show 0 + k ≤ 9000; omega)).mono ?_
  rintro e w' (⟨_, e1, v', p', hi, hs⟩ | ⟨q0, _⟩)
  · exact ⟨e1, v', p', hi, hs⟩
  · exact absurd (show (0 : Int) ≤ -1 from q0) (by decide)
set_option maxHeartbeats 2000000 in
set_option maxRecDepth 100000 in
theorem awake_b (w : World) : Calls Tryz.prog 7 #[] w fun e w' => e = .returned (.bool true) ∧ Below w.heap.size w w' := by
  go_enter Tryz.func7, Tryz.ntmps7
  go_wp2_with fail
  refine (Dk.new_c w 20 (by decide) (by decide)).mono ?_
  rintro e w1 ⟨R, M, hR, hM, rfl, hd, hi⟩
  have H1 := Lib.hid (show IsD w1 R M (.slice none 0 0) (d0 20) from hi)
  have HB1 := Lib.hid hd
  have HRM := Lib.hid (And.intro hR hM)
  clear hR hM hd hi
  go_wp2_with fail
  refine (Format_nb w1 R M _ 20 H1 (by decide) (by decide)).mono ?_
  rintro e w2 ⟨Z, H, o, hZ, hH, rfl, hi, hm⟩
  have HU := Lib.hid (Run.new HB1.out HRM.out.1 HRM.out.2 hZ hH hm hi)
  clear hZ hH hi hm H1 HB1 HRM
  go_wp2_with fail
  refine (put_Fb 20 (by decide) (by decide) Z R M H o hello 1 w2 (Lib.hid HU.out.is) (Lib.hid (by decide)) (by decide) (by decide) (by decide)).mono ?_
  rintro e w3 ⟨rfl, v3, p3, hi, hs⟩
  have HU3 := Lib.hid (HU.out.step hs hi)
  clear hi hs HU
  obtain ⟨r, hr⟩ : ∃ r : Rf, r = ⟨3, (hello.size : Int), AdM.sum hello⟩ := ⟨_, rfl⟩
  rw [← hr]
  have hr0 : r.f0 = 3 := by rw [hr]
  clear hr
  go_upto_region 4 with (first | (refine wl_allocR rfl rfl ?_) | (refine wl_storeRn #[.int .i64 0, .int .i64 0, .int .u32 0] rfl r rfl _ _ rfl rfl rfl ?_))
  have hd4 : Below w3.heap.size w3 (w3.alloc (Obj.cells (ra r) 36 (0, 0))) := (Below.refl _ _).alloc (Nat.le_refl _) _
  have HK4 := Lib.hid (heap_alloc_last w3 (Obj.cells (ra r) 36 (0, 0)))
  have HU4 := Lib.hid (HU3.out.on hd4)
  obtain ⟨K, hK⟩ : ∃ K, w3.heap.size = K := ⟨_, rfl⟩
  rw [hK] at HK4
  simp only [hK]
  generalize (w3.alloc (Obj.cells (ra r) 36 (0, 0))) = w4 at *
  clear hK hd4 HU3
  go_wp2_with fail
  refine (code_nil w4).mono ?_
  rintro e w5 ⟨rfl, hd⟩
  have HU5 := Lib.hid (HU4.out.on hd)
  have HK5 := blk_to HK4 hd
  clear hd HU4 HK4
  go_wp2_with fail
  refine (code_nil w5).mono ?_
  rintro e w6 ⟨rfl, hd⟩
  have HU6 := Lib.hid (HU5.out.on hd)
  have HK6 := blk_to HK5 hd
  clear hd HU5 HK5
  go_wp2_with fail
  refine (code_nil w6).mono ?_
  rintro e w7 ⟨rfl, hd⟩
  have HU7 := Lib.hid (HU6.out.on hd)
  have HK7 := blk_to HK6 hd
  clear hd HU6 HK6
  have ck : w7.cell? ⟨K, 0, none⟩ = some (.int .i64 3) := by
    rw [← hr0]; exact Err.cell_of_blk HK7.out 0
  clear hr0
  go_wp2_with fail
  clear ck
  refine (Gen_c Z R M H v3 p3 o emptyM _ w7 (Lib.hid HU7.out.is)).mono ?_
  rintro e w8 ⟨rfl, hd⟩
  have HU8 := Lib.hid (HU7.out.on hd)
  have eg : (putB (sF 20) 3 hello 1).gen = 1 := rfl
  rw [eg]
  clear hd HU7 HK7 eg
  go_wp2_with fail
  go_ret
  exact ⟨rfl, HU8.out.bel⟩
end Go.Proofs.YtaodgnladjafoaaGreatDoor.Sto
