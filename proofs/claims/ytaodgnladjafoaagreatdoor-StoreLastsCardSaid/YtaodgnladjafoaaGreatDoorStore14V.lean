/- Words that the proof uses. -/
import Derived.Test.YtaodgnladjafoaaGreatDoorStore10V
import Derived.Test.YtaodgnladjafoaaGreatDoorStore13V
import Derived.Test.YtaodgnladjafoaaGreatDoorKeep0V
set_option linter.unusedVariables false
set_option linter.unusedSimpArgs false
namespace Go.Proofs.YtaodgnladjafoaaGreatDoor.Sto
open Go.RowKit Go.Proofs.YtaodgnladjafoaaGreatDoorW.PrintWords Go.Proofs.YtaodgnladjafoaaGreatDoorW.PrintLast Go.Proofs.YtaodgnladjafoaaGreatDoorW.PrintMore Go.Proofs.YtaodgnladjafoaaGreatDoor.Md Go.Proofs.YtaodgnladjafoaaGreatDoor.Mni Go.Proofs.YtaodgnladjafoaaGreatDoor.QStoreLasts
open Go.Proofs.YtaodgnladjafoaaGreatDoor.Dk (Dsk IsD Ft)
open Go.Proofs.YtaodgnladjafoaaGreatDoor.Slt (Sl switched flushed switch_ok switch_spent)
open Go.Proofs.YtaodgnladjafoaaGreatDoor.Err (Laid IsErr code_nil code_c Chain at_some at_nil)
theorem switch_any (w : World) (R M : Nat) (v : Value) (d : Dsk) (s : Sl) (h : Hid (IsD w R M v d)) (hr : s.Rt) (hdn : Hid (d.down = false)) (hsz : 2 ≤ d.size) (hb0 : -1 ≤ d.budget) (hb1 : d.budget < 9223372036854775808) (hl : d.soft.length ≤ 9000) :
  Calls Tryz.prog 41 #[.pointer (some ⟨R, 0, none⟩), .agg s.a] w fun ev w' => (d.budget ≠ 0 ∧ ev = .returned .nilIface ∧ Mod (Ft R M v) w w' ∧ IsD w' R M (.slice none 0 0) (switched d s)) ∨ (d.budget = 0 ∧ (∃ T u, ev = .returned (.iface T u) ∧ IsErr w' (.iface T u) 10) ∧ Mod (Ft R M v) w w' ∧ IsD w' R M (.slice none 0 0) (flushed d)) := by
 by_cases hb : d.budget = 0
 ·exact (switch_spent w R M v d s h hr hdn hsz hb hl).mono (fun _ _ q => .inr ⟨hb, q⟩)
 ·exact (switch_ok w R M v d s h hr hdn hsz hb hb0 hb1 hl).mono (fun _ _ q => .inl ⟨hb, q⟩)
set_option maxHeartbeats 8000000 in
set_option maxRecDepth 100000 in
theorem Switch_b (Z R M H : Nat) (v p : Value) (o : Mni.Loc) (m : Man) (s : St) (o1 : Mni.Loc) (m1 : Man) (tM : ByteArray) (n1 : Nat) (a : Int) (w : World) (h : Hid (IsS w ⟨Z, R, M, H, v, p⟩ o m s)) (hok : Ok m s) (hg0 : 0 ≤ s.gen) (hg1 : s.gen < 4294967295) (hs1 : m1.snaps = []) (hr1 : m1.refs.length ≤ 1000000) (hk1 : m1.stack.length ≤ 1000000) (HA : Hid (ManOut w ⟨Z, R, M, H, v, p⟩ o1 m1)) (HRm : Hid (rightM m1 s.d.size = true)) (HFm : Hid (Fits m1)) (HTm : Hid (layM m1 = tM)) (hp1 : Hid (Blb.pagesV (tM.size : Int) = (n1 : Int))) (hn1 : 1 ≤ n1) (ht1 : tM.size ≤ 16384) (hno : ∀ x ∈ s.put, sameR x ⟨a, (tM.size : Int), AdM.sum tM⟩ = false) (hf : Hid (SpM.find (used m s) (n1 : Int) (used m s).length 0 = (a, true))) (ha0 : 0 ≤ a) (hx : a + (n1 : Int) ≤ s.d.size) (hdn : Hid (s.d.down = false)) (hb0 : -1 ≤ s.d.budget) (hb1 : s.d.budget < 9223372036854775808) (hl : s.d.soft.length + n1 ≤ 9000) :
  Calls Tryz.prog 12 #[.pointer (some ⟨Z, 0, none⟩), .agg (Loc.a o1 m1)] w fun e w' => ((s.d.budget = -1 ∨ (n1 : Int) < s.d.budget) ∧ e = .returned .nilIface ∧ ∃ o2, IsS w' ⟨Z, R, M, H, .slice none 0 0, .slice none 0 0⟩ o2 m1 (swB s a tM n1) ∧ Stp w ⟨Z, R, M, H, v, p⟩ w' ⟨Z, R, M, H, .slice none 0 0, .slice none 0 0⟩) ∨
   (0 ≤ s.d.budget ∧ s.d.budget ≤ (n1 : Int) ∧ (∃ T u, e = .returned (.iface T u) ∧ IsErr w' (.iface T u) 10) ∧ ∃ v' p' d', (d' = flushed { s.d with soft := s.d.soft ++ Blb.pgs tM a n1, budget := 0 } ∨ (s.d.budget < (n1 : Int) ∧ d' = { s.d with soft := s.d.soft ++ Blb.pgs tM a s.d.budget.toNat, budget := 0 })) ∧ IsS w' ⟨Z, R, M, H, v', p'⟩ o m { s with d := d' } ∧ Stp w ⟨Z, R, M, H, v, p⟩ w' ⟨Z, R, M, H, v', p'⟩) := by
 have hs2 := rightM_sz hok.rt
 have hpl := hok.pl
 have hrt : (Sl.mk (s.gen + 1) a (tM.size : Int) (AdM.sum tM)).Rt := by
  have z := Slt.sum_lt tM
  exact ⟨by show 0 < s.gen + 1; omega, by show s.gen + 1 < 4294967296; omega, ha0, by show a ≤ 2048; omega, by show (0 : Int) ≤ (tM.size : Int); omega, by show (tM.size : Int) ≤ 16384; omega, z.1, z.2⟩
 have q1 : IntKind.u32.wrap (s.gen + 1) = s.gen + 1 := IntWalk.u32_in _ (by omega)
 have hm1 : m1.snaps.length ≤ 1000000 := by rw [hs1]; exact Nat.zero_le _
 have t1 : (s.gen == 4294967295) = false := beq_eq_false_iff_ne.2 (by omega)
 have HP0 := h.out.lt
 go_enter Tryz.func12, Tryz.ntmps12
 go_upto_region 1 with fail
 have hd1 : Below w.heap.size w (w.alloc (Obj.cells (Loc.a o1 m1) 43 (0, 0))) := (Below.refl _ _).alloc (Nat.le_refl _) _
 have HP1 := Lib.hid (heap_alloc_last w (Obj.cells (Loc.a o1 m1) 43 (0, 0)))
 have H1 := Lib.hid (h.out.on hd1)
 have HB1 := Lib.hid hd1
 obtain ⟨P, hP⟩ : ∃ P, w.heap.size = P := ⟨_, rfl⟩
 have HW := Lib.hid hP
 rw [hP] at HP1 HP0
 try simp only [hP]
 generalize (w.alloc (Obj.cells (Loc.a o1 m1) 43 (0, 0))) = w1 at *
 have HPf0 := Lib.hid (show ¬ Fs ⟨Z, R, M, H, v, p⟩ P from fun f => Nat.lt_irrefl _ (HP0 P f))
 have HA1 := Lib.hid (HA.out.on hd1)
 clear hd1 hP HP0 h HA
 go_upto_region 3 with fail
 have hdd : Below w1.heap.size w1 (World.drew w1) := (Below.refl _ _).drew
 have Hd := Lib.hid (H1.out.on hdd)
 have HBd := below_to HB1 (Nat.le_refl _) hdd
 have HPd := blk_to HP1 hdd
 have HAd := Lib.hid (HA1.out.on hdd)
 clear hdd H1 HB1 HP1 HA1
 refine start_ (n := 12) (S := fun w' => w'.heap[P]? = some (Obj.cells (Loc.a o1 m1) 43 (0, 0)) ∧ w'.cell? ⟨Z, 0, none⟩ = some (.pointer (some ⟨R, 0, none⟩))) (ds := []) (bzz 12 0) (by kernel_rfl) rfl rfl ⟨HPd.out, Hd.out.cs.1⟩ (fun hHeld => ?_)
 refine rpz 1 15 ?_ (bzz 12 2) rfl rfl ?_ ?_ ?_ ?_
 rotate_left
 ·intro w'
  go_simp
  with_reducible rfl
 rotate_left
 ·simp only [zaP, zsA, zsZ, zsS, i64_w, i32_w]
  rfl
 refine rpz 2 16 ?_ (bzz 12 6) rfl rfl ?_ ?_ ?_ ?_
 rotate_left
 ·intro w'
  go_simp
  with_reducible rfl
 rotate_left
 ·simp only [zaP, zsA, zsZ, zsS, i64_w, i32_w]
  rfl
 refine rpz 3 17 ?_ (bzz 12 14) rfl rfl ?_ ?_ ?_ ?_
 rotate_left
 ·intro w'
  go_simp
  with_reducible rfl
 rotate_left
 ·simp only [zaP, zsA, zsZ, zsS, i64_w, i32_w]
  rfl
 refine rtz 0 14 ?_ (bzz 12 15) rfl rfl hHeld ?_ ?_ ?_ ?_
 rotate_left
 ·rintro w' ⟨s0, s1⟩
  refine (exec_loadM (x := .tmp 3) ?_ ?_  s0).trans ?_
  ·rfl
  ·rfl
  ·with_reducible rfl
 rotate_left
 ·simp only [zaP, zsA, zsZ, zsS, i64_w, i32_w]
  rfl
 refine rtz 4 18 ?_ (bzz 12 31) rfl rfl hHeld ?_ ?_ ?_ ?_
 rotate_left
 ·rintro w' ⟨s0, s1⟩
  go_simp
  with_reducible rfl
 rotate_left
 ·simp only [zaP, zsA, zsZ, zsS, i64_w, i32_w]
  rfl
 refine roz 5 19 (bzz 12 63) rfl rfl (fun K hK => ?_)
 refine goes_ Tryz.func39 (by kernel_rfl) rfl #[.pointer (some ⟨R, 0, none⟩)] (by rfl) rfl rfl (by simp only [List.map_toArray, List.map_cons, List.map_nil]; rfl) ?_
 with_reducible refine (Dk.size_c _ R M v s.d (Lib.hid Hd.out.dsk)).mono ?_
 rintro e w3 ⟨rfl, hd⟩
 refine ⟨_, rfl, ?_⟩
 have H3 := Lib.hid (Hd.out.on hd)
 have HB3 := below_to HBd (Nat.le_refl _) hd
 have HP3 := blk_to HPd hd
 have HA3 := Lib.hid (HAd.out.on hd)
 clear hd
 refine hK.out _ _ ⟨HP3.out, H3.out.cs.1⟩ (fun hHeld => ?_)
 clear hK K
 refine norm_ (a' := ?_) ?_ ?_
 rotate_left
 ·show Act.put _ (some 19) _ = _
  simp only [zaP, zsA, zsZ, zsS, i64_w, i32_w]
  rfl
 refine roz 6 20 (bzz 12 127) rfl rfl (fun K hK => ?_)
 refine goes_ Tryz.func38 (by kernel_rfl) rfl #[.agg (Loc.a o1 m1), .int .i64 s.d.size] (by rfl) rfl rfl (by simp only [List.map_toArray, List.map_cons, List.map_nil]; rfl) ?_
 with_reducible refine (lay_yes o1 m1 s.d.size _ (Lib.hid HA3.out.at) hm1 hr1 HRm HFm).mono ?_
 rintro e w4 ⟨rfl, hd⟩
 refine ⟨_, rfl, ?_⟩
 have H4 := Lib.hid (H3.out.on hd)
 have HB4 := below_to HB3 (Nat.le_refl _) hd
 have HP4 := blk_to HP3 hd
 have HA4 := Lib.hid (HA3.out.on hd)
 clear hd
 rw [HTm.out]
 refine hK.out _ _ ⟨HP4.out, H4.out.cs.1⟩ (fun hHeld => ?_)
 clear hK K
 refine norm_ (a' := ?_) ?_ ?_
 rotate_left
 ·show Act.put _ (some 20) _ = _
  simp only [zaP, zsA, zsZ, zsS, i64_w, i32_w]
  rfl
 refine rpz 7 13 ?_ (bzz 12 255) rfl rfl ?_ ?_ ?_ ?_
 rotate_left
 ·intro w'
  go_simp
  with_reducible rfl
 rotate_left
 ·simp only [zaP, zsA, zsZ, zsS, i64_w, i32_w]
  rfl
 refine rpz 8 21 ?_ (bzz 12 511) rfl rfl ?_ ?_ ?_ ?_
 rotate_left
 ·intro w'
  go_simp
  with_reducible rfl
 rotate_left
 ·simp only [zaP, zsA, zsZ, zsS, i64_w, i32_w]
  rfl
 refine rpz 9 22 ?_ (bzz 12 1023) rfl rfl ?_ ?_ ?_ ?_
 rotate_left
 ·intro w'
  go_simp
  with_reducible rfl
 rotate_left
 ·simp only [zaP, zsA, zsZ, zsS, i64_w, i32_w]
  rfl
 refine rpz 10 5 ?_ (bzz 12 2047) rfl rfl ?_ ?_ ?_ ?_
 rotate_left
 ·intro w'
  go_simp
  with_reducible rfl
 rotate_left
 ·simp only [zaP, zsA, zsZ, zsS, i64_w, i32_w]
  rfl
 refine rpz 11 6 ?_ (bzz 12 4095) rfl rfl ?_ ?_ ?_ ?_
 rotate_left
 ·intro w'
  go_simp
  with_reducible rfl
 rotate_left
 ·simp only [zaP, zsA, zsZ, zsS, i64_w, i32_w]
  rfl
 refine done_ (by kernel_rfl) ?_
 clear hHeld Hd HBd HPd H3 HB3 HP3 HAd HA3
 have HS4 := Lib.hid (Stp.of_below (q := ⟨Z, R, M, H, v, p⟩) HB4.out)
 clear HB4
 have c1 := H4.out.cs.2.1
 go_wp2_with fail
 clear c1
 refine (Put_b Z R M H v p o m s tM n1 a w4 H4 hok hp1 hn1 ht1 hf ha0 hx hdn hb0 hb1 hl).mono ?_
 rintro e w5 (⟨hgo, rfl, v5, p5, hi5, hs5⟩ | ⟨hg0', hg1', ⟨T5, u5, rfl, he5⟩, v5, hi5, hs5⟩)
 ·have hp5 := hs5.out (Err.lt_of_block HP4.out) HPf0.out
  have H5 := Lib.hid hi5
  have HP5 := Lib.hid (hp5.2.trans HP4.out)
  have HPf5 := Lib.hid hp5.1
  have HS5 := Lib.hid (HS4.out.trans hs5)
  have HA5 := Lib.hid (HA4.out.of hs5)
  clear hi5 HA4 hs5 hp5 HS4 H4 HP4 HPf0
  obtain ⟨r, hr⟩ : ∃ r : Rf, r = ⟨a, (tM.size : Int), AdM.sum tM⟩ := ⟨_, rfl⟩
  have hput : (putB s a tM n1).put = s.put ++ [r] := by rw [hr]; rfl
  rw [← hr] at hno ⊢
  have hrt2 : (Sl.mk (s.gen + 1) r.f0 r.f1 r.f2).Rt := by rw [hr]; exact hrt
  have HR := Lib.hid hr
  clear hr hrt
  go_upto_if 42 with (first | (refine wl_allocR rfl rfl ?_) | (refine wl_storeRn #[.int .i64 0, .int .i64 0, .int .u32 0] rfl r rfl _ _ rfl rfl rfl ?_))
  have hd6 : Below w5.heap.size w5 (w5.alloc (Obj.cells (ra r) 36 (0, 0))) := (Below.refl _ _).alloc (Nat.le_refl _) _
  have HK6 := Lib.hid (heap_alloc_last w5 (Obj.cells (ra r) 36 (0, 0)))
  have hlt5 := H5.out.lt
  have H6 := Lib.hid (H5.out.on hd6)
  have HS6 := Lib.hid (HS5.out.below hd6)
  have HP6 := blk_to HP5 hd6
  have HA6 := Lib.hid (HA5.out.on hd6)
  obtain ⟨K, hK⟩ : ∃ K, w5.heap.size = K := ⟨_, rfl⟩
  rw [hK] at HK6 hlt5
  simp only [hK]
  generalize (w5.alloc (Obj.cells (ra r) 36 (0, 0))) = w6 at *
  have HKf6 := Lib.hid (show ¬ Fs ⟨Z, R, M, H, v5, p5⟩ K from fun hf => Nat.lt_irrefl _ (hlt5 K hf))
  clear hK hd6 hlt5 H5 HS5 HP5 HA5
  go_wp2_with (first | (refine wl_loadR K r HK6.out rfl _ rfl rfl ?_))
  refine (without_c Z R M H v5 p5 o m (putB s a tM n1) s.put r w6 H6 hpl hno hput).mono ?_
  rintro e w7 ⟨rfl, p7, hi7, hs7⟩
  have hp7 := hs7.out (Err.lt_of_block HP6.out) HPf5.out
  have hk7 := hs7.out (Err.lt_of_block HK6.out) HKf6.out
  have HP7 := Lib.hid (hp7.2.trans HP6.out)
  have HPf := Lib.hid hp7.1
  have HK7 := Lib.hid (hk7.2.trans HK6.out)
  have HKf := Lib.hid hk7.1
  have HS7 := Lib.hid (HS6.out.trans hs7)
  have HA7 := Lib.hid (HA6.out.of hs7)
  obtain ⟨s6, hs6e⟩ : ∃ s6 : St, { putB s a tM n1 with put := s.put } = s6 := ⟨_, rfl⟩
  rw [hs6e] at hi7
  have H7 := Lib.hid hi7
  have e1 : s6.gen = s.gen := by rw [← hs6e]; rfl
  have e2 : s6.d = { s.d with soft := s.d.soft ++ Blb.pgs tM a n1, budget := Blb.bud s.d.budget n1 } := by rw [← hs6e]; rfl
  have HDn := Lib.hid (show s6.d.down = false by rw [e2]; exact hdn.out)
  have HBg := Lib.hid (show s6.d.budget = Blb.bud s.d.budget n1 by rw [e2])
  have HE2 := Lib.hid e2
  have hbu : -1 ≤ Blb.bud s.d.budget n1 ∧ Blb.bud s.d.budget n1 < 9223372036854775808 := by
   unfold Blb.bud
   split <;> omega
  have hs6 : 2 ≤ s6.d.size := by rw [e2]; exact hs2.1
  have hl6 : s6.d.soft.length ≤ 9000 := by
   rw [e2]
   show (s.d.soft ++ Blb.pgs tM a n1).length ≤ 9000
   rw [List.length_append, Blb.pgs_length]
   omega
  have HE := Lib.hid hs6e
  have HE1 := Lib.hid e1
  clear hp7 hk7 hi7 hs7 hs6e e1 e2 H6 HP6 HK6 HPf5 HKf6 HS6 hput HA6
  go_upto_region 12 with fail
  have hdd : Below w7.heap.size w7 (World.drew w7) := (Below.refl _ _).drew
  have hd0 := H7.out.on hdd
  have HKd := blk_to HK7 hdd
  have HPd := blk_to HP7 hdd
  have HSd := Lib.hid (HS7.out.below hdd)
  have HAd := Lib.hid (HA7.out.on hdd)
  obtain ⟨g0, hg0e⟩ : ∃ g0, s6.gen = g0 := ⟨_, rfl⟩
  have Hd := Lib.hid hd0
  clear hdd hd0 H7 HK7 HP7 HS7 HA7
  refine start_ (n := 13) (S := fun w' => w'.cell? ⟨Z, 0, none⟩ = some (.pointer (some ⟨R, 0, none⟩)) ∧ w'.cell? ⟨Z, 1, none⟩ = some (.int .u32 s.gen) ∧ w'.heap[K]? = some (Obj.cells (ra r) 36 (0, 0))) (ds := []) (bzz 13 0) (by kernel_rfl) rfl rfl ⟨Hd.out.cs.1, (by rw [← HE1.out]; exact Hd.out.cs.2.1), HKd.out⟩ (fun hHeld => ?_)
  refine rpz 0 47 ?_ (bzz 13 1) rfl rfl ?_ ?_ ?_ ?_
  rotate_left
  ·intro w'
   go_simp
   with_reducible rfl
  rotate_left
  ·simp only [zaP, zsA, zsZ, zsS, i64_w, i32_w]
   rfl
  refine rpz 1 48 ?_ (bzz 13 3) rfl rfl ?_ ?_ ?_ ?_
  rotate_left
  ·intro w'
   go_simp
   with_reducible rfl
  rotate_left
  ·simp only [zaP, zsA, zsZ, zsS, i64_w, i32_w]
   rfl
  refine rpz 2 49 ?_ (bzz 13 7) rfl rfl ?_ ?_ ?_ ?_
  rotate_left
  ·intro w'
   go_simp
   with_reducible rfl
  rotate_left
  ·simp only [zaP, zsA, zsZ, zsS, i64_w, i32_w]
   rfl
  refine rpz 4 51 ?_ (bzz 13 23) rfl rfl ?_ ?_ ?_ ?_
  rotate_left
  ·intro w'
   go_simp
   with_reducible rfl
  rotate_left
  ·simp only [zaP, zsA, zsZ, zsS, i64_w, i32_w]
   rfl
  refine rpz 5 52 ?_ (bzz 13 55) rfl rfl ?_ ?_ ?_ ?_
  rotate_left
  ·intro w'
   go_simp
   with_reducible rfl
  rotate_left
  ·simp only [zaP, zsA, zsZ, zsS, i64_w, i32_w]
   rfl
  refine rpz 6 53 ?_ (bzz 13 119) rfl rfl ?_ ?_ ?_ ?_
  rotate_left
  ·intro w'
   go_simp
   with_reducible rfl
  rotate_left
  ·simp only [zaP, zsA, zsZ, zsS, i64_w, i32_w]
   rfl
  refine rtz 3 50 ?_ (bzz 13 127) rfl rfl hHeld ?_ ?_ ?_ ?_
  rotate_left
  ·rintro w' ⟨s0, s1, s2⟩
   go_simp
   with_reducible rfl
  rotate_left
  ·simp only [zaP, zsA, zsZ, zsS, i64_w, i32_w]
   rfl
  refine rtz 7 54 ?_ (bzz 13 255) rfl rfl hHeld ?_ ?_ ?_ ?_
  rotate_left
  ·rintro w' ⟨s0, s1, s2⟩
   go_simp
   with_reducible rfl
  rotate_left
  ·simp only [zaP, zsA, zsZ, zsS, i64_w, i32_w]
   rfl
  refine rpz 8 55 ?_ (bzz 13 511) rfl rfl ?_ ?_ ?_ ?_
  rotate_left
  ·intro w'
   go_simp
   with_reducible rfl
  rotate_left
  ·simp only [zaP, zsA, zsZ, zsS, i64_w, i32_w]
   rfl
  refine rtz 9 56 ?_ (bzz 13 1023) rfl rfl hHeld ?_ ?_ ?_ ?_
  rotate_left
  ·rintro w' ⟨s0, s1, s2⟩
   refine (exec_loadRl (x := .tmp 7) ?_ ?_  s2).trans ?_
   ·rfl
   ·rfl
   ·with_reducible rfl
  rotate_left
  ·simp only [zaP, zsA, zsZ, zsS, i64_w, i32_w]
   rfl
  refine rpz 10 57 ?_ (bzz 13 2047) rfl rfl ?_ ?_ ?_ ?_
  rotate_left
  ·intro w'
   go_simp
   with_reducible rfl
  rotate_left
  ·simp only [zaP, zsA, zsZ, zsS, i64_w, i32_w]
   rfl
  refine roz 11 58 (bzz 13 4095) rfl rfl (fun K hK => ?_)
  refine goes_ Tryz.func41 (by kernel_rfl) rfl #[.pointer (some ⟨R, 0, none⟩), .agg (Sl.a ⟨s.gen + 1, r.f0, r.f1, r.f2⟩)] (by rfl) rfl rfl (by simp only [List.map_toArray, List.map_cons, List.map_nil]; rfl) ?_
  with_reducible refine (switch_any _ R M v5 s6.d ⟨s.gen + 1, r.f0, r.f1, r.f2⟩ (Lib.hid Hd.out.dsk) hrt2 HDn hs6 (by rw [HBg.out]; exact hbu.1) (by rw [HBg.out]; exact hbu.2) hl6).mono ?_
  rintro e w9 (⟨hnz, rfl, hm, hd9⟩ | ⟨hz0, ⟨T9, u9, rfl, he9⟩, hm, hd9⟩)
  ·refine ⟨_, rfl, ?_⟩
   obtain ⟨hi9, hst9⟩ := Hd.out.disk hm hd9 Slt.ft_nil
   have ho9 := hst9.out (Err.lt_of_block HKd.out) HKf.out
   have hp9 := hst9.out (Err.lt_of_block HPd.out) HPf.out
   have H9 := Lib.hid hi9
   have HS9 := Lib.hid (HSd.out.trans hst9)
   have HA9 := Lib.hid (HAd.out.of hst9)
   have HK9 := Lib.hid (ho9.2.trans HKd.out)
   have HP9 := Lib.hid (hp9.2.trans HPd.out)
   have HKf9 := Lib.hid ho9.1
   have HPf9 := Lib.hid hp9.1
   clear hm hd9 hi9 hst9 ho9 hp9
   refine hK.out _ _ ⟨H9.out.cs.1, (by rw [← HE1.out]; exact H9.out.cs.2.1), HK9.out⟩ (fun hHeld => ?_)
   clear hK K
   refine norm_ (a' := ?_) ?_ ?_
   rotate_left
   ·show Act.put _ (some 58) _ = _
    simp only [zaP, zsA, zsZ, zsS, i64_w, i32_w]
    rfl
   refine rpz 12 8 ?_ (bzz 13 8191) rfl rfl ?_ ?_ ?_ ?_
   rotate_left
   ·intro w'
    go_simp
    with_reducible rfl
   rotate_left
   ·simp only [zaP, zsA, zsZ, zsS, i64_w, i32_w]
    rfl
   refine done_ (by kernel_rfl) ?_
   clear hHeld Hd HKd HPd HSd HAd
   go_upto_region 15 with fail
   have hdd : Below w9.heap.size w9 (World.drew w9) := (Below.refl _ _).drew
   have H10 := Lib.hid (H9.out.on hdd)
   have HS10 := Lib.hid (HS9.out.below hdd)
   have HK10 := blk_to HK9 hdd
   have HP10 := blk_to HP9 hdd
   have HA10 := Lib.hid (HA9.out.on hdd)
   have HPZ := Lib.hid (show ¬ (P = Z) from fun e => HPf9.out (.inl e))
   have HKZ := Lib.hid (show ¬ (K = Z) from fun e => HKf9.out (.inl e))
   have c1 : (World.drew w9).cell? ⟨Z, 1, none⟩ = some (.int .u32 s.gen) := by rw [← HE1.out]; exact H10.out.cs.2.1
   have HLt := Lib.hid H10.out.lt
   clear hdd H9 HS9 HK9 HP9 HA9
   refine start_ (n := 24) (S := fun w' => w'.heap[P]? = some (Obj.cells (Loc.a o1 m1) 43 (0, 0)) ∧ w'.heap[K]? = some (Obj.cells (ra r) 36 (0, 0))) (ds := [20, 23]) (bzz 24 0) (by kernel_rfl) rfl rfl ⟨HP10.out, HK10.out⟩ (fun hHeld => ?_)
   refine rpz 0 62 ?_ (bzz 24 1) rfl rfl ?_ ?_ ?_ ?_
   rotate_left
   ·intro w'
    go_simp
    with_reducible rfl
   rotate_left
   ·simp only [zaP, zsA, zsZ, zsS, i64_w, i32_w]
    rfl
   refine rpz 1 63 ?_ (bzz 24 3) rfl rfl ?_ ?_ ?_ ?_
   rotate_left
   ·intro w'
    go_simp
    with_reducible rfl
   rotate_left
   ·simp only [zaP, zsA, zsZ, zsS, i64_w, i32_w]
    rfl
   refine rpz 2 64 ?_ (bzz 24 7) rfl rfl ?_ ?_ ?_ ?_
   rotate_left
   ·intro w'
    go_simp
    with_reducible rfl
   rotate_left
   ·simp only [zaP, zsA, zsZ, zsS, i64_w, i32_w]
    rfl
   refine rpz 3 65 ?_ (bzz 24 15) rfl rfl ?_ ?_ ?_ ?_
   rotate_left
   ·intro w'
    go_simp
    with_reducible rfl
   rotate_left
   ·simp only [zaP, zsA, zsZ, zsS, i64_w, i32_w]
    rfl
   refine rpz 4 66 ?_ (bzz 24 31) rfl rfl ?_ ?_ ?_ ?_
   rotate_left
   ·intro w'
    go_simp
    with_reducible rfl
   rotate_left
   ·simp only [zaP, zsA, zsZ, zsS, i64_w, i32_w]
    rfl
   refine rpz 5 67 ?_ (bzz 24 63) rfl rfl ?_ ?_ ?_ ?_
   rotate_left
   ·intro w'
    go_simp
    with_reducible rfl
   rotate_left
   ·simp only [zaP, zsA, zsZ, zsS, i64_w, i32_w]
    rfl
   refine rpz 6 68 ?_ (bzz 24 127) rfl rfl ?_ ?_ ?_ ?_
   rotate_left
   ·intro w'
    go_simp
    with_reducible rfl
   rotate_left
   ·simp only [zaP, zsA, zsZ, zsS, i64_w, i32_w]
    rfl
   refine rtz 9 71 ?_ (bzz 24 639) rfl rfl hHeld ?_ ?_ ?_ ?_
   rotate_left
   ·rintro w' ⟨s0, s1⟩
    refine (exec_loadM (x := .tmp 3) ?_ ?_  s0).trans ?_
    ·rfl
    ·rfl
    ·with_reducible rfl
   rotate_left
   ·simp only [zaP, zsA, zsZ, zsS, i64_w, i32_w]
    rfl
   refine rtz 11 73 ?_ (bzz 24 2687) rfl rfl hHeld ?_ ?_ ?_ ?_
   rotate_left
   ·rintro w' ⟨s0, s1⟩
    refine (exec_loadR (x := .tmp 7) ?_ ?_  s1).trans ?_
    ·rfl
    ·rfl
    ·with_reducible rfl
   rotate_left
   ·simp only [zaP, zsA, zsZ, zsS, i64_w, i32_w]
    rfl
   refine join_ (σ := Mni.Loc) 12 #[true, true, true, true, true, true, true, true, true, true, true, true, false, false, false, false, false, false, false, false, false, false, false, false] (fun o2 => [(69, .int .u32 s.gen), (70, .int .u32 (s.gen + 1)), (72, .agg (Loc.a o2 m1))]) (fun o2 w' => Below (World.drew w9).heap.size (World.drew w9) w' ∧ OwnM (World.drew w9).heap.size w' o2 m1) ?_ ?_
   rotate_left
   ·intro hCont
    refine two_ (i := 7) (j := 10) (Ni := some 69) (Nj := some 72) (bzz 24 2815) (bzz 24 3711) rfl rfl rfl rfl (by kernel_rfl) (by decide) (by decide) (fun K hK => ?_) (fun K hK => ?_)
    ·skip
     refine value_ (w1 := ?_) (v := ?_) (by rfl) rfl ?_ ?_
     rotate_left 2
     ·go_simp
      constructor
      ·rfl
      ·rfl
     refine hK.out _ _ ⟨HP10.out, HK10.out⟩ (fun hHeld => ?_)
     clear hK K
     refine norm_ (a' := ?_) ?_ ?_
     rotate_left
     ·show Act.put _ (some 69) _ = _
      simp only [zaP, zsA, zsZ, zsS, i64_w, i32_w]
      rfl
     refine rpz 8 70 ?_ (bzz 24 3071) rfl rfl ?_ ?_ ?_ ?_
     rotate_left
     ·intro w'
      go_simp
      with_reducible rfl
     rotate_left
     ·simp only [zaP, zsA, zsZ, zsS, i64_w, i32_w]
      rfl
     refine roz 10 72 (bzz 24 4095) rfl rfl (fun K hK => ?_)
     refine goes_ Tryz.func42 (by kernel_rfl) rfl #[.agg (Loc.a o1 m1)] (by rfl) rfl rfl (by simp only [List.map_toArray, List.map_cons, List.map_nil]; rfl) ?_
     with_reducible refine (copied_m o1 m1 hs1 _ (Lib.hid HA10.out.at) hr1 hk1).mono ?_
     rintro e w11 ⟨o2, rfl, hO, hd⟩
     refine ⟨_, rfl, ?_⟩
     have HK11 := blk_to HK10 hd
     have HP11 := blk_to HP10 hd
     have c1b := (hd.cell (World.block_lt_of_cell? _ _ c1)).trans c1
     refine hK.out _ _ ⟨HP11.out, HK11.out⟩ (fun hHeld => ?_)
     clear hK K
     refine norm_ (a' := ?_) ?_ ?_
     rotate_left
     ·show Act.put _ (some 72) _ = _
      simp only [zaP, zsA, zsZ, zsS, i64_w, i32_w]
      rfl
     exact norm_ (by simp only [putAll, Act.put, List.setIfInBounds_toArray, List.set_cons_zero, List.set_cons_succ]) (hCont o2 _ ⟨hd, hO⟩)
    ·skip
     refine goes_ Tryz.func42 (by kernel_rfl) rfl #[.agg (Loc.a o1 m1)] (by rfl) rfl rfl (by simp only [List.map_toArray, List.map_cons, List.map_nil]; rfl) ?_
     with_reducible refine (copied_m o1 m1 hs1 _ (Lib.hid HA10.out.at) hr1 hk1).mono ?_
     rintro e w11 ⟨o2, rfl, hO, hd⟩
     refine ⟨_, rfl, ?_⟩
     have HK11 := blk_to HK10 hd
     have HP11 := blk_to HP10 hd
     have c1b := (hd.cell (World.block_lt_of_cell? _ _ c1)).trans c1
     refine hK.out _ _ ⟨HP11.out, HK11.out⟩ (fun hHeld => ?_)
     clear hK K
     refine norm_ (a' := ?_) ?_ ?_
     rotate_left
     ·show Act.put _ (some 72) _ = _
      simp only [zaP, zsA, zsZ, zsS, i64_w, i32_w]
      rfl
     refine roz 7 69 (bzz 24 3839) rfl rfl (fun K hK => ?_)
     refine value_ (w1 := ?_) (v := ?_) (by rfl) rfl ?_ ?_
     rotate_left 2
     ·go_simp
      constructor
      ·rfl
      ·rfl
     refine hK.out _ _ ⟨HP11.out, HK11.out⟩ (fun hHeld => ?_)
     clear hK K
     refine norm_ (a' := ?_) ?_ ?_
     rotate_left
     ·show Act.put _ (some 69) _ = _
      simp only [zaP, zsA, zsZ, zsS, i64_w, i32_w]
      rfl
     refine rpz 8 70 ?_ (bzz 24 4095) rfl rfl ?_ ?_ ?_ ?_
     rotate_left
     ·intro w'
      go_simp
      with_reducible rfl
     rotate_left
     ·simp only [zaP, zsA, zsZ, zsS, i64_w, i32_w]
      rfl
     exact norm_ (by simp only [putAll, Act.put, List.setIfInBounds_toArray, List.set_cons_zero, List.set_cons_succ]) (hCont o2 _ ⟨hd, hO⟩)
   rintro o2 w11 ⟨hd, hO⟩
   have H11 := Lib.hid (H10.out.on hd)
   have HO11 := Lib.hid hO
   clear hO
   have HS11 := Lib.hid (HS10.out.below hd)
   have HK11 := blk_to HK10 hd
   have HP11 := blk_to HP10 hd
   clear hd c1
   have HB11 := Lib.hid H11.out.blk
   have c1 : w11.cell? ⟨Z, 1, none⟩ = some (.int .u32 s.gen) := by rw [← HE1.out]; exact H11.out.cs.2.1
   have f1 : w11.frozen? ⟨Z, 1, none⟩ = false := by simp [World.frozen?, HB11.out]
   have hHeld : w11.heap[P]? = some (Obj.cells (Loc.a o1 m1) 43 (0, 0)) ∧ w11.heap[K]? = some (Obj.cells (ra r) 36 (0, 0)) := ⟨HP11.out, HK11.out⟩
   refine norm_ (a' := ?_) ?_ ?_
   rotate_left
   ·simp only [putAll, Act.put, List.setIfInBounds_toArray, List.set_cons_zero, List.set_cons_succ]
    rfl
   refine rpz 12 74 ?_ (bzz 24 8191) rfl rfl ?_ ?_ ?_ ?_
   rotate_left
   ·intro w'
    go_simp
    with_reducible rfl
   rotate_left
   ·simp only [zaP, zsA, zsZ, zsS, i64_w, i32_w]
    rfl
   refine rpz 13 75 ?_ (bzz 24 16383) rfl rfl ?_ ?_ ?_ ?_
   rotate_left
   ·intro w'
    go_simp
    with_reducible rfl
   rotate_left
   ·simp only [zaP, zsA, zsZ, zsS, i64_w, i32_w]
    rfl
   refine one_ (i := 14) (N := none) (bzz 24 32767) rfl rfl (by kernel_rfl) (by decide) (fun K hK => ?_)
   refine skip_ (w1 := ?_) (by rfl) rfl ?_ ?_
   rotate_left
   ·go_simp
    rfl
   have m12 := Lib.hid (mod_cellZ w11 Z 1 (.int .u32 (s.gen + 1)))
   have HB12 := Lib.hid (blk_setZ HB11.out 1 (.int .u32 (s.gen + 1)))
   have HP12 := Lib.hid (m12.out.blk HP11.out HPZ.out)
   have HK12 := Lib.hid (m12.out.blk HK11.out HKZ.out)
   generalize (w11.setCell ⟨Z, 1, none⟩ (.int .u32 (s.gen + 1))) = w12 at *
   clear c1 f1
   refine hK.out _ _ ⟨HP12.out, HK12.out⟩ (fun hHeld => ?_)
   clear hK K
   refine rpz 15 76 ?_ (bzz 24 65535) rfl rfl ?_ ?_ ?_ ?_
   rotate_left
   ·intro w'
    go_simp
    with_reducible rfl
   rotate_left
   ·simp only [zaP, zsA, zsZ, zsS, i64_w, i32_w]
    rfl
   refine rpz 16 77 ?_ (bzz 24 131071) rfl rfl ?_ ?_ ?_ ?_
   rotate_left
   ·intro w'
    go_simp
    with_reducible rfl
   rotate_left
   ·simp only [zaP, zsA, zsZ, zsS, i64_w, i32_w]
    rfl
   refine one_ (i := 17) (N := none) (bzz 24 262143) rfl rfl (by kernel_rfl) (by decide) (fun K hK => ?_)
   obtain ⟨w13, he13, hb13, hm13⟩ := st_off szM (off := 2) (vs := Array.toList (Loc.a o2 m1)) HB12.out rfl (Nat.le_of_ble_eq_true rfl) (one_m o2 m1)
   refine skip_ (by rfl) rfl (he13 rfl rfl rfl) ?_
   have HB13 := Lib.hid hb13
   have m13 := Lib.hid (m12.out.tr hm13)
   have HP13 := Lib.hid (hm13.blk HP12.out HPZ.out)
   have HK13 := Lib.hid (hm13.blk HK12.out HKZ.out)
   clear he13 hb13 hm13
   refine hK.out _ _ ⟨HP13.out, HK13.out⟩ (fun hHeld => ?_)
   clear hK K
   refine rpz 18 78 ?_ (bzz 24 524287) rfl rfl ?_ ?_ ?_ ?_
   rotate_left
   ·intro w'
    go_simp
    with_reducible rfl
   rotate_left
   ·simp only [zaP, zsA, zsZ, zsS, i64_w, i32_w]
    rfl
   refine rpz 19 79 ?_ (bzz 24 1048575) rfl rfl ?_ ?_ ?_ ?_
   rotate_left
   ·intro w'
    go_simp
    with_reducible rfl
   rotate_left
   ·simp only [zaP, zsA, zsZ, zsS, i64_w, i32_w]
    rfl
   refine last_ (i := 20) (N := none) (bzz 24 2097151) rfl rfl (by kernel_rfl) (by decide) (fun K hK => ?_)
   obtain ⟨w14, he14, hb14, hm14⟩ := st_off szRf (off := 6) (vs := Array.toList (ra r)) HB13.out rfl (Nat.le_of_ble_eq_true rfl) (one_r r)
   refine skip_ (by rfl) rfl (he14 rfl rfl rfl) ?_
   have HB14 := Lib.hid hb14
   have m14 := Lib.hid (m13.out.tr hm14)
   have c9 : w14.cell? ⟨Z, 9, none⟩ = some p7 := Err.cell_of_blk HB14.out 9
   have f9 : w14.frozen? ⟨Z, 9, none⟩ = false := by simp [World.frozen?, HB14.out]
   clear he14 hb14 hm14
   refine hK.out _ _ ?_
   clear hK K
   refine rpz 21 80 ?_ (bzz 24 4194303) rfl rfl ?_ ?_ ?_ ?_
   rotate_left
   ·intro w'
    go_simp
    with_reducible rfl
   rotate_left
   ·simp only [zaP, zsA, zsZ, zsS, i64_w, i32_w]
    rfl
   refine rpz 22 81 ?_ (bzz 24 8388607) rfl rfl ?_ ?_ ?_ ?_
   rotate_left
   ·intro w'
    go_simp
    with_reducible rfl
   rotate_left
   ·simp only [zaP, zsA, zsZ, zsS, i64_w, i32_w]
    rfl
   refine last_ (i := 23) (N := none) (bzz 24 16777215) rfl rfl (by kernel_rfl) (by decide) (fun K hK => ?_)
   refine skip_ (w1 := ?_) (by rfl) rfl ?_ ?_
   rotate_left
   ·go_simp
    rfl
   refine hK.out _ _ ?_
   clear hK K
   refine done_ (by kernel_rfl) ?_
   clear hHeld c9 f9
   have m15 := m14.out.tr (mod_cellZ w14 Z 9 (.slice none 0 0))
   have hb15 := blk_setZ HB14.out 9 (.slice none 0 0)
   have hO15 := HO11.out.step (fun i hi hl => m15.block i hl (fun (e : i = Z) => by have := HLt.out Z (.inl rfl); omega))
   have z := H11.out.switchedM (g := s.gen + 1) (r := r) m15 hb15 hO15 (fun i f => by
    rcases f with f | f | f | f
    ·exact HLt.out i (.inl f)
    ·exact HLt.out i (.inr (.inl f))
    ·exact HLt.out i (.inr (.inr (.inl f)))
    ·cases f)
   have HF := Lib.hid z
   clear m15 hb15 hO15 z
   generalize (w14.setCell ⟨Z, 9, none⟩ (.slice none 0 0)) = w15 at *
   go_wp2_with fail
   go_ret
   have z := HF.out.1
   rw [← HE.out, HR.out] at z
   have hS := HS11.out.trans HF.out.2
   have hgo2 : s.d.budget = -1 ∨ (n1 : Int) < s.d.budget := by
    rw [HBg.out] at hnz
    unfold Blb.bud at hnz
    rcases hgo with q | q
    ·exact .inl q
    ·by_cases e : s.d.budget = -1
     ·exact .inl e
     ·rw [if_neg e] at hnz
      exact .inr (by omega)
   exact .inl ⟨hgo2, rfl, ⟨o2, z⟩, hS⟩
  ·refine ⟨_, rfl, ?_⟩
   obtain ⟨hi9, hst9⟩ := Hd.out.disk hm hd9 Slt.ft_nil
   have HE9 := Lib.hid he9
   clear he9
   have ho9 := hst9.out (Err.lt_of_block HKd.out) HKf.out
   have hp9 := hst9.out (Err.lt_of_block HPd.out) HPf.out
   have H9 := Lib.hid hi9
   have HS9 := Lib.hid (HSd.out.trans hst9)
   have HA9 := Lib.hid (HAd.out.of hst9)
   have HK9 := Lib.hid (ho9.2.trans HKd.out)
   have HP9 := Lib.hid (hp9.2.trans HPd.out)
   have HKf9 := Lib.hid ho9.1
   have HPf9 := Lib.hid hp9.1
   clear hm hd9 hi9 hst9 ho9 hp9
   refine hK.out _ _ ⟨H9.out.cs.1, (by rw [← HE1.out]; exact H9.out.cs.2.1), HK9.out⟩ (fun hHeld => ?_)
   clear hK K
   refine norm_ (a' := ?_) ?_ ?_
   rotate_left
   ·show Act.put _ (some 58) _ = _
    simp only [zaP, zsA, zsZ, zsS, i64_w, i32_w]
    rfl
   refine rpz 12 8 ?_ (bzz 13 8191) rfl rfl ?_ ?_ ?_ ?_
   rotate_left
   ·intro w'
    go_simp
    with_reducible rfl
   rotate_left
   ·simp only [zaP, zsA, zsZ, zsS, i64_w, i32_w]
    rfl
   refine done_ (by kernel_rfl) ?_
   clear hHeld Hd HKd HPd HSd HAd
   go_wp2_with fail
   go_ret
   have e9 : ({ s6 with d := flushed s6.d } : St) = { s with d := flushed { s.d with soft := s.d.soft ++ Blb.pgs tM a n1, budget := 0 } } := by
    have e5 : s6.d = { s.d with soft := s.d.soft ++ Blb.pgs tM a n1, budget := 0 } := by rw [HE2.out, ← HBg.out, hz0]
    rw [e5, ← HE.out]
    rfl
   have hI := H9.out
   rw [e9] at hI
   have hbz : 0 ≤ s.d.budget ∧ s.d.budget = (n1 : Int) := by
    rw [HBg.out] at hz0
    unfold Blb.bud at hz0
    split at hz0 <;> omega
   exact .inr ⟨hbz.1, by omega, ⟨_, _, rfl, HE9.out⟩, _, _, _, .inl rfl, hI, HS9.out⟩
 ·have hp5 := hs5.out (Err.lt_of_block HP4.out) HPf0.out
  have H5 := Lib.hid hi5
  have HP5 := Lib.hid (hp5.2.trans HP4.out)
  have HS5 := Lib.hid (HS4.out.trans hs5)
  have HE5 := Lib.hid he5
  have HBg := Lib.hid (And.intro hg0' hg1')
  clear hi5 HA4 hs5 hp5 HS4 H4 HP4 HPf0 he5 hg0' hg1' hrt
  go_upto_if 42 with (first | (refine wl_allocR rfl rfl ?_) | (refine wl_storeRn #[.int .i64 0, .int .i64 0, .int .u32 0] rfl zr rfl _ _ rfl rfl rfl ?_))
  have hd6 : Below w5.heap.size w5 (w5.alloc (Obj.cells (ra zr) 36 (0, 0))) := (Below.refl _ _).alloc (Nat.le_refl _) _
  have HK6 := Lib.hid (heap_alloc_last w5 (Obj.cells (ra zr) 36 (0, 0)))
  have H6 := Lib.hid (H5.out.on hd6)
  have HS6 := Lib.hid (HS5.out.below hd6)
  have HE6 := Lib.hid (HE5.out.on hd6)
  obtain ⟨K, hK⟩ : ∃ K, w5.heap.size = K := ⟨_, rfl⟩
  rw [hK] at HK6
  simp only [hK]
  generalize (w5.alloc (Obj.cells (ra zr) 36 (0, 0))) = w6 at *
  clear hK hd6 H5 HS5 HP5 HE5
  go_wp2_with fail
  go_ret
  exact .inr ⟨HBg.out.1, Int.le_of_lt HBg.out.2, ⟨_, _, rfl, HE6.out⟩, _, _, _, .inr ⟨HBg.out.2, rfl⟩, H6.out, HS6.out⟩
end Go.Proofs.YtaodgnladjafoaaGreatDoor.Sto
