/- BlobPlays, the walk. -/
import Derived.Test.YtkkikhbenhkfcaaDoorBlobPlays2
set_option linter.unusedVariables false
set_option linter.unusedSimpArgs false
namespace Go.Proofs.YtkkikhbenhkfcaaDoor.RowBlobPlays
open Go.Proofs.YtkkikhbenhkfcaaDoor.AdM (sum)
open Go.RowKit Go.Proofs.YtkkikhbenhkfcaaDoor.QBlobBack Go.Proofs.YtkkikhbenhkfcaaDoorW.PrintWords Go.Proofs.YtkkikhbenhkfcaaDoorW.PrintLast Go.Proofs.YtkkikhbenhkfcaaDoorW.PrintMore Go.Proofs.YtkkikhbenhkfcaaDoor.CdM Go.Proofs.YtkkikhbenhkfcaaDoor.Md Go.Proofs.YtkkikhbenhkfcaaDoor.Dk Go.Proofs.YtkkikhbenhkfcaaDoor.Blb
open Go.Extern.Stop (cell)
open Go.Proofs.YtkkikhbenhkfcaaDoor.Err (Laid IsErr code_nil Chain at_some at_nil)
theorem outside (s : ByteArray) (x : Int) (w : World) (h : 20000 < s.size) (hs : s.size ≤ 140737488351232) :
    Calls Tryd.prog 3 #[.string s, .int .i64 x] w fun e w' => e = .returned (.bool true) ∧ Below w.heap.size w w' := by
  have hw := Lib.hid (Below.refl w.heap.size w)
  have c1 : decide ((s.size : Int) > 20000) = true := decide_eq_true (by omega)
  have c1' : decide (20000 < s.size) = true := decide_eq_true (by omega)
  go_enter Tryd.func3, Tryd.ntmps3
  go_wp2_with fail
  refine (awake_c w).mono ?_
  rintro e w1 ⟨rfl, hd⟩
  have HB1 := below_to hw (Nat.le_refl _) hd
  clear hd
  go_wp2_with fail
  refine (awake_c _).mono ?_
  rintro e w2 ⟨rfl, hd⟩
  have HB2 := below_to HB1 (Nat.le_refl _) hd
  clear hd
  go_wp2_with fail
  go_ret
  exact ⟨rfl, HB2.out⟩
set_option maxHeartbeats 4000000 in
set_option maxRecDepth 100000 in
theorem size_1 (s : ByteArray) (x : Int) (w : World) (hs : s.size ≤ 20000) (hz : s.size < 1) (hg : Hid (Laid w)) :
    Calls Tryd.prog 3 #[.string s, .int .i64 x] w fun e w' => e = .returned (.bool true) ∧ Below w.heap.size w w' := by
  have hw := Lib.hid (Below.refl w.heap.size w)
  have c1 : decide ((s.size : Int) > 20000) = false := decide_eq_false (by omega)
  have c1' : decide (20000 < s.size) = false := decide_eq_false (by omega)
  have c2 : decide ((s.size : Int) < 1) = true := decide_eq_true (by omega)
  have c2' : decide (s.size < 1) = true := decide_eq_true (by omega)
  have hpn : Hid (pagesV (s.size : Int) = 0) := Lib.hid (by unfold pagesV; first | rw [if_pos (by omega)] | rw [if_neg (by omega), if_pos (by omega)])
  go_enter Tryd.func3, Tryd.ntmps3
  go_wp2_with fail
  refine (awake_c w).mono ?_
  rintro e w1 ⟨rfl, hd⟩
  have HB1 := below_to hw (Nat.le_refl _) hd
  clear hd
  go_wp2_with fail
  refine (new_c w1 60 (by omega) (by omega)).mono ?_
  rintro e w2 ⟨R, M, hR, hM, rfl, hd, hI⟩
  have hs0 : w.heap.size ≤ w1.heap.size := HB1.out.size
  have HO2 := Lib.hid (show Blb.One w w2 R M _ _ from ⟨HB1.out.trans (hd.mono hs0), hI, Fr.nil (by omega) (by omega)⟩)
  clear hd hI HB1
  go_wp2_with fail
  refine (put_size w2 R x s hs hpn).mono ?_
  rintro e w3 ⟨⟨T, u, rfl, he⟩, hd⟩
  have HO3 := Lib.hid (HO2.out.on hd)
  have HE3 := Lib.hid he
  clear he hd HO2
  have hbn3 : Below w3.heap.size w3 (w3.alloc (Obj.cells (refA 0 0 0) 30 (0, 0))) := (Below.refl _ _).alloc (Nat.le_refl _) _
  have HO4 := Lib.hid (HO3.out.on hbn3)
  have HK4 := Lib.hid (heap_alloc_last w3 (Obj.cells (refA 0 0 0) 30 (0, 0)))
  have HE4 := Lib.hid (HE3.out.on hbn3)
  clear hbn3 HO3 HE3
  go_wp2_with (first | (refine wl_allocR rfl rfl ?_) | (refine wl_storeRn 0 0 0 0 0 0 rfl _ _ rfl rfl rfl ?_))
  obtain ⟨w4, hw4⟩ : ∃ w4, w3.alloc (Obj.cells (refA 0 0 0) 30 (0, 0)) = w4 := ⟨_, rfl⟩
  obtain ⟨K, hK⟩ : ∃ K, w3.heap.size = K := ⟨_, rfl⟩
  rw [hw4] at HO4 HK4 HE4
  rw [hK] at HK4
  rw [hw4]
  simp only [hK]
  clear hw4 hK
  refine (refpages_c s hs w4).mono ?_
  rintro e w5 ⟨pv5, rfl, hd, hrow⟩
  have HO5 := Lib.hid (HO4.out.on hd)
  have HK5 := blk_to HK4 hd
  have HE5 := Lib.hid (HE4.out.on hd)
  have hpl := ps_length s s.size
  obtain ⟨PA, pc, rfl⟩ := Kd.R_slice hrow
  obtain ⟨m, hm⟩ : ∃ m, (ps s s.size).length = m := ⟨_, rfl⟩
  rw [hm] at hrow hpl
  rw [hm]
  have HROW := Lib.hid hrow
  have HMm := Lib.hid hm
  clear hd hrow hm HO4 HK4 HE4
  go_wp2_with fail
  refine (Err.code_c _ 15 _ HE5 (Lib.hid (hg.out.on HO5.out.bel))).mono ?_
  rintro e w6 ⟨rfl, hd⟩
  have HO6 := Lib.hid (HO5.out.on hd)
  have HK6 := blk_to HK5 hd
  clear hd HO5 HK5 HE5
  go_wp2_with (first | (refine wg_loadR K 0 0 0 HK6.out (by rfl) _ rfl rfl ?_) | (refine wg_buildR (by rfl) rfl ?_))
  refine (pages_c (s.size : Int) 0 hpn _).mono ?_
  rintro e w7 ⟨rfl, hd⟩
  have HO7 := Lib.hid (HO6.out.on hd.below)
  clear hd HO6
  go_wp2_with fail
  go_ret
  exact ⟨rfl, HO7.out.bel⟩
set_option maxHeartbeats 4000000 in
set_option maxRecDepth 100000 in
theorem size_2 (s : ByteArray) (x : Int) (w : World) (hs : s.size ≤ 20000) (hz : 16384 < s.size) (hg : Hid (Laid w)) :
    Calls Tryd.prog 3 #[.string s, .int .i64 x] w fun e w' => e = .returned (.bool true) ∧ Below w.heap.size w w' := by
  have hw := Lib.hid (Below.refl w.heap.size w)
  have c1 : decide ((s.size : Int) > 20000) = false := decide_eq_false (by omega)
  have c1' : decide (20000 < s.size) = false := decide_eq_false (by omega)
  have c2 : decide ((s.size : Int) < 1) = false := decide_eq_false (by omega)
  have c2' : decide (s.size < 1) = false := decide_eq_false (by omega)
  have c3 : decide ((s.size : Int) > 16384) = true := decide_eq_true (by omega)
  have c3' : decide (16384 < s.size) = true := decide_eq_true (by omega)
  have hpn : Hid (pagesV (s.size : Int) = 0) := Lib.hid (by unfold pagesV; first | rw [if_pos (by omega)] | rw [if_neg (by omega), if_pos (by omega)])
  go_enter Tryd.func3, Tryd.ntmps3
  go_wp2_with fail
  refine (awake_c w).mono ?_
  rintro e w1 ⟨rfl, hd⟩
  have HB1 := below_to hw (Nat.le_refl _) hd
  clear hd
  go_wp2_with fail
  refine (new_c w1 60 (by omega) (by omega)).mono ?_
  rintro e w2 ⟨R, M, hR, hM, rfl, hd, hI⟩
  have hs0 : w.heap.size ≤ w1.heap.size := HB1.out.size
  have HO2 := Lib.hid (show Blb.One w w2 R M _ _ from ⟨HB1.out.trans (hd.mono hs0), hI, Fr.nil (by omega) (by omega)⟩)
  clear hd hI HB1
  go_wp2_with fail
  refine (put_size w2 R x s hs hpn).mono ?_
  rintro e w3 ⟨⟨T, u, rfl, he⟩, hd⟩
  have HO3 := Lib.hid (HO2.out.on hd)
  have HE3 := Lib.hid he
  clear he hd HO2
  have hbn3 : Below w3.heap.size w3 (w3.alloc (Obj.cells (refA 0 0 0) 30 (0, 0))) := (Below.refl _ _).alloc (Nat.le_refl _) _
  have HO4 := Lib.hid (HO3.out.on hbn3)
  have HK4 := Lib.hid (heap_alloc_last w3 (Obj.cells (refA 0 0 0) 30 (0, 0)))
  have HE4 := Lib.hid (HE3.out.on hbn3)
  clear hbn3 HO3 HE3
  go_wp2_with (first | (refine wl_allocR rfl rfl ?_) | (refine wl_storeRn 0 0 0 0 0 0 rfl _ _ rfl rfl rfl ?_))
  obtain ⟨w4, hw4⟩ : ∃ w4, w3.alloc (Obj.cells (refA 0 0 0) 30 (0, 0)) = w4 := ⟨_, rfl⟩
  obtain ⟨K, hK⟩ : ∃ K, w3.heap.size = K := ⟨_, rfl⟩
  rw [hw4] at HO4 HK4 HE4
  rw [hK] at HK4
  rw [hw4]
  simp only [hK]
  clear hw4 hK
  refine (refpages_c s hs w4).mono ?_
  rintro e w5 ⟨pv5, rfl, hd, hrow⟩
  have HO5 := Lib.hid (HO4.out.on hd)
  have HK5 := blk_to HK4 hd
  have HE5 := Lib.hid (HE4.out.on hd)
  have hpl := ps_length s s.size
  obtain ⟨PA, pc, rfl⟩ := Kd.R_slice hrow
  obtain ⟨m, hm⟩ : ∃ m, (ps s s.size).length = m := ⟨_, rfl⟩
  rw [hm] at hrow hpl
  rw [hm]
  have HROW := Lib.hid hrow
  have HMm := Lib.hid hm
  clear hd hrow hm HO4 HK4 HE4
  go_wp2_with fail
  refine (Err.code_c _ 15 _ HE5 (Lib.hid (hg.out.on HO5.out.bel))).mono ?_
  rintro e w6 ⟨rfl, hd⟩
  have HO6 := Lib.hid (HO5.out.on hd)
  have HK6 := blk_to HK5 hd
  clear hd HO5 HK5 HE5
  go_wp2_with (first | (refine wg_loadR K 0 0 0 HK6.out (by rfl) _ rfl rfl ?_) | (refine wg_buildR (by rfl) rfl ?_))
  refine (pages_c (s.size : Int) 0 hpn _).mono ?_
  rintro e w7 ⟨rfl, hd⟩
  have HO7 := Lib.hid (HO6.out.on hd.below)
  clear hd HO6
  go_wp2_with fail
  go_ret
  exact ⟨rfl, HO7.out.bel⟩
set_option maxHeartbeats 4000000 in
set_option maxRecDepth 100000 in
theorem arg_1 (s : ByteArray) (x : Int) (w : World) (n : Nat) (hs1 : 1 ≤ s.size) (hs2 : s.size ≤ 16384) (hnn : n = (s.size + 63) / 64) (hx0 : -9223372036854775808 ≤ x) (hx1 : x ≤ 9223372036854775807) (hz : x < 0) (hg : Hid (Laid w)) :
    Calls Tryd.prog 3 #[.string s, .int .i64 x] w fun e w' => e = .returned (.bool true) ∧ Below w.heap.size w w' := by
  have hw := Lib.hid (Below.refl w.heap.size w)
  have hs : s.size ≤ 20000 := by omega
  have c1 : decide ((s.size : Int) > 20000) = false := decide_eq_false (by omega)
  have c1' : decide (20000 < s.size) = false := decide_eq_false (by omega)
  have c2 : decide ((s.size : Int) < 1) = false := decide_eq_false (by omega)
  have c2' : decide (s.size < 1) = false := decide_eq_false (by omega)
  have c3 : decide ((s.size : Int) > 16384) = false := decide_eq_false (by omega)
  have c3' : decide (16384 < s.size) = false := decide_eq_false (by omega)
  have hpn := Lib.hid (pages_of s hs1 hs2)
  rw [← hnn] at hpn
  have hn1 : 1 ≤ n ∧ n ≤ 256 := by omega
  have hrv : Hid (rightV x (s.size : Int) 60 = false) := Lib.hid (by
    unfold rightV
    rw [hpn.out]
    first
      | (rw [decide_eq_false (show ¬ (0 : Int) ≤ x by omega), Bool.and_false]; rfl)
      | (rw [decide_eq_false (show ¬ x ≤ 60 - (n : Int) by omega), Bool.and_false]))
  go_enter Tryd.func3, Tryd.ntmps3
  go_wp2_with fail
  refine (awake_c w).mono ?_
  rintro e w1 ⟨rfl, hd⟩
  have HB1 := below_to hw (Nat.le_refl _) hd
  clear hd
  go_wp2_with fail
  refine (new_c w1 60 (by omega) (by omega)).mono ?_
  rintro e w2 ⟨R, M, hR, hM, rfl, hd, hI⟩
  have hs0 : w.heap.size ≤ w1.heap.size := HB1.out.size
  have HO2 := Lib.hid (show Blb.One w w2 R M _ _ from ⟨HB1.out.trans (hd.mono hs0), hI, Fr.nil (by omega) (by omega)⟩)
  clear hd hI HB1
  go_wp2_with fail
  refine (put_arg w2 R M _ _ x s n (Lib.hid HO2.out.dsk) hs hpn hn1.1 hrv (by show (0 : Int) ≤ 60; omega) (by show (60 : Int) ≤ 2048; omega)).mono ?_
  rintro e w3 ⟨⟨T, u, rfl, he⟩, hd⟩
  have HO3 := Lib.hid (HO2.out.on hd)
  have HE3 := Lib.hid he
  clear he hd HO2
  have hbn3 : Below w3.heap.size w3 (w3.alloc (Obj.cells (refA 0 0 0) 30 (0, 0))) := (Below.refl _ _).alloc (Nat.le_refl _) _
  have HO4 := Lib.hid (HO3.out.on hbn3)
  have HK4 := Lib.hid (heap_alloc_last w3 (Obj.cells (refA 0 0 0) 30 (0, 0)))
  have HE4 := Lib.hid (HE3.out.on hbn3)
  clear hbn3 HO3 HE3
  go_wp2_with (first | (refine wl_allocR rfl rfl ?_) | (refine wl_storeRn 0 0 0 0 0 0 rfl _ _ rfl rfl rfl ?_))
  obtain ⟨w4, hw4⟩ : ∃ w4, w3.alloc (Obj.cells (refA 0 0 0) 30 (0, 0)) = w4 := ⟨_, rfl⟩
  obtain ⟨K, hK⟩ : ∃ K, w3.heap.size = K := ⟨_, rfl⟩
  rw [hw4] at HO4 HK4 HE4
  rw [hK] at HK4
  rw [hw4]
  simp only [hK]
  clear hw4 hK
  refine (refpages_c s hs w4).mono ?_
  rintro e w5 ⟨pv5, rfl, hd, hrow⟩
  have HO5 := Lib.hid (HO4.out.on hd)
  have HK5 := blk_to HK4 hd
  have HE5 := Lib.hid (HE4.out.on hd)
  have hpl := ps_length s s.size
  obtain ⟨PA, pc, rfl⟩ := Kd.R_slice hrow
  obtain ⟨m, hm⟩ : ∃ m, (ps s s.size).length = m := ⟨_, rfl⟩
  rw [hm] at hrow hpl
  rw [hm]
  have HROW := Lib.hid hrow
  have HMm := Lib.hid hm
  clear hd hrow hm HO4 HK4 HE4
  have hmn : m = n := by omega
  subst hmn
  have d1 : decide (x < 0) = true := decide_eq_true (by omega)
  go_wp2_with fail
  refine (Err.code_c _ 1 _ HE5 (Lib.hid (hg.out.on HO5.out.bel))).mono ?_
  rintro e w6 ⟨rfl, hd⟩
  have HO6 := Lib.hid (HO5.out.on hd)
  have HK6 := blk_to HK5 hd
  clear hd HO5 HK5 HE5
  go_wp2_with (first | (refine wg_loadR K 0 0 0 HK6.out (by rfl) _ rfl rfl ?_) | (refine wg_buildR (by rfl) rfl ?_))
  refine (soft_c _ R M _ _ (Lib.hid HO6.out.dsk)).mono ?_
  rintro e w7 ⟨rfl, hd⟩
  have HO7 := Lib.hid (HO6.out.on hd)
  clear hd HO6
  go_wp2_with fail
  go_ret
  exact ⟨rfl, HO7.out.bel⟩
set_option maxHeartbeats 4000000 in
set_option maxRecDepth 100000 in
theorem arg_2 (s : ByteArray) (x : Int) (w : World) (n : Nat) (hs1 : 1 ≤ s.size) (hs2 : s.size ≤ 16384) (hnn : n = (s.size + 63) / 64) (hx0 : -9223372036854775808 ≤ x) (hx1 : x ≤ 9223372036854775807) (hz : 0 ≤ x ∧ 60 < n) (hg : Hid (Laid w)) :
    Calls Tryd.prog 3 #[.string s, .int .i64 x] w fun e w' => e = .returned (.bool true) ∧ Below w.heap.size w w' := by
  have hw := Lib.hid (Below.refl w.heap.size w)
  have hs : s.size ≤ 20000 := by omega
  have c1 : decide ((s.size : Int) > 20000) = false := decide_eq_false (by omega)
  have c1' : decide (20000 < s.size) = false := decide_eq_false (by omega)
  have c2 : decide ((s.size : Int) < 1) = false := decide_eq_false (by omega)
  have c2' : decide (s.size < 1) = false := decide_eq_false (by omega)
  have c3 : decide ((s.size : Int) > 16384) = false := decide_eq_false (by omega)
  have c3' : decide (16384 < s.size) = false := decide_eq_false (by omega)
  have hpn := Lib.hid (pages_of s hs1 hs2)
  rw [← hnn] at hpn
  have hn1 : 1 ≤ n ∧ n ≤ 256 := by omega
  have hrv : Hid (rightV x (s.size : Int) 60 = false) := Lib.hid (by
    unfold rightV
    rw [hpn.out]
    first
      | (rw [decide_eq_false (show ¬ (0 : Int) ≤ x by omega), Bool.and_false]; rfl)
      | (rw [decide_eq_false (show ¬ x ≤ 60 - (n : Int) by omega), Bool.and_false]))
  go_enter Tryd.func3, Tryd.ntmps3
  go_wp2_with fail
  refine (awake_c w).mono ?_
  rintro e w1 ⟨rfl, hd⟩
  have HB1 := below_to hw (Nat.le_refl _) hd
  clear hd
  go_wp2_with fail
  refine (new_c w1 60 (by omega) (by omega)).mono ?_
  rintro e w2 ⟨R, M, hR, hM, rfl, hd, hI⟩
  have hs0 : w.heap.size ≤ w1.heap.size := HB1.out.size
  have HO2 := Lib.hid (show Blb.One w w2 R M _ _ from ⟨HB1.out.trans (hd.mono hs0), hI, Fr.nil (by omega) (by omega)⟩)
  clear hd hI HB1
  go_wp2_with fail
  refine (put_arg w2 R M _ _ x s n (Lib.hid HO2.out.dsk) hs hpn hn1.1 hrv (by show (0 : Int) ≤ 60; omega) (by show (60 : Int) ≤ 2048; omega)).mono ?_
  rintro e w3 ⟨⟨T, u, rfl, he⟩, hd⟩
  have HO3 := Lib.hid (HO2.out.on hd)
  have HE3 := Lib.hid he
  clear he hd HO2
  have hbn3 : Below w3.heap.size w3 (w3.alloc (Obj.cells (refA 0 0 0) 30 (0, 0))) := (Below.refl _ _).alloc (Nat.le_refl _) _
  have HO4 := Lib.hid (HO3.out.on hbn3)
  have HK4 := Lib.hid (heap_alloc_last w3 (Obj.cells (refA 0 0 0) 30 (0, 0)))
  have HE4 := Lib.hid (HE3.out.on hbn3)
  clear hbn3 HO3 HE3
  go_wp2_with (first | (refine wl_allocR rfl rfl ?_) | (refine wl_storeRn 0 0 0 0 0 0 rfl _ _ rfl rfl rfl ?_))
  obtain ⟨w4, hw4⟩ : ∃ w4, w3.alloc (Obj.cells (refA 0 0 0) 30 (0, 0)) = w4 := ⟨_, rfl⟩
  obtain ⟨K, hK⟩ : ∃ K, w3.heap.size = K := ⟨_, rfl⟩
  rw [hw4] at HO4 HK4 HE4
  rw [hK] at HK4
  rw [hw4]
  simp only [hK]
  clear hw4 hK
  refine (refpages_c s hs w4).mono ?_
  rintro e w5 ⟨pv5, rfl, hd, hrow⟩
  have HO5 := Lib.hid (HO4.out.on hd)
  have HK5 := blk_to HK4 hd
  have HE5 := Lib.hid (HE4.out.on hd)
  have hpl := ps_length s s.size
  obtain ⟨PA, pc, rfl⟩ := Kd.R_slice hrow
  obtain ⟨m, hm⟩ : ∃ m, (ps s s.size).length = m := ⟨_, rfl⟩
  rw [hm] at hrow hpl
  rw [hm]
  have HROW := Lib.hid hrow
  have HMm := Lib.hid hm
  clear hd hrow hm HO4 HK4 HE4
  have hmn : m = n := by omega
  subst hmn
  have d1 : decide (x < 0) = false := decide_eq_false (by omega)
  have d2 : decide ((m : Int) > 60) = true := decide_eq_true (by omega)
  have d2' : decide (60 < m) = true := decide_eq_true (by omega)
  go_wp2_with fail
  refine (Err.code_c _ 1 _ HE5 (Lib.hid (hg.out.on HO5.out.bel))).mono ?_
  rintro e w6 ⟨rfl, hd⟩
  have HO6 := Lib.hid (HO5.out.on hd)
  have HK6 := blk_to HK5 hd
  clear hd HO5 HK5 HE5
  go_wp2_with (first | (refine wg_loadR K 0 0 0 HK6.out (by rfl) _ rfl rfl ?_) | (refine wg_buildR (by rfl) rfl ?_))
  refine (soft_c _ R M _ _ (Lib.hid HO6.out.dsk)).mono ?_
  rintro e w7 ⟨rfl, hd⟩
  have HO7 := Lib.hid (HO6.out.on hd)
  clear hd HO6
  go_wp2_with fail
  go_ret
  exact ⟨rfl, HO7.out.bel⟩
set_option maxHeartbeats 4000000 in
set_option maxRecDepth 100000 in
theorem arg_3 (s : ByteArray) (x : Int) (w : World) (n : Nat) (hs1 : 1 ≤ s.size) (hs2 : s.size ≤ 16384) (hnn : n = (s.size + 63) / 64) (hx0 : -9223372036854775808 ≤ x) (hx1 : x ≤ 9223372036854775807) (hz : 0 ≤ x ∧ n ≤ 60 ∧ 60 - (n : Int) < x) (hg : Hid (Laid w)) :
    Calls Tryd.prog 3 #[.string s, .int .i64 x] w fun e w' => e = .returned (.bool true) ∧ Below w.heap.size w w' := by
  have hw := Lib.hid (Below.refl w.heap.size w)
  have hs : s.size ≤ 20000 := by omega
  have c1 : decide ((s.size : Int) > 20000) = false := decide_eq_false (by omega)
  have c1' : decide (20000 < s.size) = false := decide_eq_false (by omega)
  have c2 : decide ((s.size : Int) < 1) = false := decide_eq_false (by omega)
  have c2' : decide (s.size < 1) = false := decide_eq_false (by omega)
  have c3 : decide ((s.size : Int) > 16384) = false := decide_eq_false (by omega)
  have c3' : decide (16384 < s.size) = false := decide_eq_false (by omega)
  have hpn := Lib.hid (pages_of s hs1 hs2)
  rw [← hnn] at hpn
  have hn1 : 1 ≤ n ∧ n ≤ 256 := by omega
  have hrv : Hid (rightV x (s.size : Int) 60 = false) := Lib.hid (by
    unfold rightV
    rw [hpn.out]
    first
      | (rw [decide_eq_false (show ¬ (0 : Int) ≤ x by omega), Bool.and_false]; rfl)
      | (rw [decide_eq_false (show ¬ x ≤ 60 - (n : Int) by omega), Bool.and_false]))
  go_enter Tryd.func3, Tryd.ntmps3
  go_wp2_with fail
  refine (awake_c w).mono ?_
  rintro e w1 ⟨rfl, hd⟩
  have HB1 := below_to hw (Nat.le_refl _) hd
  clear hd
  go_wp2_with fail
  refine (new_c w1 60 (by omega) (by omega)).mono ?_
  rintro e w2 ⟨R, M, hR, hM, rfl, hd, hI⟩
  have hs0 : w.heap.size ≤ w1.heap.size := HB1.out.size
  have HO2 := Lib.hid (show Blb.One w w2 R M _ _ from ⟨HB1.out.trans (hd.mono hs0), hI, Fr.nil (by omega) (by omega)⟩)
  clear hd hI HB1
  go_wp2_with fail
  refine (put_arg w2 R M _ _ x s n (Lib.hid HO2.out.dsk) hs hpn hn1.1 hrv (by show (0 : Int) ≤ 60; omega) (by show (60 : Int) ≤ 2048; omega)).mono ?_
  rintro e w3 ⟨⟨T, u, rfl, he⟩, hd⟩
  have HO3 := Lib.hid (HO2.out.on hd)
  have HE3 := Lib.hid he
  clear he hd HO2
  have hbn3 : Below w3.heap.size w3 (w3.alloc (Obj.cells (refA 0 0 0) 30 (0, 0))) := (Below.refl _ _).alloc (Nat.le_refl _) _
  have HO4 := Lib.hid (HO3.out.on hbn3)
  have HK4 := Lib.hid (heap_alloc_last w3 (Obj.cells (refA 0 0 0) 30 (0, 0)))
  have HE4 := Lib.hid (HE3.out.on hbn3)
  clear hbn3 HO3 HE3
  go_wp2_with (first | (refine wl_allocR rfl rfl ?_) | (refine wl_storeRn 0 0 0 0 0 0 rfl _ _ rfl rfl rfl ?_))
  obtain ⟨w4, hw4⟩ : ∃ w4, w3.alloc (Obj.cells (refA 0 0 0) 30 (0, 0)) = w4 := ⟨_, rfl⟩
  obtain ⟨K, hK⟩ : ∃ K, w3.heap.size = K := ⟨_, rfl⟩
  rw [hw4] at HO4 HK4 HE4
  rw [hK] at HK4
  rw [hw4]
  simp only [hK]
  clear hw4 hK
  refine (refpages_c s hs w4).mono ?_
  rintro e w5 ⟨pv5, rfl, hd, hrow⟩
  have HO5 := Lib.hid (HO4.out.on hd)
  have HK5 := blk_to HK4 hd
  have HE5 := Lib.hid (HE4.out.on hd)
  have hpl := ps_length s s.size
  obtain ⟨PA, pc, rfl⟩ := Kd.R_slice hrow
  obtain ⟨m, hm⟩ : ∃ m, (ps s s.size).length = m := ⟨_, rfl⟩
  rw [hm] at hrow hpl
  rw [hm]
  have HROW := Lib.hid hrow
  have HMm := Lib.hid hm
  clear hd hrow hm HO4 HK4 HE4
  have hmn : m = n := by omega
  subst hmn
  have d1 : decide (x < 0) = false := decide_eq_false (by omega)
  have d2 : decide ((m : Int) > 60) = false := decide_eq_false (by omega)
  have d2' : decide (60 < m) = false := decide_eq_false (by omega)
  have q60 : IntKind.i64.wrap (60 - (m : Int)) = 60 - (m : Int) := IntWalk.i64_in _ (by omega)
  have d3 : decide (x > 60 - (m : Int)) = true := decide_eq_true (by omega)
  have d4 : decide (60 - (m : Int) < x) = true := decide_eq_true (by omega)
  go_wp2_with fail
  refine (Err.code_c _ 1 _ HE5 (Lib.hid (hg.out.on HO5.out.bel))).mono ?_
  rintro e w6 ⟨rfl, hd⟩
  have HO6 := Lib.hid (HO5.out.on hd)
  have HK6 := blk_to HK5 hd
  clear hd HO5 HK5 HE5
  go_wp2_with (first | (refine wg_loadR K 0 0 0 HK6.out (by rfl) _ rfl rfl ?_) | (refine wg_buildR (by rfl) rfl ?_))
  refine (soft_c _ R M _ _ (Lib.hid HO6.out.dsk)).mono ?_
  rintro e w7 ⟨rfl, hd⟩
  have HO7 := Lib.hid (HO6.out.on hd)
  clear hd HO6
  go_wp2_with fail
  go_ret
  exact ⟨rfl, HO7.out.bel⟩
end Go.Proofs.YtkkikhbenhkfcaaDoor.RowBlobPlays
