/- BlobApart, the walk. -/
import Derived.Test.YtkkikhbenhkfcaaDoorBlob3
set_option linter.unusedVariables false
set_option linter.unusedSimpArgs false
namespace Go.Proofs.YtkkikhbenhkfcaaDoor.RowBlobApart
open Go.Proofs.YtkkikhbenhkfcaaDoor.AdM (sum)
open Go.RowKit Go.Proofs.YtkkikhbenhkfcaaDoor.QBlobBack Go.Proofs.YtkkikhbenhkfcaaDoorW.PrintWords Go.Proofs.YtkkikhbenhkfcaaDoorW.PrintLast Go.Proofs.YtkkikhbenhkfcaaDoorW.PrintMore Go.Proofs.YtkkikhbenhkfcaaDoor.CdM Go.Proofs.YtkkikhbenhkfcaaDoor.Md Go.Proofs.YtkkikhbenhkfcaaDoor.Dk Go.Proofs.YtkkikhbenhkfcaaDoor.Blb
open Go.Extern.Stop (cell)
open Go.Proofs.YtkkikhbenhkfcaaDoor.Err (Laid IsErr code_nil Chain at_some at_nil)
set_option maxHeartbeats 2000000 in
theorem outside (s t : ByteArray) (o : Bool) (w : World) (h : s.size < 1 ∨ t.size < 1 ∨ 2000 < s.size ∨ 2000 < t.size) (hs : s.size ≤ 140737488351232) (ht : t.size ≤ 140737488351232) :
    Calls Tryd.prog 5 #[.string s, .string t, .bool o] w fun e w' => e = .returned (.bool true) ∧ Below w.heap.size w w' := by
  have hw := Lib.hid (Below.refl w.heap.size w)
  by_cases h0 : s.size < 1
  · clear h
    have c0 : decide ((s.size : Int) < 1) = true := decide_eq_true (by omega)
    have c0' : decide (s.size < 1) = true := decide_eq_true (by omega)
    go_enter Tryd.func5, Tryd.ntmps5
    go_wp2_with fail
    refine (awake_c w).mono ?_
    rintro e w1 ⟨rfl, hd⟩
    have HB1 := below_to hw (Nat.le_refl _) hd
    clear hd
    go_wp2_with fail
    refine (awake_c _).mono ?_
    rintro e w2 ⟨rfl, hd⟩
    have HB2 := below_to HB1 (Nat.le_refl _) hd
    clear hd
    go_wp2_with fail
    go_ret
    exact ⟨rfl, HB2.out⟩
  by_cases h1 : t.size < 1
  · clear h
    have c0 : decide ((s.size : Int) < 1) = false := decide_eq_false (by omega)
    have c0' : decide (s.size < 1) = false := decide_eq_false (by omega)
    have c1 : decide ((t.size : Int) < 1) = true := decide_eq_true (by omega)
    have c1' : decide (t.size < 1) = true := decide_eq_true (by omega)
    go_enter Tryd.func5, Tryd.ntmps5
    go_wp2_with fail
    refine (awake_c w).mono ?_
    rintro e w1 ⟨rfl, hd⟩
    have HB1 := below_to hw (Nat.le_refl _) hd
    clear hd
    go_wp2_with fail
    refine (awake_c _).mono ?_
    rintro e w2 ⟨rfl, hd⟩
    have HB2 := below_to HB1 (Nat.le_refl _) hd
    clear hd
    go_wp2_with fail
    go_ret
    exact ⟨rfl, HB2.out⟩
  by_cases h2 : 2000 < s.size
  · clear h
    have c0 : decide ((s.size : Int) < 1) = false := decide_eq_false (by omega)
    have c0' : decide (s.size < 1) = false := decide_eq_false (by omega)
    have c1 : decide ((t.size : Int) < 1) = false := decide_eq_false (by omega)
    have c1' : decide (t.size < 1) = false := decide_eq_false (by omega)
    have c2 : decide ((s.size : Int) > 2000) = true := decide_eq_true (by omega)
    have c2' : decide (2000 < s.size) = true := decide_eq_true (by omega)
    go_enter Tryd.func5, Tryd.ntmps5
    go_wp2_with fail
    refine (awake_c w).mono ?_
    rintro e w1 ⟨rfl, hd⟩
    have HB1 := below_to hw (Nat.le_refl _) hd
    clear hd
    go_wp2_with fail
    refine (awake_c _).mono ?_
    rintro e w2 ⟨rfl, hd⟩
    have HB2 := below_to HB1 (Nat.le_refl _) hd
    clear hd
    go_wp2_with fail
    go_ret
    exact ⟨rfl, HB2.out⟩
  by_cases h3 : 2000 < t.size
  · clear h
    have c0 : decide ((s.size : Int) < 1) = false := decide_eq_false (by omega)
    have c0' : decide (s.size < 1) = false := decide_eq_false (by omega)
    have c1 : decide ((t.size : Int) < 1) = false := decide_eq_false (by omega)
    have c1' : decide (t.size < 1) = false := decide_eq_false (by omega)
    have c2 : decide ((s.size : Int) > 2000) = false := decide_eq_false (by omega)
    have c2' : decide (2000 < s.size) = false := decide_eq_false (by omega)
    have c3 : decide ((t.size : Int) > 2000) = true := decide_eq_true (by omega)
    have c3' : decide (2000 < t.size) = true := decide_eq_true (by omega)
    go_enter Tryd.func5, Tryd.ntmps5
    go_wp2_with fail
    refine (awake_c w).mono ?_
    rintro e w1 ⟨rfl, hd⟩
    have HB1 := below_to hw (Nat.le_refl _) hd
    clear hd
    go_wp2_with fail
    refine (awake_c _).mono ?_
    rintro e w2 ⟨rfl, hd⟩
    have HB2 := below_to HB1 (Nat.le_refl _) hd
    clear hd
    go_wp2_with fail
    go_ret
    exact ⟨rfl, HB2.out⟩
  omega
set_option maxHeartbeats 8000000 in
set_option maxRecDepth 100000 in
theorem inside (s t : ByteArray) (o : Bool) (w : World) (hs1 : 1 ≤ s.size) (hs2 : s.size ≤ 2000) (ht1 : 1 ≤ t.size) (ht2 : t.size ≤ 2000) (hg : Hid (Laid w)) :
    Calls Tryd.prog 5 #[.string s, .string t, .bool o] w fun e w' => e = .returned (.bool true) ∧ Below w.heap.size w w' := by
  have hw := Lib.hid (Below.refl w.heap.size w)
  have c0 : decide ((s.size : Int) < 1) = false := decide_eq_false (by omega)
  have c0' : decide (s.size < 1) = false := decide_eq_false (by omega)
  have c1 : decide ((t.size : Int) < 1) = false := decide_eq_false (by omega)
  have c1' : decide (t.size < 1) = false := decide_eq_false (by omega)
  have c2 : decide ((s.size : Int) > 2000) = false := decide_eq_false (by omega)
  have c2' : decide (2000 < s.size) = false := decide_eq_false (by omega)
  have c3 : decide ((t.size : Int) > 2000) = false := decide_eq_false (by omega)
  have c3' : decide (2000 < t.size) = false := decide_eq_false (by omega)
  obtain ⟨n, hnn⟩ : ∃ n, n = (s.size + 63) / 64 := ⟨_, rfl⟩
  obtain ⟨m, hmm⟩ : ∃ m, m = (t.size + 63) / 64 := ⟨_, rfl⟩
  have hpn := Lib.hid (pages_of s hs1 (by omega))
  have hpm := Lib.hid (pages_of t ht1 (by omega))
  rw [← hnn] at hpn
  rw [← hmm] at hpm
  have hn : 1 ≤ n ∧ n ≤ 32 ∧ s.size ≤ n * 64 := by omega
  have hm : 1 ≤ m ∧ m ≤ 32 ∧ t.size ≤ m * 64 := by omega
  clear hnn hmm
  go_enter Tryd.func5, Tryd.ntmps5
  go_wp2_with fail
  refine (awake_c w).mono ?_
  rintro e w1 ⟨rfl, hd⟩
  have HB1 := below_to hw (Nat.le_refl _) hd
  clear hd
  go_wp2_with fail
  refine (new_c w1 100 (by omega) (by omega)).mono ?_
  rintro e w2 ⟨R, M, hR, hM, rfl, hd, hI⟩
  have hs0 : w.heap.size ≤ w1.heap.size := HB1.out.size
  have HO2 := Lib.hid (show Blb.One w w2 R M _ _ from ⟨HB1.out.trans (hd.mono hs0), hI, Fr.nil (by omega) (by omega)⟩)
  clear hd hI HB1
  go_wp2_with fail
  refine (put_ok w2 R M _ _ 5 s n (Lib.hid HO2.out.dsk) (Lib.hid rfl) (Lib.hid rfl) (by omega) hpn hn.1 (by omega) (by show (5 : Int) + n ≤ 100; omega) (by show (100 : Int) ≤ 2048; omega) (by show 0 + n ≤ 1000; omega)).mono ?_
  rintro e w3 ⟨rfl, v3, hmd, hI, hv⟩
  have HO3 := Lib.hid (HO2.out.mods hmd hI hv)
  clear hmd hI hv HO2
  have hft3 := HO3.out.dsk.ft_lt
  have hbn3 : Below w3.heap.size w3 (w3.alloc (Obj.cells (refA 5 (s.size : Int) (sum s)) 30 (0, 0))) := (Below.refl _ _).alloc (Nat.le_refl _) _
  have HO4 := Lib.hid (HO3.out.on hbn3)
  have HK4 := Lib.hid (heap_alloc_last w3 (Obj.cells (refA 5 (s.size : Int) (sum s)) 30 (0, 0)))
  clear hbn3
  go_wp2_with (first | (refine wl_allocR rfl rfl ?_) | (refine wl_storeRn 0 0 0 5 (s.size : Int) (sum s) rfl _ _ rfl rfl rfl ?_))
  obtain ⟨w4, hw4⟩ : ∃ w4, w3.alloc (Obj.cells (refA 5 (s.size : Int) (sum s)) 30 (0, 0)) = w4 := ⟨_, rfl⟩
  obtain ⟨K, hK⟩ : ∃ K, w3.heap.size = K := ⟨_, rfl⟩
  rw [hw4] at HO4 HK4
  rw [hK] at HK4 hft3
  rw [hw4]
  simp only [hK]
  have hKf : ∀ i, Ft R M v3 i → i ≠ K := fun i hi => Nat.ne_of_lt (hft3 i hi)
  clear hw4 hK HO3 hft3
  refine (pages_c (s.size : Int) (n : Int) hpn _).mono ?_
  rintro e w5 ⟨rfl, hd⟩
  have HO5 := Lib.hid (HO4.out.on hd.below)
  have HK5 := blk_to HK4 hd.below
  clear hd HO4 HK4
  have e5 : IntKind.i64.wrap (5 + (n : Int)) = 5 + (n : Int) := IntWalk.i64_in _ (by omega)
  have e6 : IntKind.i64.wrap (5 + (n : Int) - 1) = 5 + (n : Int) - 1 := IntWalk.i64_in _ (by omega)
  cases o
  · go_wp2_with fail
    obtain ⟨at_, hat⟩ : ∃ at_ : Int, at_ = 5 + (n : Int) := ⟨_, rfl⟩
    rw [← hat]
    have ha1 : at_ ≤ 5 + (n : Int) := by omega
    have ha2 : 5 + (n : Int) ≤ at_ := by omega
    clear hat e5 e6
    refine (put_ok w5 R M _ _ at_ t m (Lib.hid HO5.out.dsk) (Lib.hid rfl) (Lib.hid rfl) (by omega) hpm hm.1 (by omega) (by show at_ + m ≤ 100; omega) (by show (100 : Int) ≤ 2048; omega) (by show (([] : List (Int × Pg)) ++ pgs s 5 n).length + m ≤ 1000; rw [List.length_append, pgs_length]; show 0 + n + m ≤ 1000; omega)).mono ?_
    rintro e w6 ⟨rfl, v6, hmd, hI, hv⟩
    have HO6 := Lib.hid (HO5.out.mods hmd hI hv)
    have HK6 := row_to HK5 HO5.out.dsk hKf hmd
    have hK6 := Err.lt_of_block HK5.out
    have hKf6 : ∀ i, Ft R M v6 i → i ≠ K := fun i hi e => by
      rcases hv i hi with g | g
      · exact hKf i g e
      · omega
    clear hmd hI hv HO5 HK5 hK6
    have hft6 := HO6.out.dsk.ft_lt
    have hbn6 : Below w6.heap.size w6 (w6.alloc (Obj.cells (refA at_ (t.size : Int) (sum t)) 30 (0, 0))) := (Below.refl _ _).alloc (Nat.le_refl _) _
    have HO7 := Lib.hid (HO6.out.on hbn6)
    have HK7 := blk_to HK6 hbn6
    have HL7 := Lib.hid (heap_alloc_last w6 (Obj.cells (refA at_ (t.size : Int) (sum t)) 30 (0, 0)))
    clear hbn6
    go_wp2_with (first | (refine wl_allocR rfl rfl ?_) | (refine wl_storeRn 0 0 0 at_ (t.size : Int) (sum t) rfl _ _ rfl rfl rfl ?_) | (refine wl_loadR K 5 (s.size : Int) (sum s) HK7.out rfl _ rfl rfl ?_))
    obtain ⟨dd, hdd⟩ : ∃ dd, ({ ({ (⟨100, fun _ => pz, [], false, -1⟩ : Dsk) with soft := [] ++ pgs s 5 n } : Dsk) with soft := ([] ++ pgs s 5 n) ++ pgs t at_ m } : Dsk) = dd := ⟨_, rfl⟩
    have HO8 := Lib.hid (show Blb.One w (w6.alloc (Obj.cells (refA at_ (t.size : Int) (sum t)) 30 (0, 0))) R M v6 dd by rw [← hdd]; exact HO7.out)
    have hrt : ∀ i : Nat, i < m → rd dd (at_ + (i : Int)) = pgOf t i := fun i hi => by
      rw [← hdd]; refine (rd_pgs { (⟨100, fun _ => pz, [], false, -1⟩ : Dsk) with soft := [] ++ pgs s 5 n } t at_ (at_ + (i : Int)) m).trans ?_; rw [if_pos (by omega), show (at_ + (i : Int) - at_).toNat = i by omega]
    have HTt := Lib.hid (gs_text dd at_ m t hm.2.2 hrt)
    obtain ⟨u, hu⟩ : ∃ u, strOfNums ((gs dd 5 n).take s.size) = u := ⟨_, rfl⟩
    have HU := Lib.hid hu
    have hus : u.size = s.size := by rw [← hu]; exact gs_size dd 5 n s.size hn.2.2
    have HD1 := Lib.hid (show dd.down = false by rw [← hdd])
    have hsz : dd.size = 100 := by rw [← hdd]
    have hln : dd.soft.length ≤ 1000 := by rw [← hdd]; show (([] ++ pgs s 5 n) ++ pgs t at_ m).length ≤ 1000; rw [List.length_append, List.length_append, pgs_length, pgs_length]; show 0 + n + m ≤ 1000; omega
    have hrs : ∀ i : Nat, i < n → rd dd (5 + (i : Int)) = pgOf s i := fun i hi => by
      rw [← hdd]
      refine (rd_pgs { (⟨100, fun _ => pz, [], false, -1⟩ : Dsk) with soft := [] ++ pgs s 5 n } t at_ (5 + (i : Int)) m).trans ?_
      rw [if_neg (by omega)]
      refine (rd_pgs ⟨100, fun _ => pz, [], false, -1⟩ s 5 (5 + (i : Int)) n).trans ?_
      rw [if_pos (by omega), show ((5 : Int) + (i : Int) - 5).toNat = i by omega]
    have hu2 : u = s := by rw [← hu]; exact gs_text dd 5 n s hn.2.2 hrs
    clear hrs
    obtain ⟨w7, hw7⟩ : ∃ w7, w6.alloc (Obj.cells (refA at_ (t.size : Int) (sum t)) 30 (0, 0)) = w7 := ⟨_, rfl⟩
    obtain ⟨L, hL⟩ : ∃ L, w6.heap.size = L := ⟨_, rfl⟩
    rw [hw7] at HO8 HK7 HL7
    rw [hL] at HL7
    rw [hw7]
    simp only [hL]
    clear hw7 hL HO7 HO6 HK6 hft6 hdd hrt hu
    refine (get_ok w7 R M v6 dd 5 (s.size : Int) (sum s) n u (Lib.hid HO8.out.dsk) HD1 hpn hn.1 (by omega) (by omega) (by omega) hln (Lib.hid (by rw [Int.toNat_natCast]; exact HU.out))).mono ?_
    rintro e w8 ⟨he1, he2, hd⟩
    have HO9 := Lib.hid (HO8.out.on hd)
    have HL9 := blk_to HL7 hd
    clear hd HO8 HL7 HK7
    obtain rfl := he1 (by rw [hu2])
    clear he1 he2
    rw [hu2]
    clear hu2
    go_wp2_with (first | (refine wl_loadR L at_ (t.size : Int) (sum t) HL9.out rfl _ rfl rfl ?_))
    refine (get_ok w8 R M v6 dd at_ (t.size : Int) (sum t) m t (Lib.hid HO9.out.dsk) HD1 hpm hm.1 (by omega) (by omega) (by omega) hln (Lib.hid (by rw [Int.toNat_natCast]; exact HTt.out))).mono ?_
    rintro e w9 ⟨hf1, _, hd⟩
    obtain rfl := hf1 rfl
    have HO10 := Lib.hid (HO9.out.on hd)
    clear hd hf1 HO9 HL9
    go_wp2_with fail
    refine (code_nil _).mono ?_
    rintro e x11 ⟨rfl, hd⟩
    have HO11 := Lib.hid (HO10.out.on hd)
    clear hd HO10
    go_wp2_with fail
    refine (code_nil _).mono ?_
    rintro e x12 ⟨rfl, hd⟩
    have HO12 := Lib.hid (HO11.out.on hd)
    clear hd HO11
    go_wp2_with fail
    refine (code_nil _).mono ?_
    rintro e x13 ⟨rfl, hd⟩
    have HO13 := Lib.hid (HO12.out.on hd)
    clear hd HO12
    go_wp2_with fail
    refine (code_nil _).mono ?_
    rintro e x14 ⟨rfl, hd⟩
    have HO14 := Lib.hid (HO13.out.on hd)
    clear hd HO13
    go_wp2_with fail
    refine (code_nil _).mono ?_
    rintro e x15 ⟨rfl, hd⟩
    have HO15 := Lib.hid (HO14.out.on hd)
    clear hd HO14
    go_wp2_with fail
    go_ret
    exact ⟨rfl, HO15.out.bel⟩
  · go_wp2_with fail
    obtain ⟨at_, hat⟩ : ∃ at_ : Int, at_ = 5 + (n : Int) - 1 := ⟨_, rfl⟩
    rw [← hat]
    have ha1 : at_ ≤ 5 + (n : Int) := by omega
    have ha2 : 5 + (n : Int) - 1 ≤ at_ := by omega
    clear hat e5 e6
    refine (put_ok w5 R M _ _ at_ t m (Lib.hid HO5.out.dsk) (Lib.hid rfl) (Lib.hid rfl) (by omega) hpm hm.1 (by omega) (by show at_ + m ≤ 100; omega) (by show (100 : Int) ≤ 2048; omega) (by show (([] : List (Int × Pg)) ++ pgs s 5 n).length + m ≤ 1000; rw [List.length_append, pgs_length]; show 0 + n + m ≤ 1000; omega)).mono ?_
    rintro e w6 ⟨rfl, v6, hmd, hI, hv⟩
    have HO6 := Lib.hid (HO5.out.mods hmd hI hv)
    have HK6 := row_to HK5 HO5.out.dsk hKf hmd
    have hK6 := Err.lt_of_block HK5.out
    have hKf6 : ∀ i, Ft R M v6 i → i ≠ K := fun i hi e => by
      rcases hv i hi with g | g
      · exact hKf i g e
      · omega
    clear hmd hI hv HO5 HK5 hK6
    have hft6 := HO6.out.dsk.ft_lt
    have hbn6 : Below w6.heap.size w6 (w6.alloc (Obj.cells (refA at_ (t.size : Int) (sum t)) 30 (0, 0))) := (Below.refl _ _).alloc (Nat.le_refl _) _
    have HO7 := Lib.hid (HO6.out.on hbn6)
    have HK7 := blk_to HK6 hbn6
    have HL7 := Lib.hid (heap_alloc_last w6 (Obj.cells (refA at_ (t.size : Int) (sum t)) 30 (0, 0)))
    clear hbn6
    go_wp2_with (first | (refine wl_allocR rfl rfl ?_) | (refine wl_storeRn 0 0 0 at_ (t.size : Int) (sum t) rfl _ _ rfl rfl rfl ?_) | (refine wl_loadR K 5 (s.size : Int) (sum s) HK7.out rfl _ rfl rfl ?_))
    obtain ⟨dd, hdd⟩ : ∃ dd, ({ ({ (⟨100, fun _ => pz, [], false, -1⟩ : Dsk) with soft := [] ++ pgs s 5 n } : Dsk) with soft := ([] ++ pgs s 5 n) ++ pgs t at_ m } : Dsk) = dd := ⟨_, rfl⟩
    have HO8 := Lib.hid (show Blb.One w (w6.alloc (Obj.cells (refA at_ (t.size : Int) (sum t)) 30 (0, 0))) R M v6 dd by rw [← hdd]; exact HO7.out)
    have hrt : ∀ i : Nat, i < m → rd dd (at_ + (i : Int)) = pgOf t i := fun i hi => by
      rw [← hdd]; refine (rd_pgs { (⟨100, fun _ => pz, [], false, -1⟩ : Dsk) with soft := [] ++ pgs s 5 n } t at_ (at_ + (i : Int)) m).trans ?_; rw [if_pos (by omega), show (at_ + (i : Int) - at_).toNat = i by omega]
    have HTt := Lib.hid (gs_text dd at_ m t hm.2.2 hrt)
    obtain ⟨u, hu⟩ : ∃ u, strOfNums ((gs dd 5 n).take s.size) = u := ⟨_, rfl⟩
    have HU := Lib.hid hu
    have hus : u.size = s.size := by rw [← hu]; exact gs_size dd 5 n s.size hn.2.2
    have HD1 := Lib.hid (show dd.down = false by rw [← hdd])
    have hsz : dd.size = 100 := by rw [← hdd]
    have hln : dd.soft.length ≤ 1000 := by rw [← hdd]; show (([] ++ pgs s 5 n) ++ pgs t at_ m).length ≤ 1000; rw [List.length_append, List.length_append, pgs_length, pgs_length]; show 0 + n + m ≤ 1000; omega
    obtain ⟨w7, hw7⟩ : ∃ w7, w6.alloc (Obj.cells (refA at_ (t.size : Int) (sum t)) 30 (0, 0)) = w7 := ⟨_, rfl⟩
    obtain ⟨L, hL⟩ : ∃ L, w6.heap.size = L := ⟨_, rfl⟩
    rw [hw7] at HO8 HK7 HL7
    rw [hL] at HL7
    rw [hw7]
    simp only [hL]
    clear hw7 hL HO7 HO6 HK6 hft6 hdd hrt hu
    refine (get_ok w7 R M v6 dd 5 (s.size : Int) (sum s) n u (Lib.hid HO8.out.dsk) HD1 hpn hn.1 (by omega) (by omega) (by omega) hln (Lib.hid (by rw [Int.toNat_natCast]; exact HU.out))).mono ?_
    rintro e w8 ⟨he1, he2, hd⟩
    have HO9 := Lib.hid (HO8.out.on hd)
    have HL9 := blk_to HL7 hd
    clear hd HO8 HL7 HK7
    by_cases hz : sum u = sum s
    · obtain rfl := he1 hz
      clear he1 he2 hz
      have c9 : decide ((u.size : Int) = (s.size : Int)) = true := decide_eq_true (by omega)
      have c9' : ((u.size : Int) == (s.size : Int)) = true := beq_iff_eq.2 (by omega)
      have c9'' : (u.size == s.size) = true := beq_iff_eq.2 (by omega)
      go_wp2_with (first | (refine wl_loadR L at_ (t.size : Int) (sum t) HL9.out rfl _ rfl rfl ?_))
      refine (get_ok w8 R M v6 dd at_ (t.size : Int) (sum t) m t (Lib.hid HO9.out.dsk) HD1 hpm hm.1 (by omega) (by omega) (by omega) hln (Lib.hid (by rw [Int.toNat_natCast]; exact HTt.out))).mono ?_
      rintro e w9 ⟨hf1, _, hd⟩
      obtain rfl := hf1 rfl
      have HO10 := Lib.hid (HO9.out.on hd)
      clear hd hf1 HO9 HL9
      go_wp2_with fail
      refine (code_nil _).mono ?_
      rintro e x11 ⟨rfl, hd⟩
      have HO11 := Lib.hid (HO10.out.on hd)
      clear hd HO10
      go_wp2_with fail
      refine (code_nil _).mono ?_
      rintro e x12 ⟨rfl, hd⟩
      have HO12 := Lib.hid (HO11.out.on hd)
      clear hd HO11
      go_wp2_with fail
      refine (code_nil _).mono ?_
      rintro e x13 ⟨rfl, hd⟩
      have HO13 := Lib.hid (HO12.out.on hd)
      clear hd HO12
      go_wp2_with fail
      refine (code_nil _).mono ?_
      rintro e x14 ⟨rfl, hd⟩
      have HO14 := Lib.hid (HO13.out.on hd)
      clear hd HO13
      go_wp2_with fail
      refine (code_nil _).mono ?_
      rintro e x15 ⟨rfl, hd⟩
      have HO15 := Lib.hid (HO14.out.on hd)
      clear hd HO14
      go_wp2_with fail
      refine (code_nil _).mono ?_
      rintro e x16 ⟨rfl, hd⟩
      have HO16 := Lib.hid (HO15.out.on hd)
      clear hd HO15
      go_wp2_with fail
      go_ret
      exact ⟨rfl, HO16.out.bel⟩
    · obtain ⟨T, y, rfl, he⟩ := he2 hz
      have HE9 := Lib.hid he
      clear he1 he2 he hz
      go_wp2_with (first | (refine wl_loadR L at_ (t.size : Int) (sum t) HL9.out rfl _ rfl rfl ?_))
      refine (get_ok w8 R M v6 dd at_ (t.size : Int) (sum t) m t (Lib.hid HO9.out.dsk) HD1 hpm hm.1 (by omega) (by omega) (by omega) hln (Lib.hid (by rw [Int.toNat_natCast]; exact HTt.out))).mono ?_
      rintro e w9 ⟨hf1, _, hd⟩
      obtain rfl := hf1 rfl
      have HO10 := Lib.hid (HO9.out.on hd)
      have HE10 := Lib.hid (HE9.out.on hd)
      clear hd hf1 HO9 HL9
      go_wp2_with fail
      refine (code_nil _).mono ?_
      rintro e x11 ⟨rfl, hd⟩
      have HO11 := Lib.hid (HO10.out.on hd)
      have HE11 := Lib.hid (HE10.out.on hd)
      clear hd HO10
      go_wp2_with fail
      refine (code_nil _).mono ?_
      rintro e x12 ⟨rfl, hd⟩
      have HO12 := Lib.hid (HO11.out.on hd)
      have HE12 := Lib.hid (HE11.out.on hd)
      clear hd HO11
      go_wp2_with fail
      refine (code_nil _).mono ?_
      rintro e x13 ⟨rfl, hd⟩
      have HO13 := Lib.hid (HO12.out.on hd)
      have HE13 := Lib.hid (HE12.out.on hd)
      clear hd HO12
      go_wp2_with fail
      refine (code_nil _).mono ?_
      rintro e x14 ⟨rfl, hd⟩
      have HO14 := Lib.hid (HO13.out.on hd)
      have HE14 := Lib.hid (HE13.out.on hd)
      clear hd HO13
      go_wp2_with fail
      refine (Err.code_c _ 12 _ HE14 (Lib.hid (hg.out.on HO14.out.bel))).mono ?_
      rintro e x15 ⟨rfl, hd⟩
      have HO15 := Lib.hid (HO14.out.on hd)
      clear hd HO14
      go_wp2_with fail
      go_ret
      exact ⟨rfl, HO15.out.bel⟩
theorem walk (s t : ByteArray) (o : Bool) (w : World) (hs : s.size ≤ 140737488351232) (ht : t.size ≤ 140737488351232) (hg : Hid (Laid w)) :
    Calls Tryd.prog 5 #[.string s, .string t, .bool o] w fun e w' => e = .returned (.bool true) ∧ Below w.heap.size w w' := by
  by_cases h : s.size < 1 ∨ t.size < 1 ∨ 2000 < s.size ∨ 2000 < t.size
  · exact outside s t o w h hs ht
  · exact inside s t o w (by omega) (by omega) (by omega) (by omega) hg
end Go.Proofs.YtkkikhbenhkfcaaDoor.RowBlobApart
