/- BlobBack, the walk. -/
import Derived.Test.YtkkikhbenhkfcaaDoorBlobBack0
set_option linter.unusedVariables false
set_option linter.unusedSimpArgs false
namespace Go.Proofs.YtkkikhbenhkfcaaDoor.RowBlobBack
open Go.Proofs.YtkkikhbenhkfcaaDoor.AdM (sum)
open Go.RowKit Go.Proofs.YtkkikhbenhkfcaaDoor.QBlobBack Go.Proofs.YtkkikhbenhkfcaaDoorW.PrintWords Go.Proofs.YtkkikhbenhkfcaaDoorW.PrintLast Go.Proofs.YtkkikhbenhkfcaaDoorW.PrintMore Go.Proofs.YtkkikhbenhkfcaaDoor.CdM Go.Proofs.YtkkikhbenhkfcaaDoor.Md Go.Proofs.YtkkikhbenhkfcaaDoor.Dk Go.Proofs.YtkkikhbenhkfcaaDoor.Blb
open Go.Extern.Stop (cell)
open Go.Proofs.YtkkikhbenhkfcaaDoor.Err (Laid IsErr code_nil Chain at_some at_nil)
set_option maxHeartbeats 2000000 in
theorem outside (s : ByteArray) (p q : Int) (b : Int) (w : World) (h : s.size < 1 ∨ 16384 < s.size) (hs : s.size ≤ 140737488351232) :
    Calls Tryd.prog 4 #[.string s, .int .u16 p, .int .u16 q, .int .u8 b] w fun e w' => e = .returned (.bool true) ∧ Below w.heap.size w w' := by
  have hw := Lib.hid (Below.refl w.heap.size w)
  by_cases h0 : s.size < 1
  · clear h
    have c0 : decide ((s.size : Int) < 1) = true := decide_eq_true (by omega)
    have c0' : decide (s.size < 1) = true := decide_eq_true (by omega)
    go_enter Tryd.func4, Tryd.ntmps4
    go_wp2_with fail
    refine (awake_c w).mono ?_
    rintro e w1 ⟨rfl, hd⟩
    have HB1 := below_to hw (Nat.le_refl _) hd
    clear hd
    go_wp2_with fail
    refine (awake_c _).mono ?_
    rintro e w2 ⟨rfl, hd⟩
    have HB2 := below_to HB1 (Nat.le_refl _) hd
    clear hd
    go_wp2_with fail
    go_ret
    exact ⟨rfl, HB2.out⟩
  by_cases h1 : 16384 < s.size
  · clear h
    have c0 : decide ((s.size : Int) < 1) = false := decide_eq_false (by omega)
    have c0' : decide (s.size < 1) = false := decide_eq_false (by omega)
    have c1 : decide ((s.size : Int) > 16384) = true := decide_eq_true (by omega)
    have c1' : decide (16384 < s.size) = true := decide_eq_true (by omega)
    go_enter Tryd.func4, Tryd.ntmps4
    go_wp2_with fail
    refine (awake_c w).mono ?_
    rintro e w1 ⟨rfl, hd⟩
    have HB1 := below_to hw (Nat.le_refl _) hd
    clear hd
    go_wp2_with fail
    refine (awake_c _).mono ?_
    rintro e w2 ⟨rfl, hd⟩
    have HB2 := below_to HB1 (Nat.le_refl _) hd
    clear hd
    go_wp2_with fail
    go_ret
    exact ⟨rfl, HB2.out⟩
  omega
set_option maxHeartbeats 8000000 in
set_option maxRecDepth 100000 in
theorem inside (s : ByteArray) (p q : Int) (b : Int) (k c : Nat) (w : World) (n : Nat) (hs1 : 1 ≤ s.size) (hs2 : s.size ≤ 16384) (hnn : n = (s.size + 63) / 64) (hk : (wrap64 p).tmod (300 - (n : Int) + 1) = (k : Int)) (hkn : k + n ≤ 300) (hc : (wrap64 q).tmod (s.size : Int) = (c : Int)) (hcs : c < s.size)
    (hb : 0 ≤ b ∧ b < 256) (hg : Hid (Laid w)) :
    Calls Tryd.prog 4 #[.string s, .int .u16 p, .int .u16 q, .int .u8 b] w fun e w' => e = .returned (.bool true) ∧ Below w.heap.size w w' := by
  have hw := Lib.hid (Below.refl w.heap.size w)
  have c0 : decide ((s.size : Int) < 1) = false := decide_eq_false (by omega)
  have c0' : decide (s.size < 1) = false := decide_eq_false (by omega)
  have c1 : decide ((s.size : Int) > 16384) = false := decide_eq_false (by omega)
  have c1' : decide (16384 < s.size) = false := decide_eq_false (by omega)
  have hpn := Lib.hid (pages_of s hs1 hs2)
  rw [← hnn] at hpn
  have hn : 1 ≤ n ∧ n ≤ 256 ∧ s.size ≤ n * 64 ∧ c / 64 < n := by omega
  clear hnn
  have q1 : IntKind.i64.wrap (300 - (n : Int)) = 300 - (n : Int) := IntWalk.i64_in _ (by omega)
  have q2 : IntKind.i64.wrap (300 - (n : Int) + 1) = 300 - (n : Int) + 1 := IntWalk.i64_in _ (by omega)
  have q3 : ((300 - (n : Int) + 1) == 0) = false := beq_eq_false_iff_ne.2 (by omega)
  have q4 : ((s.size : Int) == 0) = false := beq_eq_false_iff_ne.2 (by omega)
  have q5 : (300 - (n : Int) + 1 = 0) = False := eq_false (by omega)
  have q6 : ((s.size : Int) = 0) = False := eq_false (by omega)
  go_enter Tryd.func4, Tryd.ntmps4
  go_wp2_with fail
  refine (awake_c w).mono ?_
  rintro e w1 ⟨rfl, hd⟩
  have HB1 := below_to hw (Nat.le_refl _) hd
  clear hd
  go_wp2_with fail
  refine (new_c w1 300 (by omega) (by omega)).mono ?_
  rintro e w2 ⟨R, M, hR, hM, rfl, hd, hI⟩
  have hs0 : w.heap.size ≤ w1.heap.size := HB1.out.size
  have HO2 := Lib.hid (show Blb.One w w2 R M _ _ from ⟨HB1.out.trans (hd.mono hs0), hI, Fr.nil (by omega) (by omega)⟩)
  clear hd hI HB1
  go_wp2_with fail
  refine (pages_c (s.size : Int) (n : Int) hpn _).mono ?_
  rintro e w3 ⟨rfl, hd⟩
  have HO3 := Lib.hid (HO2.out.on hd.below)
  clear hd HO2
  go_wp2_with fail
  refine (put_ok w3 R M _ _ (k : Int) s n (Lib.hid HO3.out.dsk) (Lib.hid rfl) (Lib.hid rfl) (by omega) hpn hn.1 (by omega) (by show (k : Int) + n ≤ 300; omega) (by show (300 : Int) ≤ 2048; omega) (by show 0 + n ≤ 1000; omega)).mono ?_
  rintro e w4 ⟨rfl, v4, hmd, hI, hv⟩
  have HO4 := Lib.hid (HO3.out.mods hmd hI hv)
  clear hmd hI hv HO3
  have hft4 := HO4.out.dsk.ft_lt
  have hbn4 : Below w4.heap.size w4 (w4.alloc (Obj.cells (refA (k : Int) (s.size : Int) (sum s)) 30 (0, 0))) := (Below.refl _ _).alloc (Nat.le_refl _) _
  have HO5 := Lib.hid (HO4.out.on hbn4)
  have HK5 := Lib.hid (heap_alloc_last w4 (Obj.cells (refA (k : Int) (s.size : Int) (sum s)) 30 (0, 0)))
  clear hbn4
  obtain ⟨dd, hdd⟩ : ∃ dd, ({ (⟨300, fun _ => pz, [], false, -1⟩ : Dsk) with soft := [] ++ pgs s (k : Int) n } : Dsk) = dd := ⟨_, rfl⟩
  rw [hdd] at HO5
  have hrs : ∀ i : Nat, i < n → rd dd ((k : Int) + (i : Int)) = pgOf s i := fun i hi => by
    rw [← hdd]
    refine (rd_pgs ⟨300, fun _ => pz, [], false, -1⟩ s (k : Int) ((k : Int) + (i : Int)) n).trans ?_
    rw [if_pos (by omega), show ((k : Int) + (i : Int) - (k : Int)).toNat = i by omega]
  have HTs := Lib.hid (gs_text dd (k : Int) n s hn.2.2.1 hrs)
  have HRs := Lib.hid hrs
  have HD1 := Lib.hid (show dd.down = false by rw [← hdd])
  have HBu := Lib.hid (show dd.budget = -1 by rw [← hdd])
  have hsz : dd.size = 300 := by rw [← hdd]
  have hln : dd.soft.length = n := by rw [← hdd]; show ([] ++ pgs s (k : Int) n).length = n; rw [List.nil_append, pgs_length]
  have hrv : rightV (k : Int) (s.size : Int) 300 = true := by
    unfold rightV
    rw [hpn.out, decide_eq_true (by omega), decide_eq_true (by omega), decide_eq_true (by omega)]; rfl
  have HRv := Lib.hid hrv
  clear hdd hrs hrv HO4
  go_wp2_with (first | (refine wl_allocR rfl rfl ?_) | (refine wl_storeRn 0 0 0 (k : Int) (s.size : Int) (sum s) rfl _ _ rfl rfl rfl ?_) | (refine wl_loadR w4.heap.size (k : Int) (s.size : Int) (sum s) HK5.out rfl _ rfl rfl ?_))
  obtain ⟨w5, hw5⟩ : ∃ w5, w4.alloc (Obj.cells (refA (k : Int) (s.size : Int) (sum s)) 30 (0, 0)) = w5 := ⟨_, rfl⟩
  obtain ⟨K, hK⟩ : ∃ K, w4.heap.size = K := ⟨_, rfl⟩
  rw [hw5] at HO5 HK5
  rw [hK] at HK5 hft4
  rw [hw5]
  simp only [hK]
  have hKf : ∀ i, Ft R M v4 i → i ≠ K := fun i hi => Nat.ne_of_lt (hft4 i hi)
  clear hw5 hK hft4
  refine (get_ok w5 R M v4 dd (k : Int) (s.size : Int) (sum s) n s (Lib.hid HO5.out.dsk) HD1 hpn hn.1 (by omega) (by omega) (by omega) (by omega) (Lib.hid (by rw [Int.toNat_natCast]; exact HTs.out))).mono ?_
  rintro e w6 ⟨he1, _, hd⟩
  obtain rfl := he1 rfl
  have HO10 := Lib.hid (HO5.out.on hd)
  have HK10 := blk_to HK5 hd
  clear hd he1 HO5 HK5
  go_wp2_with fail
  refine (code_nil _).mono ?_
  rintro e x11 ⟨rfl, hd⟩
  have HO11 := Lib.hid (HO10.out.on hd)
  have HK11 := blk_to HK10 hd
  clear hd HK10 HO10
  go_wp2_with fail
  refine (code_nil _).mono ?_
  rintro e x12 ⟨rfl, hd⟩
  have HO12 := Lib.hid (HO11.out.on hd)
  have HK12 := blk_to HK11 hd
  clear hd HK11 HO11
  go_wp2_with fail
  refine (code_nil _).mono ?_
  rintro e x13 ⟨rfl, hd⟩
  have HO13 := Lib.hid (HO12.out.on hd)
  have HK13 := blk_to HK12 hd
  clear hd HK12 HO12
  go_wp2_with (first | (refine wg_loadR K (k : Int) (s.size : Int) (sum s) HK13.out (by rfl) _ rfl rfl ?_))
  refine (right_c (k : Int) (s.size : Int) (sum s) 300 _ (by omega) (by omega)).mono ?_
  rintro e w14 ⟨rfl, hd⟩
  rw [HRv.out]
  have HO14 := Lib.hid (HO13.out.on hd)
  have HK14 := blk_to HK13 hd
  clear hd HO13 HK13
  obtain ⟨i, hi⟩ : ∃ i, i = c / 64 := ⟨_, rfl⟩
  obtain ⟨j, hj⟩ : ∃ j, j = c % 64 := ⟨_, rfl⟩
  have q7 : (c : Int).tdiv 64 = (i : Int) := by rw [Int.tdiv_eq_ediv_of_nonneg (by omega)]; omega
  have q8 : (c : Int).tmod 64 = (j : Int) := by rw [Int.tmod_eq_emod_of_nonneg (by omega)]; omega
  have q9 : IntKind.i64.wrap ((k : Int) + (i : Int)) = (k : Int) + (i : Int) := IntWalk.i64_in _ (by omega)
  have q10 : IntKind.i64.wrap (i : Int) = (i : Int) := IntWalk.i64_in _ (by omega)
  have hij : i < n ∧ j < 64 := by omega
  have HI := Lib.hid hi
  have HJ := Lib.hid hj
  clear hi hj
  go_wp2_with fail
  refine (read_ok w14 R M v4 dd ((k : Int) + (i : Int)) (Lib.hid HO14.out.dsk) (mayN0 HD1.out (by omega) (by omega)) (by omega)).mono ?_
  rintro e w15 ⟨rfl, hd⟩
  rw [HRs.out i hij.1]
  have HO15 := Lib.hid (HO14.out.on hd)
  have HK15 := blk_to HK14 hd
  clear hd HO14 HK14
  obtain ⟨P, hP⟩ : ∃ P, pgOf s i = P := ⟨_, rfl⟩
  rw [hP]
  obtain ⟨b0, hb0⟩ : ∃ b0 : UInt8, P.1[j]? = some b0 := ⟨P.1[j]'(by rw [P.2]; exact hij.2), List.getElem?_eq_getElem _⟩
  have hb0s : s.data.toList.getD c 0 = b0 := by
    rw [← hP, pg_get _ _ _ hij.2] at hb0
    rw [HI.out, HJ.out, show c / 64 * 64 + c % 64 = c by omega] at hb0
    exact Option.some.inj hb0
  obtain ⟨y, hyy⟩ : ∃ y : UInt8, Go.bits .xor .u8 ((b0.toNat : Nat) : Int) b = ((y.toNat : Nat) : Int) ∧ (y = b0 ↔ b = 0) := by
    have hlt := b0.toNat_lt
    rw [u8_xor _ _ (by omega) (by omega) hb.1 hb.2, Int.toNat_natCast]
    have hx : b0.toNat ^^^ b.toNat < 2 ^ 8 := Nat.xor_lt_two_pow (by omega) (by omega)
    refine ⟨UInt8.ofNat (b0.toNat ^^^ b.toNat), ?_, ?_⟩
    · rw [UInt8.toNat_ofNat', Nat.mod_eq_of_lt hx]
    · rw [← UInt8.toNat_inj, UInt8.toNat_ofNat', Nat.mod_eq_of_lt hx]
      constructor
      · intro h
        have h2 : b0.toNat ^^^ (b0.toNat ^^^ b.toNat) = b.toNat := by rw [← Nat.xor_assoc, Nat.xor_self, Nat.zero_xor]
        rw [h, Nat.xor_self] at h2
        omega
      · intro h
        rw [h]; exact Nat.xor_zero _
  obtain ⟨yi, hyi⟩ : ∃ yi : Int, yi = ((y.toNat : Nat) : Int) := ⟨_, rfl⟩
  obtain ⟨bi0, hbi0⟩ : ∃ bi0 : Int, bi0 = ((b0.toNat : Nat) : Int) := ⟨_, rfl⟩
  have hx := hyy.1
  rw [← hyi, ← hbi0] at hx
  have hbn : Below w15.heap.size w15 (w15.alloc (Obj.cells (pa P) 39 (0, 0))) := (Below.refl _ _).alloc (Nat.le_refl _) _
  have hcell : (w15.alloc (Obj.cells (pa P) 39 (0, 0))).cell? ⟨w15.heap.size, j, none⟩ = some (.int .u8 bi0) := by
    rw [Err.cell_of_blk (heap_alloc_last w15 _)]
    unfold pa
    rw [List.getElem?_toArray, List.getElem?_map, hb0, hbi0]
    rfl
  have hfz : (w15.alloc (Obj.cells (pa P) 39 (0, 0))).frozen? ⟨w15.heap.size, j, none⟩ = false := by
    have hl := heap_alloc_last w15 (Obj.cells (pa P) 39 (0, 0))
    generalize w15.alloc (Obj.cells (pa P) 39 (0, 0)) = wz at hl ⊢
    simp [World.frozen?, hl]
  have hP2 : (w15.alloc (Obj.cells ((pa P).setIfInBounds j (.int .u8 yi)) 39 (0, 0))).heap[w15.heap.size]? = some (Obj.cells (pa (pset P j y)) 39 (0, 0)) := by
    rw [hyi, ← pa_set]
    exact heap_alloc_last w15 _
  have hbs : Below w15.heap.size w15 (w15.alloc (Obj.cells ((pa P).setIfInBounds j (.int .u8 yi)) 39 (0, 0))) := (Below.refl _ _).alloc (Nat.le_refl _) _
  have HP2 := Lib.hid hP2
  have HO16 := Lib.hid (HO15.out.on hbs)
  have HK16 := blk_to HK15 hbs
  have HX := Lib.hid hx
  have HYY := Lib.hid hyy
  have HB0 := Lib.hid hb0s
  have p1 : (0 ≤ (j : Int)) = True := eq_true (by omega)
  have p2 : ((j : Int) < 64) = True := eq_true (by omega)
  have HPe := Lib.hid hP
  clear hP hb0 hb0s hyy hyi hbi0 hP2 hbs hbn HO15 HK15
  go_wp2_with (first
    | (refine wl_alloc30 rfl rfl ?_)
    | (refine wl_store30n pz P rfl _ _ rfl rfl rfl ?_)
    | (refine wl_load30 w15.heap.size (pset P j y) HP2.out rfl _ rfl rfl ?_))
  obtain ⟨w16, hw16⟩ : ∃ w16, w15.alloc (Obj.cells ((pa P).setIfInBounds j (.int .u8 yi)) 39 (0, 0)) = w16 := ⟨_, rfl⟩
  rw [hw16] at HO16 HK16
  rw [hw16]
  clear hw16 HP2 hcell hfz
  have hKw := Err.lt_of_block HK16.out
  refine (write_ok w16 R M v4 dd ((k : Int) + (i : Int)) (pset P j y) (Lib.hid HO16.out.dsk) HD1 (by omega) (by omega) (by rw [HBu.out]; decide) (by rw [HBu.out]; decide) (by rw [HBu.out]; decide) (by omega)).mono ?_
  rintro e w17 ⟨rfl, v17, hmd, hI, hv⟩
  have HO17 := Lib.hid (HO16.out.mods hmd hI (ft_new hv))
  have HK17 := row_to HK16 HO16.out.dsk hKf hmd
  clear hmd hI hv HO16 HK16
  obtain ⟨dz, hdz⟩ : ∃ dz, ({ dd with soft := dd.soft ++ [((k : Int) + (i : Int), pset P j y)], budget := max (dd.budget - 1) (-1) } : Dsk) = dz := ⟨_, rfl⟩
  rw [hdz] at HO17
  obtain ⟨t, ht⟩ : ∃ t : ByteArray, t.data.toList = s.data.toList.set c y := ⟨⟨(s.data.toList.set c y).toArray⟩, by simp⟩
  have hgt : strOfNums ((gs dz (k : Int) n).take s.size) = t := by
    refine gs_one dz (k : Int) n c s t y hn.2.2.1 hcs (fun i2 hi2 hne => ?_) ?_ ht
    · rw [← hdz]
      refine (rd_snoc dd _ _ _ _).trans ?_
      rw [if_neg (by have := HI.out; omega)]
      exact HRs.out i2 hi2
    · rw [← hdz, ← HI.out, ← HJ.out]
      refine (congrArg Subtype.val (rd_snoc dd _ _ _ _)).trans ?_
      rw [if_pos rfl, HPe.out]
      rfl
  have HGt := Lib.hid hgt
  have HD2 := Lib.hid (show dz.down = false by rw [← hdz]; exact HD1.out)
  have hsz2 : dz.size = 300 := by rw [← hdz]; exact hsz
  have hln2 : dz.soft.length ≤ 1000 := by rw [← hdz]; show (dd.soft ++ [_]).length ≤ 1000; rw [List.length_append]; show dd.soft.length + 1 ≤ 1000; omega
  clear hdz hgt
  go_wp2_with (first | (refine wl_loadR K (k : Int) (s.size : Int) (sum s) HK17.out rfl _ rfl rfl ?_))
  refine (get_ok w17 R M v17 dz (k : Int) (s.size : Int) (sum s) n t (Lib.hid HO17.out.dsk) HD2 hpn hn.1 (by omega) (by omega) (by omega) hln2 (Lib.hid (by rw [Int.toNat_natCast]; exact HGt.out))).mono ?_
  rintro e w18 ⟨he1, he2, hd⟩
  have HO18 := Lib.hid (HO17.out.on hd)
  clear HO17 HK17
  by_cases hbz : b = 0
  · have hyb := HYY.out.2.2 hbz
    have hts : t = s := by
      apply ByteArray.ext
      apply Array.toList_inj.1
      rw [ht, hyb, ← HB0.out, List.getD_eq_getElem?_getD, List.getElem?_eq_getElem (by rw [sl_length]; exact hcs)]
      exact List.set_getElem_self (by rw [sl_length]; exact hcs)
    rw [hts] at he1
    obtain rfl := he1 rfl
    have g1 : (b == 0) = true := beq_iff_eq.2 hbz
    have g2 : (b = 0) = True := eq_true hbz
    have g3 : (b != 0) = false := by rw [bne, g1]; rfl
    clear he1 he2 hd HYY hx HX hyb hts ht hbz
    go_wp2_with fail
    refine (code_nil _).mono ?_
    rintro e x19 ⟨rfl, hd⟩
    have HO19 := Lib.hid (HO18.out.on hd)
    clear hd HO18
    go_wp2_with fail
    go_ret
    exact ⟨rfl, HO19.out.bel⟩
  · have hne : sum t ≠ sum s := sum_set s t c y hcs ht (by rw [HB0.out]; exact fun e => hbz (HYY.out.2.1 e))
    obtain ⟨T, u, rfl, he⟩ := he2 hne
    have HE18 := Lib.hid he
    have g1 : (b == 0) = false := beq_eq_false_iff_ne.2 hbz
    have g2 : (b = 0) = False := eq_false hbz
    have g3 : (b != 0) = true := by rw [bne, g1]; rfl
    clear he1 he2 hd HYY hx HX ht hbz he hne
    go_wp2_with fail
    refine (code_nil _).mono ?_
    rintro e x19 ⟨rfl, hd⟩
    have HO19 := Lib.hid (HO18.out.on hd)
    have HE19 := Lib.hid (HE18.out.on hd)
    clear hd HO18 HE18
    go_wp2_with fail
    refine (Err.code_c _ 12 _ HE19 (Lib.hid (hg.out.on HO19.out.bel))).mono ?_
    rintro e x20 ⟨rfl, hd⟩
    have HO20 := Lib.hid (HO19.out.on hd)
    clear hd HO19 HE19
    go_wp2_with fail
    go_ret
    exact ⟨rfl, HO20.out.bel⟩
theorem walk (s : ByteArray) (p q b : Int) (w : World) (hs : s.size ≤ 140737488351232) (hp : (Lit.int .u16 p).wf = true) (hq : (Lit.int .u16 q).wf = true) (hb : (Lit.int .u8 b).wf = true) (hg : Hid (Laid w)) :
    Calls Tryd.prog 4 #[.string s, .int .u16 p, .int .u16 q, .int .u8 b] w fun e w' => e = .returned (.bool true) ∧ Below w.heap.size w w' := by
  have hp2 : 0 ≤ p ∧ p < 65536 := by simp [Lit.wf, IntKind.min, IntKind.max, IntKind.bits, IntKind.signed] at hp; omega
  have hq2 : 0 ≤ q ∧ q < 65536 := by simp [Lit.wf, IntKind.min, IntKind.max, IntKind.bits, IntKind.signed] at hq; omega
  have hb2 : 0 ≤ b ∧ b < 256 := by simp [Lit.wf, IntKind.min, IntKind.max, IntKind.bits, IntKind.signed] at hb; omega
  by_cases h : s.size < 1 ∨ 16384 < s.size
  · exact outside s p q b w h hs
  · have wp : wrap64 p = p := by unfold wrap64; omega
    have wq : wrap64 q = q := by unfold wrap64; omega
    obtain ⟨n, hn⟩ : ∃ n, n = (s.size + 63) / 64 := ⟨_, rfl⟩
    have h1 := Int.emod_nonneg p (show (300 - (n : Int) + 1) ≠ 0 by omega)
    have h2 := Int.emod_lt_of_pos p (show 0 < (300 - (n : Int) + 1) by omega)
    have h3 := Int.emod_nonneg q (show (s.size : Int) ≠ 0 by omega)
    have h4 := Int.emod_lt_of_pos q (show 0 < (s.size : Int) by omega)
    refine inside s p q b (p % (300 - (n : Int) + 1)).toNat (q % (s.size : Int)).toNat w n (by omega) (by omega) hn ?_ ?_ ?_ ?_ hb2 hg
    · rw [wp, Int.tmod_eq_emod_of_nonneg hp2.1]; omega
    · omega
    · rw [wq, Int.tmod_eq_emod_of_nonneg hq2.1]; omega
    · omega
end Go.Proofs.YtkkikhbenhkfcaaDoor.RowBlobBack
