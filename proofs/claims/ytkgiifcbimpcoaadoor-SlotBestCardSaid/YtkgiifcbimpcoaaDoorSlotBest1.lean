/- SlotBest, the walk. -/
import Derived.Test.YtkgiifcbimpcoaaDoorSlotRefA
import Derived.Test.YtkgiifcbimpcoaaDoorSlotByte
set_option linter.unusedVariables false
set_option linter.unusedSimpArgs false
namespace Go.Proofs.YtkgiifcbimpcoaaDoor.RowSlotBest
open Go.RowKit Go.Proofs.YtkgiifcbimpcoaaDoorW.PrintWords Go.Proofs.YtkgiifcbimpcoaaDoorW.PrintLast Go.Proofs.YtkgiifcbimpcoaaDoorW.PrintMore Go.Proofs.YtkgiifcbimpcoaaDoor.Md Go.Proofs.YtkgiifcbimpcoaaDoor.Dk Go.Proofs.YtkgiifcbimpcoaaDoor.Blb Go.Proofs.YtkgiifcbimpcoaaDoor.Slt Go.Proofs.YtkgiifcbimpcoaaDoor.Rf
open Go.Extern.Stop (cell)
open Go.Proofs.YtkgiifcbimpcoaaDoor.Err (Laid IsErr code_nil code_c Chain at_some at_nil)
theorem bad_iff (p : Pg) : (0 < (slotOf p).g → slotBad p = 0) ∧ (¬ 0 < (slotOf p).g → slotBad p ≠ 0 ∧ slotOf p = Sl.zero) := by
  refine ⟨fun h => by unfold slotBad; exact if_pos h, fun h => ⟨?_, slotOf_zero h⟩⟩
  unfold slotBad
  rw [if_neg h]
  split <;> decide
theorem pick_le {a b : Sl} (h : ¬ a.g < b.g) : pick a b = a := by unfold pick; exact if_neg h
theorem pick_lt {a b : Sl} (h : a.g < b.g) : pick a b = b := by unfold pick; exact if_pos h
theorem best_zero (d : Dsk) (h : ¬ 0 < (bestOf d 2).g) : bestOf d 2 = Sl.zero := by
  rw [bestOf_two] at h ⊢
  have ha := slotOf_nonneg (rd d 0)
  have hb := slotOf_nonneg (rd d 1)
  by_cases h0 : 0 < (slotOf (rd d 0)).g
  · rw [pick_z h0] at h
    by_cases h1 : (slotOf (rd d 0)).g < (slotOf (rd d 1)).g
    · rw [pick_lt h1] at h; omega
    · rw [pick_le h1] at h; omega
  · rw [slotOf_zero h0, pick_zz] at h ⊢
    by_cases h1 : 0 < (slotOf (rd d 1)).g
    · rw [pick_z h1] at h; omega
    · rw [slotOf_zero h1, pick_zz]
/-- what Best answers where both sectors may be read -/
theorem best_e {d : Dsk} {w w' : World} {ev : Ending} (h : BestAt d w ev w') (m0 : mayN d 0 = 0) (m1 : mayN d 1 = 0) : ∃ E, ev = .returned (.tuple #[.agg (bestOf d 2).a, E]) ∧ IsErr w' E (if 0 < (bestOf d 2).g then 0 else 3) ∧ (0 < (bestOf d 2).g → E = .nilIface) := by
  by_cases hp : 0 < (bestOf d 2).g
  · exact ⟨.nilIface, h.2.1 m0 m1 hp, by rw [if_pos hp]; exact .inl ⟨rfl, rfl⟩, fun _ => rfl⟩
  · obtain ⟨T, u, e, he⟩ := h.2.2.1 m0 m1 hp
    refine ⟨.iface T u, ?_, by rw [if_neg hp]; exact he, fun h => absurd h hp⟩
    rw [e, best_zero d hp]
theorem eqR_self (a b c d : Int) : (a == a && (b == b && (c == c && (d == d)))) = true := by simp
theorem exec_loadS {ρ : Operand → Value} {o : Oper} {x : Operand} {W : World} {b : Nat} {g m y z : Int} (ho : o.op = .load 35 x) (hx : ρ x = .pointer (some ⟨b, 0, none⟩)) (hp : W.heap[b]? = some (Obj.cells (slA g m y z) 35 (0, 0))) : (execOp ρ o).run Tryd.prog W = .ok (.value (.agg (slA g m y z))) W := by
  unfold execOp; simp only [ho, hx, run_loadS W b g m y z hp, Sem.run_bind, Sem.run_pure, Result.andThen_ok]
set_option maxHeartbeats 16000000 in
set_option maxRecDepth 100000 in
theorem walk (p q : Pg) (W : World) (hg : Hid (Laid W)) : Calls Tryd.prog 5 #[pv p, pv q] W fun e w' => e = .returned (.bool true) ∧ Below W.heap.size W w' := by
  have hpv := pv_eq p
  have hqv := pv_eq q
  go_enter Tryd.func5, Tryd.ntmps5
  go_wp2_with fail
  obtain ⟨HA1, HB1, HX1⟩ := alloc2 W (Obj.cells (pa p) 26 (0, 0)) (Obj.cells (pa q) 26 (0, 0))
  obtain ⟨B, hB⟩ : ∃ B, W.heap.size = B := ⟨_, rfl⟩
  rw [hB] at HA1 HB1
  (try rw [alloc_size])
  simp only [hB]
  have HBW := Lib.hid hB
  generalize ((W.alloc (Obj.cells (pa p) 26 (0, 0))).alloc (Obj.cells (pa q) 26 (0, 0))) = w1 at *
  refine (awake_c _ (Lib.hid (hg.out.on HX1.out))).mono ?_
  rintro e w2 ⟨rfl, hd⟩
  have HA2 := blk_to HA1 hd
  have HB2 := blk_to HB1 hd
  have HX2 := Dk.below_to HX1 (Nat.le_refl _) hd
  clear hd HA1 HB1 HX1
  go_wp2_with fail
  refine (new_c _ 2 (by omega) (by omega)).mono ?_
  rintro e w6 ⟨R, M, hR, hM, rfl, hd, hdd⟩
  have HA6 := blk_to HA2 hd
  have HB6 := blk_to HB2 hd
  have hXs := HX2.out.size
  have HX6 := Dk.below_to HX2 (Nat.le_refl _) hd
  have HO6 := Lib.hid (show One W w6 R M (.slice none 0 0) ⟨2, fun _ => pz, [], false, -1⟩ from ⟨HX6.out, hdd, Fr.nil (by omega) (by omega)⟩)
  have hAR : B < w2.heap.size := Err.lt_of_block HA2.out
  have hBR : B + 1 < w2.heap.size := Err.lt_of_block HB2.out
  have hRB : ∀ i, Ft R M (.slice none 0 0) i → w2.heap.size ≤ i := Fr.nil hR hM
  obtain ⟨d, hdz⟩ : ∃ d : Dsk, d = ⟨2, fun _ => pz, [], false, -1⟩ := ⟨_, rfl⟩
  rw [← hdz] at HO6
  have HDz := Lib.hid hdz
  have hs26 := hd.size
  clear hd hdd hdz HA2 HB2 HX2 hR hM HX6
  go_wp2_with (first | (refine wl_loadB B p HA6.out rfl _ rfl rfl ?_))
  refine (write_ok w6 R M _ d 0 p (Lib.hid HO6.out.dsk) (Lib.hid (by rw [HDz.out])) (by omega) (by rw [HDz.out]; decide) (by rw [HDz.out]; decide) (by rw [HDz.out]; decide) (by rw [HDz.out]; decide) (by rw [HDz.out]; decide)).mono ?_
  rintro e w7 ⟨rfl, v7, hm, hdd, hv⟩
  have HA7 := Lib.hid (hm.blk HA6.out (fun hf => by have := hRB _ hf; omega))
  have HB7 := Lib.hid (hm.blk HB6.out (fun hf => by have := hRB _ hf; omega))
  have HO7 := Lib.hid (HO6.out.mods hm hdd (ft_new hv))
  have hRC : ∀ i, Ft R M v7 i → w2.heap.size ≤ i := fun i h => (ft_new hv i h).elim (hRB i) (fun h => Nat.le_trans hs26 h)
  have hs1 : ∀ j, rd { d with soft := d.soft ++ [(0, p)], budget := max (d.budget - 1) (-1) } j = if (0 : Int) = j then p else rd d j := fun j => rd_snoc d j 0 p _
  obtain ⟨d1, hd1⟩ : ∃ d1, ({ d with soft := d.soft ++ [((0 : Int), p)], budget := max (d.budget - 1) (-1) } : Dsk) = d1 := ⟨_, rfl⟩
  have HD1 := Lib.hid (show d1.down = false ∧ d1.size = 2 ∧ d1.budget = -1 ∧ d1.soft.length = 1 from by
    rw [← hd1, HDz.out]; exact ⟨rfl, rfl, rfl, rfl⟩)
  rw [hd1] at HO7 hs1
  have HS1 := Lib.hid hs1
  clear hm hdd hv hd1 hs1 HA6 HB6 HO6 HDz hs26
  go_wp2_with (first | (refine wl_loadB (B + 1) q HB7.out rfl _ rfl rfl ?_))
  refine (write_ok w7 R M _ d1 1 q (Lib.hid HO7.out.dsk) (Lib.hid HD1.out.1) (by omega) (by rw [HD1.out.2.1]; decide) (by rw [HD1.out.2.2.1]; decide) (by rw [HD1.out.2.2.1]; decide) (by rw [HD1.out.2.2.1]; decide) (by rw [HD1.out.2.2.2]; decide)).mono ?_
  rintro e w8 ⟨rfl, v8, hm, hdd, hv⟩
  have HA8 := Lib.hid (hm.blk HA7.out (fun hf => by have := hRC _ hf; omega))
  have HB8 := Lib.hid (hm.blk HB7.out (fun hf => by have := hRC _ hf; omega))
  have HO8 := Lib.hid (HO7.out.mods hm hdd (ft_new hv))
  have hs2 : ∀ j, rd { d1 with soft := d1.soft ++ [(1, q)], budget := max (d1.budget - 1) (-1) } j = if (1 : Int) = j then q else rd d1 j := fun j => rd_snoc d1 j 1 q _
  obtain ⟨d2, hd2⟩ : ∃ d2, ({ d1 with soft := d1.soft ++ [((1 : Int), q)], budget := max (d1.budget - 1) (-1) } : Dsk) = d2 := ⟨_, rfl⟩
  have hdn2 : d2.down = false := by rw [← hd2]; exact HD1.out.1
  have hsz2 : d2.size = 2 := by rw [← hd2]; exact HD1.out.2.1
  have hso2 : d2.soft.length ≤ 1000 := by
    rw [← hd2]
    show (d1.soft ++ [((1 : Int), q)]).length ≤ 1000
    rw [List.length_append, HD1.out.2.2.2, List.length_singleton]; omega
  rw [hd2] at HO8 hs2
  have h0 : rd d2 0 = p := by rw [hs2, if_neg (by decide), HS1.out, if_pos rfl]
  have h1 : rd d2 1 = q := by rw [hs2, if_pos rfl]
  have hY : bestOf d2 2 = pick (pick Sl.zero (slotOf p)) (slotOf q) := by rw [bestOf_two, h0, h1]
  have m0 : mayN d2 0 = 0 := mayN_zero hdn2 (by omega) (by omega)
  have m1 : mayN d2 1 = 0 := mayN_zero hdn2 (by omega) (by omega)
  have HM0 := Lib.hid m0
  have HM1 := Lib.hid m1
  obtain ⟨Y, hYe⟩ : ∃ Y, pick (pick Sl.zero (slotOf p)) (slotOf q) = Y := ⟨_, rfl⟩
  rw [hYe] at hY
  have HY := Lib.hid hY
  have HYe := Lib.hid hYe
  clear hm hdd hv hd2 hs2 HA7 HB7 HO7 HD1 HS1 hdn2 hsz2 h0 h1 m0 m1 hY hYe
  go_wp2_with fail
  refine (best_c w8 R M _ d2 (Lib.hid HO8.out.dsk) hso2).mono ?_
  rintro e w9 hba
  obtain ⟨E, rfl, he, hen⟩ := best_e hba HM0.out HM1.out
  rw [HY.out] at he hen ⊢
  have HEN := Lib.hid hen
  clear hen
  obtain ⟨c, hc⟩ : ∃ c : Int, (if 0 < Y.g then (0 : Int) else 3) = c := ⟨_, rfl⟩
  rw [hc] at he
  have HC := Lib.hid hc
  have hd := hba.1
  have HO9 := Lib.hid (HO8.out.on hd)
  have HA9 := blk_to HA8 hd
  have HB9 := blk_to HB8 hd
  have HE9 := Lib.hid he
  have hb10 : Below w9.heap.size w9 (w9.alloc (Obj.cells Y.a 35 (0, 0))) := (Below.refl _ _).alloc (Nat.le_refl _) _
  have HO10 := Lib.hid (HO9.out.on hb10)
  have HA10 := blk_to HA9 hb10
  have HB10 := blk_to HB9 hb10
  have HE10 := Lib.hid (HE9.out.on hb10)
  have HV10 := Lib.hid (heap_alloc_last w9 (Obj.cells Y.a 35 (0, 0)))
  obtain ⟨V, hV⟩ : ∃ V, w9.heap.size = V := ⟨_, rfl⟩
  rw [hV] at HV10
  clear hba hd he hc hb10 HA8 HB8 HO8 HA9 HB9 HO9 HE9 HM0 HM1 HY hso2
  go_wp2_with (first
    | (refine wl_allocS rfl rfl ?_)
    | (refine wl_storeSn 0 0 0 0 Y.g Y.x Y.y Y.z rfl _ _ rfl rfl rfl ?_)
    | (refine wl_loadB B p HA10.out rfl _ rfl rfl ?_))
  (try simp only [hV])
  generalize (w9.alloc (Obj.cells Y.a 35 (0, 0))) = w10 at *
  obtain ⟨S, hS⟩ : ∃ S, slotOf p = S := ⟨_, rfl⟩
  obtain ⟨f, hf⟩ : ∃ f, slotBad p = f := ⟨_, rfl⟩
  obtain ⟨T, hT⟩ : ∃ T, slotOf q = T := ⟨_, rfl⟩
  obtain ⟨g, hg'⟩ : ∃ g, slotBad q = g := ⟨_, rfl⟩
  have HS := Lib.hid hS
  have HF := Lib.hid hf
  have HT := Lib.hid hT
  have HG := Lib.hid hg'
  refine (rread_c p w10).mono ?_
  rintro e w11 ⟨rfl, hd⟩
  rw [hS, hf]
  have HO11 := Lib.hid (HO10.out.on hd)
  have HB11 := blk_to HB10 hd
  have HE11 := Lib.hid (HE10.out.on hd)
  have HV11 := blk_to HV10 hd
  have hb12 : Below w11.heap.size w11 (w11.alloc (Obj.cells S.a 24 (0, 0))) := (Below.refl _ _).alloc (Nat.le_refl _) _
  have HO12 := Lib.hid (HO11.out.on hb12)
  have HB12 := blk_to HB11 hb12
  have HE12 := Lib.hid (HE11.out.on hb12)
  have HV12 := blk_to HV11 hb12
  have HI12 := Lib.hid (heap_alloc_last w11 (Obj.cells S.a 24 (0, 0)))
  obtain ⟨I, hI⟩ : ∃ I, w11.heap.size = I := ⟨_, rfl⟩
  rw [hI] at HI12
  have HIW := Lib.hid (show W.heap.size ≤ I from by have := HO11.out.bel.size; omega)
  clear hd hb12 HA10 HO10 HB10 HE10 HV10 HO11 HB11 HE11 HV11 hV hS hf hT hg'
  go_wp2_with (first
    | (refine wl_allocQ rfl rfl ?_)
    | (refine wl_storeQn 0 0 0 0 S.g S.x S.y S.z rfl _ _ rfl rfl rfl ?_)
    | (refine wl_loadB (B + 1) q HB12.out rfl _ rfl rfl ?_))
  (try simp only [hI])
  generalize (w11.alloc (Obj.cells S.a 24 (0, 0))) = w12 at *
  refine (rread_c q w12).mono ?_
  rintro e w13 ⟨rfl, hd⟩
  rw [HT.out, HG.out]
  have HO13 := Lib.hid (HO12.out.on hd)
  have HE13 := Lib.hid (HE12.out.on hd)
  have HV13 := blk_to HV12 hd
  have HI13 := blk_to HI12 hd
  have hb14 : Below w13.heap.size w13 (w13.alloc (Obj.cells T.a 24 (0, 0))) := (Below.refl _ _).alloc (Nat.le_refl _) _
  have HO14 := Lib.hid (HO13.out.on hb14)
  have HE14 := Lib.hid (HE13.out.on hb14)
  have HV14 := blk_to HV13 hb14
  have HI14 := blk_to HI13 hb14
  have HJ14 := Lib.hid (heap_alloc_last w13 (Obj.cells T.a 24 (0, 0)))
  obtain ⟨J, hJ⟩ : ∃ J, w13.heap.size = J := ⟨_, rfl⟩
  rw [hJ] at HJ14
  clear hd hb14 HO12 HB12 HE12 HV12 HI12 HO13 HE13 HV13 HI13 hI
  go_wp2_with (first
    | (refine wl_allocQ rfl rfl ?_)
    | (refine wl_storeQn 0 0 0 0 T.g T.x T.y T.z rfl _ _ rfl rfl rfl ?_))
  (try simp only [hJ])
  generalize (w13.alloc (Obj.cells T.a 24 (0, 0))) = w14 at *
  clear hJ
  refine (new_c _ 1 (by omega) (by omega)).mono ?_
  rintro e w15 ⟨R2, M2, _, _, rfl, hd, hdd⟩
  have HX15 := Dk.below_to (Lib.hid HO14.out.bel) (Nat.le_refl _) hd
  have HE15 := Lib.hid (HE14.out.on hd)
  have HV15 := blk_to HV14 hd
  have HI15 := blk_to HI14 hd
  have HJ15 := blk_to HJ14 hd
  have HDD := Lib.hid hdd
  clear hd hdd HO14 HE14 HV14 HI14 HJ14
  go_wp2_with fail
  refine (best_c w15 R2 M2 _ ⟨1, fun _ => pz, [], false, -1⟩ HDD (by decide)).mono ?_
  rintro e w16 hba
  obtain ⟨T1, u1, rfl, he⟩ := hba.2.2.2 1 (by decide) (fun i hi => by obtain rfl : i = 0 := by omega
                                                                      rfl) (by decide)
  have he : IsErr w16 (.iface T1 u1) 1 := he
  have hd := hba.1
  have HX16 := Dk.below_to HX15 (Nat.le_refl _) hd
  have HE16 := Lib.hid (HE15.out.on hd)
  have HV16 := blk_to HV15 hd
  have HI16 := blk_to HI15 hd
  have HJ16 := blk_to HJ15 hd
  have hb17 : Below w16.heap.size w16 (w16.alloc (Obj.cells (slA 0 0 0 0) 35 (0, 0))) := (Below.refl _ _).alloc (Nat.le_refl _) _
  have HX17 := Dk.below_to HX16 (Nat.le_refl _) hb17
  have HE17 := Lib.hid (HE16.out.on hb17)
  have HH17 := Lib.hid (he.on hb17)
  have HV17 := blk_to HV16 hb17
  have HI17 := blk_to HI16 hb17
  have HJ17 := blk_to HJ16 hb17
  clear hd hba he hb17 HDD HX15 HE15 HV15 HI15 HJ15 HX16 HE16 HV16 HI16 HJ16
  go_wp2_with (first
    | (refine wl_allocS rfl rfl ?_)
    | (refine wl_storeSn 0 0 0 0 0 0 0 0 rfl _ _ rfl rfl rfl ?_))
  obtain ⟨GG, hGG⟩ : ∃ GG, w16.heap.size = GG := ⟨_, rfl⟩
  (try simp only [hGG])
  generalize (w16.alloc (Obj.cells (slA 0 0 0 0) 35 (0, 0))) = w17 at *
  clear hGG
  refine (switch_no w17 R Sl.zero (Lib.hid rfl)).mono ?_
  rintro e w18 ⟨⟨T2, u2, rfl, he⟩, hd⟩
  have HX18 := Dk.below_to HX17 (Nat.le_refl _) hd
  have HE18 := Lib.hid (HE17.out.on hd)
  have HH18 := Lib.hid (HH17.out.on hd)
  have HK18 := Lib.hid he
  have HL18 := Lib.hid (hg.out.on HX18.out)
  have HV18 := blk_to HV17 hd
  have HI18 := blk_to HI17 hd
  have HJ18 := blk_to HJ17 hd
  clear hd he HX17 HE17 HH17 HV17 HI17 HJ17
  go_wp2_with fail
  refine (code_c _ 1 _ HH18 HL18).mono ?_
  rintro e w19 ⟨rfl, hd⟩
  have HX19 := Dk.below_to HX18 (Nat.le_refl _) hd
  have HE19 := Lib.hid (HE18.out.on hd)
  have HK19 := Lib.hid (HK18.out.on hd)
  have HL19 := Lib.hid (HL18.out.on hd)
  have HV19 := blk_to HV18 hd
  have HI19 := blk_to HI18 hd
  have HJ19 := blk_to HJ18 hd
  clear hd HX18 HE18 HH18 HK18 HL18 HV18 HI18 HJ18
  go_wp2_with fail
  refine (code_c _ 1 _ HK19 HL19).mono ?_
  rintro e w20 ⟨rfl, hd⟩
  have HX20 := Dk.below_to HX19 (Nat.le_refl _) hd
  have HE20 := Lib.hid (HE19.out.on hd)
  have HL20 := Lib.hid (HL19.out.on hd)
  have HV20 := blk_to HV19 hd
  have HI20 := blk_to HI19 hd
  have HJ20 := blk_to HJ19 hd
  clear hd HX19 HE19 HK19 HL19 HV19 HI19 HJ19
  have bp := bad_iff p
  have bq := bad_iff q
  rw [HS.out, HF.out] at bp
  rw [HT.out, HG.out] at bq
  have hSg : 0 ≤ S.g := by rw [← HS.out]; exact slotOf_nonneg p
  have hTg : 0 ≤ T.g := by rw [← HT.out]; exact slotOf_nonneg q
  have hYe := HYe.out
  rw [HS.out, HT.out] at hYe
  have HBP := Lib.hid bp
  have HBQ := Lib.hid bq
  have HY2 := Lib.hid hYe
  clear bp bq hYe HYe HS HT HF HG
  have hbp := HBP.out
  have hbq := HBQ.out
  have hY2 := HY2.out
  have hcc := HC.out
  clear HBP HBQ HY2 HC
  by_cases hp : 0 < S.g
  · obtain rfl := hbp.1 hp
    rw [pick_z hp] at hY2
    clear hbp
    by_cases hq : 0 < T.g
    · obtain rfl := hbq.1 hq
      clear hbq
      by_cases hgt : S.g < T.g
      · rw [pick_lt hgt] at hY2
        have hYT : Y = T := hY2.symm
        have hpos := hq
        obtain rfl : E = .nilIface := HEN.out (by rw [hYT]; exact hpos)
        have g1 : decide (S.g < T.g) = true := decide_eq_true hgt
        have c0 : w20.cell? ⟨I, 0, none⟩ = some (.int .u32 S.g) := Err.cell_of_blk HI20.out 0
        have c1 : w20.cell? ⟨J, 0, none⟩ = some (.int .u32 T.g) := Err.cell_of_blk HJ20.out 0
        clear hcc hY2 hgt hp hq hpos
        go_wp2_with (first
          | (refine wl_loadQ J T.g T.x T.y T.z HJ20.out rfl _ rfl rfl ?_)
          | (refine wl_storeQ I S.g S.x S.y S.z T.g T.x T.y T.z HI20.out rfl _ _ rfl rfl rfl ?_))
        clear c0 c1
        have hne : ¬ V = I := fun e => by
          have h1 := HV20.out
          rw [e, HI20.out] at h1
          simp at h1
        have hm := mod_row w20 I (slA T.g T.x T.y T.z)
        have HV21 := Lib.hid (hm.blk HV20.out hne)
        have HI21 := Lib.hid (setRow_heap w20 I _ (slA T.g T.x T.y T.z) _ _ HI20.out)
        have HX21 := Lib.hid (HX20.out.trans (hm.below HX20.out.size (fun i hi (e : i = I) => by have := HIW.out; omega)))
        clear hm hne HV20 HI20 HX20 HJ20 HE20 HL20
        generalize (w20.setRow I (slA T.g T.x T.y T.z)) = w21 at *
        subst hYT
        have HD := Lib.hid (show Below w21.heap.size w21 w21.drew from (Below.refl _ _).drew)
        have hV := fun {w' : World} (k : Below w21.heap.size w21 w') => (blk_to HV21 k).out
        have hI := fun {w' : World} (k : Below w21.heap.size w21 w') => (blk_to HI21 k).out
        have hqq := eqR_self Y.g Y.x Y.y Y.z
        refine start_ (n := 10) (S := fun w' => w'.heap[V]? = some (Obj.cells (slA Y.g Y.x Y.y Y.z) 35 (0, 0)) ∧ w'.heap[I]? = some (Obj.cells (slA Y.g Y.x Y.y Y.z) 24 (0, 0))) (ds := []) #[false, false, false, false, false, false, false, false, false, false] (by kernel_rfl) rfl rfl ⟨hV HD.out, hI HD.out⟩ (fun hHeld => ?_)
        refine pure_ (i := 0) (N := some 93) (v := ?_) (a' := ?_) #[true, false, false, false, false, false, false, false, false, false] rfl rfl (by kernel_rfl) (fun _ _ _ h => h) (Or.inl ⟨by rfl, ?_⟩) ?_ ?_
        rotate_left
        · intro w'
          go_simp
          with_reducible rfl
        rotate_left
        · simp only [Act.put, List.setIfInBounds_toArray, List.set_cons_zero, List.set_cons_succ, i64_w, i32_w]
          rfl
        refine one_ (i := 1) (N := some 94) #[true, true, false, false, false, false, false, false, false, false] rfl rfl (by kernel_rfl) (by decide) (fun K hK => ?_)
        refine goes_ Tryd.func12 (by kernel_rfl) rfl #[.nilIface] (by rfl) rfl rfl (by simp only [List.map_toArray, List.map_cons, List.map_nil]; rfl) ?_
        with_reducible refine (code_nil _).mono ?_
        rintro e v30 ⟨rfl, hd⟩
        refine ⟨_, rfl, ?_⟩
        have Hv30 := Lib.hid (HD.out.trans (hd.mono HD.out.size))
        clear hd
        refine hK.out _ _ ⟨hV Hv30.out, hI Hv30.out⟩ (fun hHeld => ?_)
        clear hK K
        refine norm_ (a' := ?_) ?_ ?_
        rotate_left
        · show Act.put _ (some 94) _ = _
          simp only [Act.put, List.setIfInBounds_toArray, List.set_cons_zero, List.set_cons_succ, i64_w, i32_w]
          rfl
        refine pure_ (i := 2) (N := some 95) (v := ?_) (a' := ?_) #[true, true, true, false, false, false, false, false, false, false] rfl rfl (by kernel_rfl) (fun _ _ _ h => h) (Or.inl ⟨by rfl, ?_⟩) ?_ ?_
        rotate_left
        · intro w'
          go_simp
          with_reducible rfl
        rotate_left
        · simp only [Act.put, List.setIfInBounds_toArray, List.set_cons_zero, List.set_cons_succ, i64_w, i32_w]
          rfl
        refine pure_ (i := 3) (N := some 96) (v := ?_) (a' := ?_) #[true, true, true, true, false, false, false, false, false, false] rfl rfl (by kernel_rfl) (fun _ _ _ h => h) (Or.inl ⟨by rfl, ?_⟩) ?_ ?_
        rotate_left
        · intro w'
          go_simp
          with_reducible rfl
        rotate_left
        · simp only [Act.put, List.setIfInBounds_toArray, List.set_cons_zero, List.set_cons_succ, i64_w, i32_w]
          rfl
        refine take_ (i := 4) (N := some 97) (v := ?_) (a' := ?_) #[true, true, true, true, true, false, false, false, false, false] rfl rfl (by kernel_rfl) (fun _ _ _ h => h) (Or.inl ⟨by rfl, ?_⟩) hHeld ?_ ?_
        rotate_left
        · rintro w' ⟨s0, s1⟩
          refine exec_loadS (x := .tmp 7) ?_ ?_  s0
          · rfl
          · rfl
        rotate_left
        · simp only [Act.put, List.setIfInBounds_toArray, List.set_cons_zero, List.set_cons_succ, i64_w, i32_w]
          rfl
        refine take_ (i := 6) (N := some 99) (v := ?_) (a' := ?_) #[true, true, true, true, true, false, true, false, false, false] rfl rfl (by kernel_rfl) (fun _ _ _ h => h) (Or.inl ⟨by rfl, ?_⟩) hHeld ?_ ?_
        rotate_left
        · rintro w' ⟨s0, s1⟩
          refine exec_loadQ (x := .tmp 9) ?_ ?_  s1
          · rfl
          · rfl
        rotate_left
        · simp only [Act.put, List.setIfInBounds_toArray, List.set_cons_zero, List.set_cons_succ, i64_w, i32_w]
          rfl
        refine one_ (i := 5) (N := some 98) #[true, true, true, true, true, true, true, false, false, false] rfl rfl (by kernel_rfl) (by decide) (fun K hK => ?_)
        refine goes_ Tryd.func14 (by kernel_rfl) rfl #[.agg (slA Y.g Y.x Y.y Y.z)] (by rfl) rfl rfl (by simp only [List.map_toArray, List.map_cons, List.map_nil]; rfl) ?_
        with_reducible refine (plain_c Y.g Y.x Y.y Y.z _).mono ?_
        rintro e v31 ⟨rfl, hd⟩
        refine ⟨_, rfl, ?_⟩
        have Hv31 := Lib.hid (Hv30.out.trans (hd.mono Hv30.out.size))
        clear hd
        refine hK.out _ _ ⟨hV Hv31.out, hI Hv31.out⟩ (fun hHeld => ?_)
        clear hK K
        refine norm_ (a' := ?_) ?_ ?_
        rotate_left
        · show Act.put _ (some 98) _ = _
          simp only [Act.put, List.setIfInBounds_toArray, List.set_cons_zero, List.set_cons_succ, i64_w, i32_w]
          rfl
        refine pure_ (i := 7) (N := some 100) (v := ?_) (a' := ?_) #[true, true, true, true, true, true, true, true, false, false] rfl rfl (by kernel_rfl) (fun _ _ _ h => h) (Or.inl ⟨by rfl, ?_⟩) ?_ ?_
        rotate_left
        · intro w'
          refine exec_eqR (x := .tmp 98) (y := .tmp 99) ?_ ?_ ?_  hqq
          · rfl
          · rfl
          · rfl
        rotate_left
        · simp only [Act.put, List.setIfInBounds_toArray, List.set_cons_zero, List.set_cons_succ, i64_w, i32_w]
          rfl
        refine pure_ (i := 8) (N := some 101) (v := ?_) (a' := ?_) #[true, true, true, true, true, true, true, true, true, false] rfl rfl (by kernel_rfl) (fun _ _ _ h => h) (Or.inl ⟨by rfl, ?_⟩) ?_ ?_
        rotate_left
        · intro w'
          go_simp
          with_reducible rfl
        rotate_left
        · simp only [Act.put, List.setIfInBounds_toArray, List.set_cons_zero, List.set_cons_succ, i64_w, i32_w]
          rfl
        refine pure_ (i := 9) (N := some 4) (v := ?_) (a' := ?_) #[true, true, true, true, true, true, true, true, true, true] rfl rfl (by kernel_rfl) (fun _ _ _ h => h) (Or.inl ⟨by rfl, ?_⟩) ?_ ?_
        rotate_left
        · intro w'
          go_simp
          with_reducible rfl
        rotate_left
        · simp only [Act.put, List.setIfInBounds_toArray, List.set_cons_zero, List.set_cons_succ, i64_w, i32_w]
          rfl
        refine done_ (by kernel_rfl) ?_
        go_wp2_with fail
        go_ret
        exact ⟨rfl, HX21.out.trans (Hv31.out.mono HX21.out.size)⟩
      · rw [pick_le hgt] at hY2
        have hYT : Y = S := hY2.symm
        have hpos := hp
        obtain rfl : E = .nilIface := HEN.out (by rw [hYT]; exact hpos)
        have g1 : decide (S.g < T.g) = false := decide_eq_false hgt
        have c0 : w20.cell? ⟨I, 0, none⟩ = some (.int .u32 S.g) := Err.cell_of_blk HI20.out 0
        have c1 : w20.cell? ⟨J, 0, none⟩ = some (.int .u32 T.g) := Err.cell_of_blk HJ20.out 0
        clear hcc hY2 hgt hp hq hpos
        go_wp2_with fail
        clear c0 c1
        subst hYT
        have HD := Lib.hid (show Below w20.heap.size w20 w20.drew from (Below.refl _ _).drew)
        have hV := fun {w' : World} (k : Below w20.heap.size w20 w') => (blk_to HV20 k).out
        have hI := fun {w' : World} (k : Below w20.heap.size w20 w') => (blk_to HI20 k).out
        have hqq := eqR_self Y.g Y.x Y.y Y.z
        refine start_ (n := 10) (S := fun w' => w'.heap[V]? = some (Obj.cells (slA Y.g Y.x Y.y Y.z) 35 (0, 0)) ∧ w'.heap[I]? = some (Obj.cells (slA Y.g Y.x Y.y Y.z) 24 (0, 0))) (ds := []) #[false, false, false, false, false, false, false, false, false, false] (by kernel_rfl) rfl rfl ⟨hV HD.out, hI HD.out⟩ (fun hHeld => ?_)
        refine pure_ (i := 0) (N := some 93) (v := ?_) (a' := ?_) #[true, false, false, false, false, false, false, false, false, false] rfl rfl (by kernel_rfl) (fun _ _ _ h => h) (Or.inl ⟨by rfl, ?_⟩) ?_ ?_
        rotate_left
        · intro w'
          go_simp
          with_reducible rfl
        rotate_left
        · simp only [Act.put, List.setIfInBounds_toArray, List.set_cons_zero, List.set_cons_succ, i64_w, i32_w]
          rfl
        refine one_ (i := 1) (N := some 94) #[true, true, false, false, false, false, false, false, false, false] rfl rfl (by kernel_rfl) (by decide) (fun K hK => ?_)
        refine goes_ Tryd.func12 (by kernel_rfl) rfl #[.nilIface] (by rfl) rfl rfl (by simp only [List.map_toArray, List.map_cons, List.map_nil]; rfl) ?_
        with_reducible refine (code_nil _).mono ?_
        rintro e v30 ⟨rfl, hd⟩
        refine ⟨_, rfl, ?_⟩
        have Hv30 := Lib.hid (HD.out.trans (hd.mono HD.out.size))
        clear hd
        refine hK.out _ _ ⟨hV Hv30.out, hI Hv30.out⟩ (fun hHeld => ?_)
        clear hK K
        refine norm_ (a' := ?_) ?_ ?_
        rotate_left
        · show Act.put _ (some 94) _ = _
          simp only [Act.put, List.setIfInBounds_toArray, List.set_cons_zero, List.set_cons_succ, i64_w, i32_w]
          rfl
        refine pure_ (i := 2) (N := some 95) (v := ?_) (a' := ?_) #[true, true, true, false, false, false, false, false, false, false] rfl rfl (by kernel_rfl) (fun _ _ _ h => h) (Or.inl ⟨by rfl, ?_⟩) ?_ ?_
        rotate_left
        · intro w'
          go_simp
          with_reducible rfl
        rotate_left
        · simp only [Act.put, List.setIfInBounds_toArray, List.set_cons_zero, List.set_cons_succ, i64_w, i32_w]
          rfl
        refine pure_ (i := 3) (N := some 96) (v := ?_) (a' := ?_) #[true, true, true, true, false, false, false, false, false, false] rfl rfl (by kernel_rfl) (fun _ _ _ h => h) (Or.inl ⟨by rfl, ?_⟩) ?_ ?_
        rotate_left
        · intro w'
          go_simp
          with_reducible rfl
        rotate_left
        · simp only [Act.put, List.setIfInBounds_toArray, List.set_cons_zero, List.set_cons_succ, i64_w, i32_w]
          rfl
        refine take_ (i := 4) (N := some 97) (v := ?_) (a' := ?_) #[true, true, true, true, true, false, false, false, false, false] rfl rfl (by kernel_rfl) (fun _ _ _ h => h) (Or.inl ⟨by rfl, ?_⟩) hHeld ?_ ?_
        rotate_left
        · rintro w' ⟨s0, s1⟩
          refine exec_loadS (x := .tmp 7) ?_ ?_  s0
          · rfl
          · rfl
        rotate_left
        · simp only [Act.put, List.setIfInBounds_toArray, List.set_cons_zero, List.set_cons_succ, i64_w, i32_w]
          rfl
        refine take_ (i := 6) (N := some 99) (v := ?_) (a' := ?_) #[true, true, true, true, true, false, true, false, false, false] rfl rfl (by kernel_rfl) (fun _ _ _ h => h) (Or.inl ⟨by rfl, ?_⟩) hHeld ?_ ?_
        rotate_left
        · rintro w' ⟨s0, s1⟩
          refine exec_loadQ (x := .tmp 9) ?_ ?_  s1
          · rfl
          · rfl
        rotate_left
        · simp only [Act.put, List.setIfInBounds_toArray, List.set_cons_zero, List.set_cons_succ, i64_w, i32_w]
          rfl
        refine one_ (i := 5) (N := some 98) #[true, true, true, true, true, true, true, false, false, false] rfl rfl (by kernel_rfl) (by decide) (fun K hK => ?_)
        refine goes_ Tryd.func14 (by kernel_rfl) rfl #[.agg (slA Y.g Y.x Y.y Y.z)] (by rfl) rfl rfl (by simp only [List.map_toArray, List.map_cons, List.map_nil]; rfl) ?_
        with_reducible refine (plain_c Y.g Y.x Y.y Y.z _).mono ?_
        rintro e v31 ⟨rfl, hd⟩
        refine ⟨_, rfl, ?_⟩
        have Hv31 := Lib.hid (Hv30.out.trans (hd.mono Hv30.out.size))
        clear hd
        refine hK.out _ _ ⟨hV Hv31.out, hI Hv31.out⟩ (fun hHeld => ?_)
        clear hK K
        refine norm_ (a' := ?_) ?_ ?_
        rotate_left
        · show Act.put _ (some 98) _ = _
          simp only [Act.put, List.setIfInBounds_toArray, List.set_cons_zero, List.set_cons_succ, i64_w, i32_w]
          rfl
        refine pure_ (i := 7) (N := some 100) (v := ?_) (a' := ?_) #[true, true, true, true, true, true, true, true, false, false] rfl rfl (by kernel_rfl) (fun _ _ _ h => h) (Or.inl ⟨by rfl, ?_⟩) ?_ ?_
        rotate_left
        · intro w'
          refine exec_eqR (x := .tmp 98) (y := .tmp 99) ?_ ?_ ?_  hqq
          · rfl
          · rfl
          · rfl
        rotate_left
        · simp only [Act.put, List.setIfInBounds_toArray, List.set_cons_zero, List.set_cons_succ, i64_w, i32_w]
          rfl
        refine pure_ (i := 8) (N := some 101) (v := ?_) (a' := ?_) #[true, true, true, true, true, true, true, true, true, false] rfl rfl (by kernel_rfl) (fun _ _ _ h => h) (Or.inl ⟨by rfl, ?_⟩) ?_ ?_
        rotate_left
        · intro w'
          go_simp
          with_reducible rfl
        rotate_left
        · simp only [Act.put, List.setIfInBounds_toArray, List.set_cons_zero, List.set_cons_succ, i64_w, i32_w]
          rfl
        refine pure_ (i := 9) (N := some 4) (v := ?_) (a' := ?_) #[true, true, true, true, true, true, true, true, true, true] rfl rfl (by kernel_rfl) (fun _ _ _ h => h) (Or.inl ⟨by rfl, ?_⟩) ?_ ?_
        rotate_left
        · intro w'
          go_simp
          with_reducible rfl
        rotate_left
        · simp only [Act.put, List.setIfInBounds_toArray, List.set_cons_zero, List.set_cons_succ, i64_w, i32_w]
          rfl
        refine done_ (by kernel_rfl) ?_
        go_wp2_with fail
        go_ret
        exact ⟨rfl, HX20.out.trans (Hv31.out.mono HX20.out.size)⟩
    · obtain ⟨hgn, hTz⟩ := hbq.2 hq
      rw [pick_le (by omega)] at hY2
      have hYT : Y = S := hY2.symm
      have hpos := hp
      obtain rfl : E = .nilIface := HEN.out (by rw [hYT]; exact hpos)
      have g1 : (g == 0) = false := beq_eq_false_iff_ne.2 hgn
      have g1b : (g != 0) = true := by rw [bne, g1]; rfl
      have g2 : decide (g = 0) = false := decide_eq_false hgn
      clear hcc hY2 hp hq hpos hgn hbq hTz
      go_wp2_with fail
      subst hYT
      have HD := Lib.hid (show Below w20.heap.size w20 w20.drew from (Below.refl _ _).drew)
      have hV := fun {w' : World} (k : Below w20.heap.size w20 w') => (blk_to HV20 k).out
      have hI := fun {w' : World} (k : Below w20.heap.size w20 w') => (blk_to HI20 k).out
      have hqq := eqR_self Y.g Y.x Y.y Y.z
      refine start_ (n := 10) (S := fun w' => w'.heap[V]? = some (Obj.cells (slA Y.g Y.x Y.y Y.z) 35 (0, 0)) ∧ w'.heap[I]? = some (Obj.cells (slA Y.g Y.x Y.y Y.z) 24 (0, 0))) (ds := []) #[false, false, false, false, false, false, false, false, false, false] (by kernel_rfl) rfl rfl ⟨hV HD.out, hI HD.out⟩ (fun hHeld => ?_)
      refine pure_ (i := 0) (N := some 93) (v := ?_) (a' := ?_) #[true, false, false, false, false, false, false, false, false, false] rfl rfl (by kernel_rfl) (fun _ _ _ h => h) (Or.inl ⟨by rfl, ?_⟩) ?_ ?_
      rotate_left
      · intro w'
        go_simp
        with_reducible rfl
      rotate_left
      · simp only [Act.put, List.setIfInBounds_toArray, List.set_cons_zero, List.set_cons_succ, i64_w, i32_w]
        rfl
      refine one_ (i := 1) (N := some 94) #[true, true, false, false, false, false, false, false, false, false] rfl rfl (by kernel_rfl) (by decide) (fun K hK => ?_)
      refine goes_ Tryd.func12 (by kernel_rfl) rfl #[.nilIface] (by rfl) rfl rfl (by simp only [List.map_toArray, List.map_cons, List.map_nil]; rfl) ?_
      with_reducible refine (code_nil _).mono ?_
      rintro e v30 ⟨rfl, hd⟩
      refine ⟨_, rfl, ?_⟩
      have Hv30 := Lib.hid (HD.out.trans (hd.mono HD.out.size))
      clear hd
      refine hK.out _ _ ⟨hV Hv30.out, hI Hv30.out⟩ (fun hHeld => ?_)
      clear hK K
      refine norm_ (a' := ?_) ?_ ?_
      rotate_left
      · show Act.put _ (some 94) _ = _
        simp only [Act.put, List.setIfInBounds_toArray, List.set_cons_zero, List.set_cons_succ, i64_w, i32_w]
        rfl
      refine pure_ (i := 2) (N := some 95) (v := ?_) (a' := ?_) #[true, true, true, false, false, false, false, false, false, false] rfl rfl (by kernel_rfl) (fun _ _ _ h => h) (Or.inl ⟨by rfl, ?_⟩) ?_ ?_
      rotate_left
      · intro w'
        go_simp
        with_reducible rfl
      rotate_left
      · simp only [Act.put, List.setIfInBounds_toArray, List.set_cons_zero, List.set_cons_succ, i64_w, i32_w]
        rfl
      refine pure_ (i := 3) (N := some 96) (v := ?_) (a' := ?_) #[true, true, true, true, false, false, false, false, false, false] rfl rfl (by kernel_rfl) (fun _ _ _ h => h) (Or.inl ⟨by rfl, ?_⟩) ?_ ?_
      rotate_left
      · intro w'
        go_simp
        with_reducible rfl
      rotate_left
      · simp only [Act.put, List.setIfInBounds_toArray, List.set_cons_zero, List.set_cons_succ, i64_w, i32_w]
        rfl
      refine take_ (i := 4) (N := some 97) (v := ?_) (a' := ?_) #[true, true, true, true, true, false, false, false, false, false] rfl rfl (by kernel_rfl) (fun _ _ _ h => h) (Or.inl ⟨by rfl, ?_⟩) hHeld ?_ ?_
      rotate_left
      · rintro w' ⟨s0, s1⟩
        refine exec_loadS (x := .tmp 7) ?_ ?_  s0
        · rfl
        · rfl
      rotate_left
      · simp only [Act.put, List.setIfInBounds_toArray, List.set_cons_zero, List.set_cons_succ, i64_w, i32_w]
        rfl
      refine take_ (i := 6) (N := some 99) (v := ?_) (a' := ?_) #[true, true, true, true, true, false, true, false, false, false] rfl rfl (by kernel_rfl) (fun _ _ _ h => h) (Or.inl ⟨by rfl, ?_⟩) hHeld ?_ ?_
      rotate_left
      · rintro w' ⟨s0, s1⟩
        refine exec_loadQ (x := .tmp 9) ?_ ?_  s1
        · rfl
        · rfl
      rotate_left
      · simp only [Act.put, List.setIfInBounds_toArray, List.set_cons_zero, List.set_cons_succ, i64_w, i32_w]
        rfl
      refine one_ (i := 5) (N := some 98) #[true, true, true, true, true, true, true, false, false, false] rfl rfl (by kernel_rfl) (by decide) (fun K hK => ?_)
      refine goes_ Tryd.func14 (by kernel_rfl) rfl #[.agg (slA Y.g Y.x Y.y Y.z)] (by rfl) rfl rfl (by simp only [List.map_toArray, List.map_cons, List.map_nil]; rfl) ?_
      with_reducible refine (plain_c Y.g Y.x Y.y Y.z _).mono ?_
      rintro e v31 ⟨rfl, hd⟩
      refine ⟨_, rfl, ?_⟩
      have Hv31 := Lib.hid (Hv30.out.trans (hd.mono Hv30.out.size))
      clear hd
      refine hK.out _ _ ⟨hV Hv31.out, hI Hv31.out⟩ (fun hHeld => ?_)
      clear hK K
      refine norm_ (a' := ?_) ?_ ?_
      rotate_left
      · show Act.put _ (some 98) _ = _
        simp only [Act.put, List.setIfInBounds_toArray, List.set_cons_zero, List.set_cons_succ, i64_w, i32_w]
        rfl
      refine pure_ (i := 7) (N := some 100) (v := ?_) (a' := ?_) #[true, true, true, true, true, true, true, true, false, false] rfl rfl (by kernel_rfl) (fun _ _ _ h => h) (Or.inl ⟨by rfl, ?_⟩) ?_ ?_
      rotate_left
      · intro w'
        refine exec_eqR (x := .tmp 98) (y := .tmp 99) ?_ ?_ ?_  hqq
        · rfl
        · rfl
        · rfl
      rotate_left
      · simp only [Act.put, List.setIfInBounds_toArray, List.set_cons_zero, List.set_cons_succ, i64_w, i32_w]
        rfl
      refine pure_ (i := 8) (N := some 101) (v := ?_) (a' := ?_) #[true, true, true, true, true, true, true, true, true, false] rfl rfl (by kernel_rfl) (fun _ _ _ h => h) (Or.inl ⟨by rfl, ?_⟩) ?_ ?_
      rotate_left
      · intro w'
        go_simp
        with_reducible rfl
      rotate_left
      · simp only [Act.put, List.setIfInBounds_toArray, List.set_cons_zero, List.set_cons_succ, i64_w, i32_w]
        rfl
      refine pure_ (i := 9) (N := some 4) (v := ?_) (a' := ?_) #[true, true, true, true, true, true, true, true, true, true] rfl rfl (by kernel_rfl) (fun _ _ _ h => h) (Or.inl ⟨by rfl, ?_⟩) ?_ ?_
      rotate_left
      · intro w'
        go_simp
        with_reducible rfl
      rotate_left
      · simp only [Act.put, List.setIfInBounds_toArray, List.set_cons_zero, List.set_cons_succ, i64_w, i32_w]
        rfl
      refine done_ (by kernel_rfl) ?_
      go_wp2_with fail
      go_ret
      exact ⟨rfl, HX20.out.trans (Hv31.out.mono HX20.out.size)⟩
  · obtain ⟨hfn, hSz⟩ := hbp.2 hp
    have f1 : (f == 0) = false := beq_eq_false_iff_ne.2 hfn
    have f1b : (f != 0) = true := by rw [bne, f1]; rfl
    have f2 : decide (f = 0) = false := decide_eq_false hfn
    rw [hSz, pick_zz] at hY2
    clear hbp hfn
    by_cases hq : 0 < T.g
    · obtain rfl := hbq.1 hq
      rw [pick_z hq] at hY2
      have hYT : Y = T := hY2.symm
      have hpos := hq
      obtain rfl : E = .nilIface := HEN.out (by rw [hYT]; exact hpos)
      clear hcc hY2 hp hq hpos hbq hSz
      go_wp2_with (first
        | (refine wl_loadQ J T.g T.x T.y T.z HJ20.out rfl _ rfl rfl ?_)
        | (refine wl_storeQ I S.g S.x S.y S.z T.g T.x T.y T.z HI20.out rfl _ _ rfl rfl rfl ?_))
      have hne : ¬ V = I := fun e => by
        have h1 := HV20.out
        rw [e, HI20.out] at h1
        simp at h1
      have hm := mod_row w20 I (slA T.g T.x T.y T.z)
      have HV21 := Lib.hid (hm.blk HV20.out hne)
      have HI21 := Lib.hid (setRow_heap w20 I _ (slA T.g T.x T.y T.z) _ _ HI20.out)
      have HX21 := Lib.hid (HX20.out.trans (hm.below HX20.out.size (fun i hi (e : i = I) => by have := HIW.out; omega)))
      clear hm hne HV20 HI20 HX20 HJ20 HE20 HL20
      generalize (w20.setRow I (slA T.g T.x T.y T.z)) = w21 at *
      subst hYT
      have HD := Lib.hid (show Below w21.heap.size w21 w21.drew from (Below.refl _ _).drew)
      have hV := fun {w' : World} (k : Below w21.heap.size w21 w') => (blk_to HV21 k).out
      have hI := fun {w' : World} (k : Below w21.heap.size w21 w') => (blk_to HI21 k).out
      have hqq := eqR_self Y.g Y.x Y.y Y.z
      refine start_ (n := 10) (S := fun w' => w'.heap[V]? = some (Obj.cells (slA Y.g Y.x Y.y Y.z) 35 (0, 0)) ∧ w'.heap[I]? = some (Obj.cells (slA Y.g Y.x Y.y Y.z) 24 (0, 0))) (ds := []) #[false, false, false, false, false, false, false, false, false, false] (by kernel_rfl) rfl rfl ⟨hV HD.out, hI HD.out⟩ (fun hHeld => ?_)
      refine pure_ (i := 0) (N := some 93) (v := ?_) (a' := ?_) #[true, false, false, false, false, false, false, false, false, false] rfl rfl (by kernel_rfl) (fun _ _ _ h => h) (Or.inl ⟨by rfl, ?_⟩) ?_ ?_
      rotate_left
      · intro w'
        go_simp
        with_reducible rfl
      rotate_left
      · simp only [Act.put, List.setIfInBounds_toArray, List.set_cons_zero, List.set_cons_succ, i64_w, i32_w]
        rfl
      refine one_ (i := 1) (N := some 94) #[true, true, false, false, false, false, false, false, false, false] rfl rfl (by kernel_rfl) (by decide) (fun K hK => ?_)
      refine goes_ Tryd.func12 (by kernel_rfl) rfl #[.nilIface] (by rfl) rfl rfl (by simp only [List.map_toArray, List.map_cons, List.map_nil]; rfl) ?_
      with_reducible refine (code_nil _).mono ?_
      rintro e v30 ⟨rfl, hd⟩
      refine ⟨_, rfl, ?_⟩
      have Hv30 := Lib.hid (HD.out.trans (hd.mono HD.out.size))
      clear hd
      refine hK.out _ _ ⟨hV Hv30.out, hI Hv30.out⟩ (fun hHeld => ?_)
      clear hK K
      refine norm_ (a' := ?_) ?_ ?_
      rotate_left
      · show Act.put _ (some 94) _ = _
        simp only [Act.put, List.setIfInBounds_toArray, List.set_cons_zero, List.set_cons_succ, i64_w, i32_w]
        rfl
      refine pure_ (i := 2) (N := some 95) (v := ?_) (a' := ?_) #[true, true, true, false, false, false, false, false, false, false] rfl rfl (by kernel_rfl) (fun _ _ _ h => h) (Or.inl ⟨by rfl, ?_⟩) ?_ ?_
      rotate_left
      · intro w'
        go_simp
        with_reducible rfl
      rotate_left
      · simp only [Act.put, List.setIfInBounds_toArray, List.set_cons_zero, List.set_cons_succ, i64_w, i32_w]
        rfl
      refine pure_ (i := 3) (N := some 96) (v := ?_) (a' := ?_) #[true, true, true, true, false, false, false, false, false, false] rfl rfl (by kernel_rfl) (fun _ _ _ h => h) (Or.inl ⟨by rfl, ?_⟩) ?_ ?_
      rotate_left
      · intro w'
        go_simp
        with_reducible rfl
      rotate_left
      · simp only [Act.put, List.setIfInBounds_toArray, List.set_cons_zero, List.set_cons_succ, i64_w, i32_w]
        rfl
      refine take_ (i := 4) (N := some 97) (v := ?_) (a' := ?_) #[true, true, true, true, true, false, false, false, false, false] rfl rfl (by kernel_rfl) (fun _ _ _ h => h) (Or.inl ⟨by rfl, ?_⟩) hHeld ?_ ?_
      rotate_left
      · rintro w' ⟨s0, s1⟩
        refine exec_loadS (x := .tmp 7) ?_ ?_  s0
        · rfl
        · rfl
      rotate_left
      · simp only [Act.put, List.setIfInBounds_toArray, List.set_cons_zero, List.set_cons_succ, i64_w, i32_w]
        rfl
      refine take_ (i := 6) (N := some 99) (v := ?_) (a' := ?_) #[true, true, true, true, true, false, true, false, false, false] rfl rfl (by kernel_rfl) (fun _ _ _ h => h) (Or.inl ⟨by rfl, ?_⟩) hHeld ?_ ?_
      rotate_left
      · rintro w' ⟨s0, s1⟩
        refine exec_loadQ (x := .tmp 9) ?_ ?_  s1
        · rfl
        · rfl
      rotate_left
      · simp only [Act.put, List.setIfInBounds_toArray, List.set_cons_zero, List.set_cons_succ, i64_w, i32_w]
        rfl
      refine one_ (i := 5) (N := some 98) #[true, true, true, true, true, true, true, false, false, false] rfl rfl (by kernel_rfl) (by decide) (fun K hK => ?_)
      refine goes_ Tryd.func14 (by kernel_rfl) rfl #[.agg (slA Y.g Y.x Y.y Y.z)] (by rfl) rfl rfl (by simp only [List.map_toArray, List.map_cons, List.map_nil]; rfl) ?_
      with_reducible refine (plain_c Y.g Y.x Y.y Y.z _).mono ?_
      rintro e v31 ⟨rfl, hd⟩
      refine ⟨_, rfl, ?_⟩
      have Hv31 := Lib.hid (Hv30.out.trans (hd.mono Hv30.out.size))
      clear hd
      refine hK.out _ _ ⟨hV Hv31.out, hI Hv31.out⟩ (fun hHeld => ?_)
      clear hK K
      refine norm_ (a' := ?_) ?_ ?_
      rotate_left
      · show Act.put _ (some 98) _ = _
        simp only [Act.put, List.setIfInBounds_toArray, List.set_cons_zero, List.set_cons_succ, i64_w, i32_w]
        rfl
      refine pure_ (i := 7) (N := some 100) (v := ?_) (a' := ?_) #[true, true, true, true, true, true, true, true, false, false] rfl rfl (by kernel_rfl) (fun _ _ _ h => h) (Or.inl ⟨by rfl, ?_⟩) ?_ ?_
      rotate_left
      · intro w'
        refine exec_eqR (x := .tmp 98) (y := .tmp 99) ?_ ?_ ?_  hqq
        · rfl
        · rfl
        · rfl
      rotate_left
      · simp only [Act.put, List.setIfInBounds_toArray, List.set_cons_zero, List.set_cons_succ, i64_w, i32_w]
        rfl
      refine pure_ (i := 8) (N := some 101) (v := ?_) (a' := ?_) #[true, true, true, true, true, true, true, true, true, false] rfl rfl (by kernel_rfl) (fun _ _ _ h => h) (Or.inl ⟨by rfl, ?_⟩) ?_ ?_
      rotate_left
      · intro w'
        go_simp
        with_reducible rfl
      rotate_left
      · simp only [Act.put, List.setIfInBounds_toArray, List.set_cons_zero, List.set_cons_succ, i64_w, i32_w]
        rfl
      refine pure_ (i := 9) (N := some 4) (v := ?_) (a' := ?_) #[true, true, true, true, true, true, true, true, true, true] rfl rfl (by kernel_rfl) (fun _ _ _ h => h) (Or.inl ⟨by rfl, ?_⟩) ?_ ?_
      rotate_left
      · intro w'
        go_simp
        with_reducible rfl
      rotate_left
      · simp only [Act.put, List.setIfInBounds_toArray, List.set_cons_zero, List.set_cons_succ, i64_w, i32_w]
        rfl
      refine done_ (by kernel_rfl) ?_
      go_wp2_with fail
      go_ret
      exact ⟨rfl, HX21.out.trans (Hv31.out.mono HX21.out.size)⟩
    · obtain ⟨hgn, hTz⟩ := hbq.2 hq
      rw [hTz, pick_zz] at hY2
      obtain rfl : c = 3 := by rw [← hcc, ← hY2]; exact if_neg (by show ¬ (0 : Int) < 0; omega)
      have g1 : (g == 0) = false := beq_eq_false_iff_ne.2 hgn
      have g1b : (g != 0) = true := by rw [bne, g1]; rfl
      have g2 : decide (g = 0) = false := decide_eq_false hgn
      have HV0 := Lib.hid (show w20.heap[V]? = some (Obj.cells (slA 0 0 0 0) 35 (0, 0)) from by have h := HV20.out; rw [← hY2] at h; exact h)
      clear hcc hY2 hp hq hgn hbq hSz hTz
      go_wp2_with fail
      refine (code_c _ 3 _ HE20 HL20).mono ?_
      rintro e w21 ⟨rfl, hd⟩
      have HV21 := blk_to HV20 hd
      have HI21 := blk_to HI20 hd
      have HJ21 := blk_to HJ20 hd
      have HX21 := Dk.below_to HX20 (Nat.le_refl _) hd
      have HE21 := Lib.hid (HE20.out.on hd)
      have HL21 := Lib.hid (HL20.out.on hd)
      have HV1 := blk_to HV0 hd
      clear hd HV20 HI20 HJ20 HX20 HE20 HL20
      go_wp2_with (first
        | (refine wg_loadS V 0 0 0 0 HV1.out (by rfl) _ rfl rfl ?_)
        | (refine wg_eqS 0 0 0 0 0 0 0 0 true (by rfl) _ _ rfl rfl rfl rfl ?_))
      go_ret
      exact ⟨rfl, HX21.out⟩
end Go.Proofs.YtkgiifcbimpcoaaDoor.RowSlotBest

