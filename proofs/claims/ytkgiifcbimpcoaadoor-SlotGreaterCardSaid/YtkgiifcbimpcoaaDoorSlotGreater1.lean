/- SlotGreater, the walk. -/
import Derived.Test.YtkgiifcbimpcoaaDoorSlotByte
set_option linter.unusedVariables false
set_option linter.unusedSimpArgs false
namespace Go.Proofs.YtkgiifcbimpcoaaDoor.RowSlotGreater
open Go.RowKit Go.Proofs.YtkgiifcbimpcoaaDoorW.PrintWords Go.Proofs.YtkgiifcbimpcoaaDoorW.PrintLast Go.Proofs.YtkgiifcbimpcoaaDoorW.PrintMore Go.Proofs.YtkgiifcbimpcoaaDoor.Md Go.Proofs.YtkgiifcbimpcoaaDoor.Dk Go.Proofs.YtkgiifcbimpcoaaDoor.Blb Go.Proofs.YtkgiifcbimpcoaaDoor.Slt
open Go.Extern.Stop (cell)
open Go.Proofs.YtkgiifcbimpcoaaDoor.Err (Laid IsErr code_nil code_c Chain at_some at_nil)
set_option maxHeartbeats 8000000 in
set_option maxRecDepth 100000 in
theorem no1 (g x y z gb x' y' z' a b : Int) (W : World) (h1 : Hid (rightB g x y z = false)) (hg : Hid (Laid W)) : Calls Tryd.prog 6 #[.agg (slA g x y z), .agg (slA gb x' y' z'), .int .u8 a, .int .u8 b] W fun e w' => e = .returned (.bool true) ∧ Below W.heap.size W w' := by
  obtain ⟨g2, hg2⟩ : ∃ g2, (g + 1) % 4294967296 = g2 := ⟨_, rfl⟩
  go_enter Tryd.func6, Tryd.ntmps6
  go_wp2_with fail
  obtain ⟨HA1, HB1, HX1⟩ := alloc2 W (Obj.cells (slA g x y z) 24 (0, 0)) (Obj.cells (slA gb x' y' z') 24 (0, 0))
  obtain ⟨B, hB⟩ : ∃ B, W.heap.size = B := ⟨_, rfl⟩
  rw [hB] at HA1 HB1
  (try rw [alloc_size])
  simp only [hB]
  have HBW := Lib.hid hB
  generalize ((W.alloc (Obj.cells (slA g x y z) 24 (0, 0))).alloc (Obj.cells (slA gb x' y' z') 24 (0, 0))) = w1 at *
  refine (awake_c _ (Lib.hid (hg.out.on HX1.out))).mono ?_
  rintro e w2 ⟨rfl, hd⟩
  have HA2 := blk_to HA1 hd
  have HB2 := blk_to HB1 hd
  have HX2 := below_to HX1 (Nat.le_refl _) hd
  clear hd HA1 HB1 HX1
  obtain ⟨k0, k1, k2, k3⟩ := rs_keep HA2.out (Below.refl w2.heap.size w2)
  obtain ⟨l0, l1, l2, l3⟩ := rs_keep HB2.out (Below.refl w2.heap.size w2)
  have hfz : w2.frozen? ⟨B + 1, 0, none⟩ = false := by simp [World.frozen?, HB2.out]
  have hmS : Mod (· = B + 1) w2 (w2.setCell ⟨B + 1, 0, none⟩ (.int .u32 g2)) := (Mod.refl (· = B + 1) w2).set ⟨B + 1, 0, none⟩ _ (.inl rfl)
  have HA3 := Lib.hid (hmS.blk HA2.out (by omega))
  have HB3 := Lib.hid (show (w2.setCell ⟨B + 1, 0, none⟩ (.int .u32 g2)).heap[B + 1]? = some (Obj.cells (slA g2 x' y' z') 24 (0, 0)) from set1 HB2.out 0 _)
  have HX3 := Lib.hid (HX2.out.trans (hmS.below HX2.out.size (fun i hi (e : i = B + 1) => by have := HBW.out; omega)))
  obtain ⟨m0, m1, m2, m3⟩ := rs_keep HA3.out (Below.refl _ _)
  clear hmS HA2 HB2 HX2
  go_wp2_with fail
  clear k0 k1 k2 k3 l0 l1 l2 l3 hfz
  generalize (w2.setCell ⟨B + 1, 0, none⟩ (.int .u32 g2)) = w3 at *
  have k0 := m0
  have k1 := m1
  have k2 := m2
  have k3 := m3
  clear m0 m1 m2 m3
  refine (rright_c g x y z false _ h1).mono ?_
  rintro e w4 ⟨rfl, hd⟩
  have HX4 := below_to HX3 (Nat.le_refl _) hd
  clear hd HA3 HB3 HX3 k0 k1 k2 k3
  go_wp2_with fail
  go_ret
  exact ⟨rfl, HX4.out⟩
set_option maxHeartbeats 8000000 in
set_option maxRecDepth 100000 in
theorem no2 (g x y z gb x' y' z' a b : Int) (W : World) (h1 : Hid (rightB g x y z = true)) (h2 : Hid (rightB ((g + 1) % 4294967296) x' y' z' = false)) (hg : Hid (Laid W)) : Calls Tryd.prog 6 #[.agg (slA g x y z), .agg (slA gb x' y' z'), .int .u8 a, .int .u8 b] W fun e w' => e = .returned (.bool true) ∧ Below W.heap.size W w' := by
  obtain ⟨g2, hg2⟩ : ∃ g2, (g + 1) % 4294967296 = g2 := ⟨_, rfl⟩
  rw [hg2] at h2
  go_enter Tryd.func6, Tryd.ntmps6
  go_wp2_with fail
  obtain ⟨HA1, HB1, HX1⟩ := alloc2 W (Obj.cells (slA g x y z) 24 (0, 0)) (Obj.cells (slA gb x' y' z') 24 (0, 0))
  obtain ⟨B, hB⟩ : ∃ B, W.heap.size = B := ⟨_, rfl⟩
  rw [hB] at HA1 HB1
  (try rw [alloc_size])
  simp only [hB]
  have HBW := Lib.hid hB
  generalize ((W.alloc (Obj.cells (slA g x y z) 24 (0, 0))).alloc (Obj.cells (slA gb x' y' z') 24 (0, 0))) = w1 at *
  refine (awake_c _ (Lib.hid (hg.out.on HX1.out))).mono ?_
  rintro e w2 ⟨rfl, hd⟩
  have HA2 := blk_to HA1 hd
  have HB2 := blk_to HB1 hd
  have HX2 := below_to HX1 (Nat.le_refl _) hd
  clear hd HA1 HB1 HX1
  obtain ⟨k0, k1, k2, k3⟩ := rs_keep HA2.out (Below.refl w2.heap.size w2)
  obtain ⟨l0, l1, l2, l3⟩ := rs_keep HB2.out (Below.refl w2.heap.size w2)
  have hfz : w2.frozen? ⟨B + 1, 0, none⟩ = false := by simp [World.frozen?, HB2.out]
  have hmS : Mod (· = B + 1) w2 (w2.setCell ⟨B + 1, 0, none⟩ (.int .u32 g2)) := (Mod.refl (· = B + 1) w2).set ⟨B + 1, 0, none⟩ _ (.inl rfl)
  have HA3 := Lib.hid (hmS.blk HA2.out (by omega))
  have HB3 := Lib.hid (show (w2.setCell ⟨B + 1, 0, none⟩ (.int .u32 g2)).heap[B + 1]? = some (Obj.cells (slA g2 x' y' z') 24 (0, 0)) from set1 HB2.out 0 _)
  have HX3 := Lib.hid (HX2.out.trans (hmS.below HX2.out.size (fun i hi (e : i = B + 1) => by have := HBW.out; omega)))
  obtain ⟨m0, m1, m2, m3⟩ := rs_keep HA3.out (Below.refl _ _)
  clear hmS HA2 HB2 HX2
  go_wp2_with fail
  clear k0 k1 k2 k3 l0 l1 l2 l3 hfz
  generalize (w2.setCell ⟨B + 1, 0, none⟩ (.int .u32 g2)) = w3 at *
  have k0 := m0
  have k1 := m1
  have k2 := m2
  have k3 := m3
  clear m0 m1 m2 m3
  refine (rright_c g x y z true _ h1).mono ?_
  rintro e w4 ⟨rfl, hd⟩
  have HB4 := blk_to HB3 hd
  have HX4 := below_to HX3 (Nat.le_refl _) hd
  clear hd HA3 HB3 HX3 k0 k1 k2 k3
  obtain ⟨k0, k1, k2, k3⟩ := rs_keep HB4.out (Below.refl w4.heap.size w4)
  go_wp2_with fail
  refine (rright_c g2 x' y' z' false _ h2).mono ?_
  rintro e w5 ⟨rfl, hd⟩
  have HX5 := below_to HX4 (Nat.le_refl _) hd
  clear hd HB4 HX4 k0 k1 k2 k3
  go_wp2_with fail
  go_ret
  exact ⟨rfl, HX5.out⟩
/-- the slot that counts, told by where the one and the other stand -/
theorem best_par {d : Dsk} {k : Int} (hk : k = 0 ∨ k = 1) {S T : Sl} (hS : slotOf (rd d k) = S) (hT : slotOf (rd d (1 - k)) = T) : bestOf d 2 = if k = 0 then pick (pick Sl.zero S) T else pick (pick Sl.zero T) S := by
  rcases hk with rfl | rfl
  · rw [if_pos rfl, bestOf_two, hS, ← hT]; rfl
  · rw [if_neg (by decide), bestOf_two, hS, ← hT]; rfl
theorem best_great {d : Dsk} {k : Int} (hk : k = 0 ∨ k = 1) {S T : Sl} (hS : slotOf (rd d k) = S) (hT : slotOf (rd d (1 - k)) = T) (h : T.g < S.g) (h0 : 0 ≤ T.g) : bestOf d 2 = S := by
  have hz : ∀ T : Sl, 0 ≤ T.g → (pick Sl.zero T).g = T.g := by
    intro T h0
    unfold pick
    split
    · rfl
    · rename_i hn; show (0 : Int) = T.g
      have : ¬ (0 : Int) < T.g := hn
      omega
  rw [best_par hk hS hT]
  split
  · rw [pick_z (by omega)]
    unfold pick
    exact if_neg (by omega)
  · unfold pick
    rw [if_pos]
    have := hz T h0
    unfold pick at this
    omega
theorem rd_one (d : Dsk) (A Bs : Sl) (hb : Bs.g = A.g + 1) (ha : 0 ≤ A.g) : rd (switched (switched d A) Bs) (Bs.g % 2) = Bs.lay ∧ rd (switched (switched d A) Bs) (1 - Bs.g % 2) = A.lay := by
  exact ⟨by rw [rd_switched, if_pos rfl], by rw [rd_switched, if_neg (by omega), rd_switched, if_pos (by omega)]⟩
theorem bu_one (d : Dsk) (s : Sl) (h : d.budget = -1) : (switched d s).budget = -1 := by
  show max (d.budget - 1) (-1) = -1
  rw [h]; decide
set_option maxHeartbeats 16000000 in
set_option maxRecDepth 100000 in
theorem yes (g x y z gb g2 x' y' z' a b : Int) (W : World) (hr : Slt.Rt g x y z) (hg2 : (g + 1) % 4294967296 = g2) (hr2 : Slt.Rt g2 x' y' z') (ha : 0 ≤ a ∧ a < 256) (hb : 0 ≤ b ∧ b < 256) (hg : Hid (Laid W)) : Calls Tryd.prog 6 #[.agg (slA g x y z), .agg (slA gb x' y' z'), .int .u8 a, .int .u8 b] W fun e w' => e = .returned (.bool true) ∧ Below W.heap.size W w' := by
  have HRt := Lib.hid hr
  have HR2 := Lib.hid hr2
  have HGG := Lib.hid (show g2 = g + 1 from by have := hr.g0; have := hr.g1; have := hr2.g0; omega)
  obtain ⟨j, hj⟩ : ∃ j : Nat, a.tmod 64 = (j : Int) := ⟨(a % 64).toNat, by rw [Int.tmod_eq_emod_of_nonneg ha.1]; omega⟩
  have hj64 : j < 64 := by rw [Int.tmod_eq_emod_of_nonneg ha.1] at hj; omega
  have HBb := Lib.hid hb
  clear hr hr2 ha hb
  go_enter Tryd.func6, Tryd.ntmps6
  go_wp2_with fail
  obtain ⟨HA1, HB1, HX1⟩ := alloc2 W (Obj.cells (slA g x y z) 24 (0, 0)) (Obj.cells (slA gb x' y' z') 24 (0, 0))
  obtain ⟨B, hB⟩ : ∃ B, W.heap.size = B := ⟨_, rfl⟩
  rw [hB] at HA1 HB1
  (try rw [alloc_size])
  simp only [hB]
  have HBW := Lib.hid hB
  generalize ((W.alloc (Obj.cells (slA g x y z) 24 (0, 0))).alloc (Obj.cells (slA gb x' y' z') 24 (0, 0))) = w1 at *
  refine (awake_c _ (Lib.hid (hg.out.on HX1.out))).mono ?_
  rintro e w2 ⟨rfl, hd⟩
  have HA2 := blk_to HA1 hd
  have HB2 := blk_to HB1 hd
  have HX2 := below_to HX1 (Nat.le_refl _) hd
  clear hd HA1 HB1 HX1
  obtain ⟨k0, k1, k2, k3⟩ := rs_keep HA2.out (Below.refl w2.heap.size w2)
  obtain ⟨l0, l1, l2, l3⟩ := rs_keep HB2.out (Below.refl w2.heap.size w2)
  have hfz : w2.frozen? ⟨B + 1, 0, none⟩ = false := by simp [World.frozen?, HB2.out]
  have hmS : Mod (· = B + 1) w2 (w2.setCell ⟨B + 1, 0, none⟩ (.int .u32 g2)) := (Mod.refl (· = B + 1) w2).set ⟨B + 1, 0, none⟩ _ (.inl rfl)
  have HA3 := Lib.hid (hmS.blk HA2.out (by omega))
  have HB3 := Lib.hid (show (w2.setCell ⟨B + 1, 0, none⟩ (.int .u32 g2)).heap[B + 1]? = some (Obj.cells (slA g2 x' y' z') 24 (0, 0)) from set1 HB2.out 0 _)
  have HX3 := Lib.hid (HX2.out.trans (hmS.below HX2.out.size (fun i hi (e : i = B + 1) => by have := HBW.out; omega)))
  obtain ⟨m0, m1, m2, m3⟩ := rs_keep HA3.out (Below.refl _ _)
  clear hmS HA2 HB2 HX2
  go_wp2_with fail
  clear k0 k1 k2 k3 l0 l1 l2 l3 hfz
  generalize (w2.setCell ⟨B + 1, 0, none⟩ (.int .u32 g2)) = w3 at *
  have k0 := m0
  have k1 := m1
  have k2 := m2
  have k3 := m3
  clear m0 m1 m2 m3
  refine (rright_c g x y z true _ (Lib.hid (rightB_true HRt.out))).mono ?_
  rintro e w4 ⟨rfl, hd⟩
  have HA4 := blk_to HA3 hd
  have HB4 := blk_to HB3 hd
  have HX4 := below_to HX3 (Nat.le_refl _) hd
  clear hd HA3 HB3 HX3 k0 k1 k2 k3
  obtain ⟨k0, k1, k2, k3⟩ := rs_keep HB4.out (Below.refl w4.heap.size w4)
  go_wp2_with fail
  refine (rright_c g2 x' y' z' true _ (Lib.hid (rightB_true HR2.out))).mono ?_
  rintro e w5 ⟨rfl, hd⟩
  have HA5 := blk_to HA4 hd
  have HB5 := blk_to HB4 hd
  have HX5 := below_to HX4 (Nat.le_refl _) hd
  clear hd HA4 HB4 HX4 k0 k1 k2 k3
  go_wp2_with fail
  refine (new_c _ 4 (by omega) (by omega)).mono ?_
  rintro e w6 ⟨R, M, hR, hM, rfl, hd, hdd⟩
  have HA6 := blk_to HA5 hd
  have HB6 := blk_to HB5 hd
  have hXs := HX5.out.size
  have HX6 := below_to HX5 (Nat.le_refl _) hd
  have HO6 := Lib.hid (show One W w6 R M (.slice none 0 0) ⟨4, fun _ => pz, [], false, -1⟩ from ⟨HX6.out, hdd, Fr.nil (by omega) (by omega)⟩)
  have hAR : B < w5.heap.size := Err.lt_of_block HA5.out
  have hBR : B + 1 < w5.heap.size := Err.lt_of_block HB5.out
  have hRB : ∀ i, Ft R M (.slice none 0 0) i → w5.heap.size ≤ i := Fr.nil hR hM
  obtain ⟨d, hdz⟩ : ∃ d : Dsk, d = ⟨4, fun _ => pz, [], false, -1⟩ := ⟨_, rfl⟩
  rw [← hdz] at HO6
  have HDz := Lib.hid hdz
  clear hd hdd hdz HA5 HB5 HX5 hR hM HX6
  obtain ⟨k0, k1, k2, k3⟩ := rs_keep HA6.out (Below.refl w6.heap.size w6)
  go_wp2_with fail
  refine (of_c g x y z _).mono ?_
  rintro e w7 ⟨rfl, hd⟩
  have HA7 := blk_to HA6 hd
  have HB7 := blk_to HB6 hd
  have HO7 := Lib.hid (HO6.out.on hd)
  clear hd HA6 HB6 HO6 k0 k1 k2 k3
  go_wp2_with fail
  obtain ⟨A, hAs⟩ : ∃ A : Sl, A = ⟨g, x, y, z⟩ := ⟨_, rfl⟩
  obtain ⟨C, hCs⟩ : ∃ C : Sl, C = ⟨g2, x', y', z'⟩ := ⟨_, rfl⟩
  have HAS := Lib.hid hAs
  have HCS := Lib.hid hCs
  have HAt := Lib.hid (show A.Rt by rw [hAs]; exact HRt.out)
  have HCt := Lib.hid (show C.Rt by rw [hCs]; exact HR2.out)
  have HCA := Lib.hid (show C.g = A.g + 1 by rw [hAs, hCs]; exact HGG.out)
  have HBu := Lib.hid (show d.budget = -1 by rw [HDz.out])
  have HDn := Lib.hid (show d.down = false by rw [HDz.out])
  have HSz := Lib.hid (show d.size = 4 by rw [HDz.out])
  have HSo := Lib.hid (show d.soft = [] by rw [HDz.out])
  have EA := Lib.hid (show slA g x y z = A.a by rw [hAs])
  have EC := Lib.hid (show slA g2 x' y' z' = C.a by rw [hCs])
  clear hAs hCs HDz
  rw [EA.out]
  refine (switch_ok w7 R M _ d A (Lib.hid HO7.out.dsk) HAt.out HDn (by rw [HSz.out]; decide) (by rw [HBu.out]; decide) (by rw [HBu.out]; decide) (by rw [HBu.out]; decide) (by rw [HSo.out]; decide)).mono ?_
  rintro e w8 ⟨rfl, hm, hdd⟩
  have HA8 := Lib.hid (hm.blk HA7.out (fun hf => by have := hRB _ hf; omega))
  have HB8 := Lib.hid (hm.blk HB7.out (fun hf => by have := hRB _ hf; omega))
  have HO8 := Lib.hid (One.sw HO7.out hm hdd)
  clear hm hdd HA7 HB7 HO7
  obtain ⟨k0, k1, k2, k3⟩ := rs_keep HB8.out (Below.refl w8.heap.size w8)
  go_wp2_with fail
  refine (of_c g2 x' y' z' _).mono ?_
  rintro e w9 ⟨rfl, hd⟩
  have HA9 := blk_to HA8 hd
  have HB9 := blk_to HB8 hd
  have HO9 := Lib.hid (HO8.out.on hd)
  clear hd HA8 HB8 HO8 k0 k1 k2 k3
  go_wp2_with fail
  rw [EC.out]
  have HBu1 := Lib.hid (bu_one d A HBu.out)
  refine (switch_ok w9 R M _ (switched d A) C (Lib.hid HO9.out.dsk) HCt.out HDn (by show 2 ≤ d.size; rw [HSz.out]; decide) (by rw [HBu1.out]; decide) (by rw [HBu1.out]; decide) (by rw [HBu1.out]; decide) (by show (0 : Nat) ≤ 1000; omega)).mono ?_
  rintro e w10 ⟨rfl, hm, hdd⟩
  have HA10 := Lib.hid (hm.blk HA9.out (fun hf => by have := hRB _ hf; omega))
  have HB10 := Lib.hid (hm.blk HB9.out (fun hf => by have := hRB _ hf; omega))
  have HO10 := Lib.hid (One.sw HO9.out hm hdd)
  clear hm hdd HA9 HB9 HO9
  have HBu2 := Lib.hid (bu_one (switched d A) C HBu1.out)
  have hrd := rd_one d A C HCA.out (by have := HAt.out.g0; omega)
  obtain ⟨d2, hd2⟩ : ∃ d2, switched (switched d A) C = d2 := ⟨_, rfl⟩
  have HDn2 := Lib.hid (show d2.down = false by rw [← hd2]; exact HDn.out)
  have HSz2 := Lib.hid (show d2.size = 4 by rw [← hd2]; exact HSz.out)
  have hso2 : d2.soft = [] := by rw [← hd2]; rfl
  rw [hd2] at HO10 HBu2 hrd
  obtain ⟨K, hK⟩ : ∃ K, C.g % 2 = K := ⟨_, rfl⟩
  have hg2K : g2 % 2 = K := by rw [← hK, HCS.out]
  have hk01 : K = 0 ∨ K = 1 := by omega
  rw [hK] at hrd
  have HRd := Lib.hid hrd
  have HSo2 := Lib.hid hso2
  have hbest : bestOf d2 2 = C := best_great (S := C) (T := A) hk01 (by rw [hrd.1]; exact slotOf_self HCt.out) (by rw [hrd.2]; exact slotOf_self HAt.out) (by have := HCA.out; omega) (by have := HAt.out.g0; omega)
  have HBe := Lib.hid hbest
  have HM0 := Lib.hid (show mayN d2 0 = 0 from mayN_zero HDn2.out (by omega) (by rw [HSz2.out]; omega))
  have HM1 := Lib.hid (show mayN d2 1 = 0 from mayN_zero HDn2.out (by omega) (by rw [HSz2.out]; omega))
  clear hrd hd2 hK hbest HBu HBu1 HDn HSz HSo hso2
  go_wp2_with fail
  refine (best_c w10 R M _ d2 (Lib.hid HO10.out.dsk) (by rw [HSo2.out]; decide)).mono ?_
  rintro e w11 ⟨hd, h2, _, _⟩
  obtain rfl := h2 HM0.out HM1.out (by rw [HBe.out]; exact HCt.out.g0)
  rw [HBe.out]
  rw [← EC.out]
  have HO11 := Lib.hid (HO10.out.on hd)
  have hRV := HO11.out.dsk.ft_lt
  have hb12 : Below w11.heap.size w11 (w11.alloc (Obj.cells (slA g2 x' y' z') 35 (0, 0))) := (Below.refl _ _).alloc (Nat.le_refl _) _
  have HA12 := blk_to (blk_to HA10 hd) hb12
  have HB12 := blk_to (blk_to HB10 hd) hb12
  have HO12 := Lib.hid ((HO10.out.on hd).on hb12)
  have HV12 := Lib.hid (heap_alloc_last w11 (Obj.cells (slA g2 x' y' z') 35 (0, 0)))
  have k0 := (rs_keep HB12.out (Below.refl _ _)).1
  clear hd hb12 h2 HA10 HB10 HO10
  go_wp2_with (first
    | (refine wl_allocS rfl rfl ?_)
    | (refine wl_storeSn 0 0 0 0 g2 x' y' z' rfl _ _ rfl rfl rfl ?_))
  obtain ⟨V, hV⟩ : ∃ V, w11.heap.size = V := ⟨_, rfl⟩
  rw [hV] at HV12
  simp only [hV]
  rw [hV] at hRV
  generalize (w11.alloc (Obj.cells (slA g2 x' y' z') 35 (0, 0))) = w12 at *
  clear hV k0
  obtain ⟨P, hP⟩ : ∃ P, rd d2 K = P := ⟨_, rfl⟩
  have hPC : C.lay = P := by rw [← hP, HRd.out.1]
  refine (read_ok w12 R M _ d2 K (Lib.hid HO12.out.dsk) (mayN_zero HDn2.out (by omega) (by rw [HSz2.out]; omega)) (by rw [HSo2.out]; decide)).mono ?_
  rintro e w13 ⟨rfl, hd⟩
  rw [hP]
  have HPC := Lib.hid hPC
  have HA13 := blk_to HA12 hd
  have HB13 := blk_to HB12 hd
  have HV13 := blk_to HV12 hd
  have HO13 := Lib.hid (HO12.out.on hd)
  have hRX := HO13.out.dsk.ft_lt
  clear hd hP hPC HA12 HB12 HV12 HO12
  -- the byte
  obtain ⟨b0, hb0⟩ : ∃ b0 : UInt8, P.1[j]'(by rw [P.2]; exact hj64) = b0 := ⟨_, rfl⟩
  obtain ⟨y2, hy2⟩ := xor_byte b0 b HBb.out.1 HBb.out.2
  obtain ⟨yi, hyi⟩ : ∃ yi : Int, yi = ((y2.toNat : Nat) : Int) := ⟨_, rfl⟩
  obtain ⟨bi0, hbi0⟩ : ∃ bi0 : Int, bi0 = ((b0.toNat : Nat) : Int) := ⟨_, rfl⟩
  have hx := hy2.1
  rw [← hyi, ← hbi0] at hx
  have HY2 := Lib.hid hy2.2
  have hcell : (w13.alloc (Obj.cells (pa P) 27 (0, 0))).cell? ⟨w13.heap.size, j, none⟩ = some (.int .u8 bi0) := by
    rw [Err.cell_of_blk (heap_alloc_last w13 _)]
    unfold pa
    rw [List.getElem?_toArray, List.getElem?_map, List.getElem?_eq_getElem (by rw [P.2]; exact hj64), hb0, hbi0]
    rfl
  have hfz2 : (w13.alloc (Obj.cells (pa P) 27 (0, 0))).frozen? ⟨w13.heap.size, j, none⟩ = false := by
    have hl := heap_alloc_last w13 (Obj.cells (pa P) 27 (0, 0))
    generalize w13.alloc (Obj.cells (pa P) 27 (0, 0)) = wz at hl ⊢
    simp [World.frozen?, hl]
  obtain ⟨P2, hP2⟩ : ∃ P2, pset P j y2 = P2 := ⟨_, rfl⟩
  have HP14 := Lib.hid (show (w13.alloc (Obj.cells ((pa P).setIfInBounds j (.int .u8 yi)) 27 (0, 0))).heap[w13.heap.size]? = some (Obj.cells (pa P2) 27 (0, 0)) from by
    rw [← hP2, hyi, ← pa_set]
    exact heap_alloc_last w13 _)
  have HB0 := Lib.hid hb0
  have HP2 := Lib.hid hP2
  have hb14 : Below w13.heap.size w13 (w13.alloc (Obj.cells ((pa P).setIfInBounds j (.int .u8 yi)) 27 (0, 0))) := (Below.refl _ _).alloc (Nat.le_refl _) _
  have HA14 := blk_to HA13 hb14
  have HB14 := blk_to HB13 hb14
  have HV14 := blk_to HV13 hb14
  have HO14 := Lib.hid (HO13.out.on hb14)
  have k0 := (rs_keep HB14.out (Below.refl _ _)).1
  have p1 : (0 ≤ (j : Int)) = True := eq_true (by omega)
  have p2 : ((j : Int) < 64) = True := eq_true (by omega)
  clear hb0 hy2 hyi hbi0 hP2 hb14 HA13 HB13 HV13 HO13
  go_wp2_with (first
    | (refine wl_alloc30 rfl rfl ?_)
    | (refine wl_store30n pz P rfl _ _ rfl rfl rfl ?_)
    | (refine wl_load30 w13.heap.size P2 HP14.out rfl _ rfl rfl ?_))
  obtain ⟨X, hX⟩ : ∃ X, w13.heap.size = X := ⟨_, rfl⟩
  rw [hX] at HP14 hRX
  simp only [hX]
  generalize (w13.alloc (Obj.cells ((pa P).setIfInBounds j (.int .u8 yi)) 27 (0, 0))) = w14 at *
  clear hX hx hcell hfz2 p1 p2 k0
  refine (write_ok w14 R M _ d2 K P2 (Lib.hid HO14.out.dsk) HDn2 (by omega) (by rw [HSz2.out]; omega) (by rw [HBu2.out]; decide) (by rw [HBu2.out]; decide) (by rw [HBu2.out]; decide) (by rw [HSo2.out]; decide)).mono ?_
  rintro e w15 ⟨rfl, v15, hm, hdd, hv⟩
  have HA15 := Lib.hid (hm.blk HA14.out (fun hf => by have := hRB _ hf; omega))
  have HB15 := Lib.hid (hm.blk HB14.out (fun hf => by have := hRB _ hf; omega))
  have HV15 := Lib.hid (hm.blk HV14.out (fun hf => by have := hRV _ hf; omega))
  have HO15 := Lib.hid (HO14.out.mods hm hdd (ft_new hv))
  have hsn : ∀ q, rd { d2 with soft := d2.soft ++ [(K, P2)], budget := max (d2.budget - 1) (-1) } q = if K = q then P2 else rd d2 q := fun q => rd_snoc d2 q K P2 _
  obtain ⟨d3, hd3⟩ : ∃ d3, ({ d2 with soft := d2.soft ++ [(K, P2)], budget := max (d2.budget - 1) (-1) } : Dsk) = d3 := ⟨_, rfl⟩
  have hdn3 : d3.down = false := by rw [← hd3]; exact HDn2.out
  have hsz3 : d3.size = 4 := by rw [← hd3]; exact HSz2.out
  have hso3 : d3.soft.length ≤ 1000 := by rw [← hd3]; show (d2.soft ++ [(K, P2)]).length ≤ 1000; rw [HSo2.out]; simp
  rw [hd3] at HO15 hsn
  have hk3 : rd d3 K = P2 := by rw [hsn, if_pos rfl]
  have ht3 : slotOf (rd d3 (1 - K)) = A := by rw [hsn, if_neg (by omega), HRd.out.2]; exact slotOf_self HAt.out
  obtain ⟨Y, hY, hY0, hY1, hYg⟩ : ∃ Y, bestOf d3 2 = Y ∧ (b = 0 → Y = C) ∧ (b ≠ 0 → Y = A) ∧ 0 < Y.g := by
    by_cases hbz : b = 0
    · have e : y2 = b0 := HY2.out.2 hbz
      have hP2P : P2 = C.lay := by
        rw [← HP2.out, e, ← HB0.out, HPC.out]
        exact byte_same P j hj64
      refine ⟨C, best_great (S := C) (T := A) hk01 (by rw [hk3, hP2P]; exact slotOf_self HCt.out) ht3 (by have := HCA.out; omega) (by have := HAt.out.g0; omega), fun _ => rfl, fun h => absurd hbz h, HCt.out.g0⟩
    · have hne : y2 ≠ C.lay.1[j]'(by rw [C.lay.2]; exact hj64) := by
        have e3 : C.lay.1[j]'(by rw [C.lay.2]; exact hj64) = b0 := by
          rw [← HB0.out]
          have : ∀ (p q : Pg), p = q → ∀ (h1 : j < p.1.length) (h2 : j < q.1.length), p.1[j]'h1 = q.1[j]'h2 := by
            rintro p q rfl h1 h2; rfl
          exact this _ _ HPC.out _ _
        rw [e3]
        intro e
        exact hbz (HY2.out.1 e)
      have hz := (lay_byte HCt.out j hj64 y2 hne).1
      rw [HPC.out, HP2.out] at hz
      have hAg := HAt.out.g0
      refine ⟨A, ?_, fun h => absurd h hbz, fun _ => rfl, hAg⟩
      rw [best_par (S := Sl.zero) (T := A) hk01 (by rw [hk3]; exact hz) ht3]
      split
      · rw [pick_zz, pick_z hAg]
      · rw [pick_z hAg, pick_sz (by omega)]
  have HYb := Lib.hid hY
  have HY0 := Lib.hid hY0
  have HY1 := Lib.hid hY1
  have HYg := Lib.hid hYg
  have HM0 := Lib.hid (show mayN d3 0 = 0 from mayN_zero hdn3 (by omega) (by rw [hsz3]; omega))
  have HM1 := Lib.hid (show mayN d3 1 = 0 from mayN_zero hdn3 (by omega) (by rw [hsz3]; omega))
  clear hm hdd hv hsn hd3 hdn3 hsz3 hk3 ht3 hY hY0 hY1 hYg HA14 HB14 HV14 HO14 HP14 HRd
  go_wp2_with fail
  refine (best_c w15 R M _ d3 (Lib.hid HO15.out.dsk) hso3).mono ?_
  rintro e w16 ⟨hd, h2, _, _⟩
  obtain rfl := h2 HM0.out HM1.out (by rw [HYb.out]; exact HYg.out)
  rw [HYb.out]
  have hb17 : Below w16.heap.size w16 (w16.alloc (Obj.cells Y.a 35 (0, 0))) := (Below.refl _ _).alloc (Nat.le_refl _) _
  have HA17 := blk_to (blk_to HA15 hd) hb17
  have HB17 := blk_to (blk_to HB15 hd) hb17
  have HV17 := blk_to (blk_to HV15 hd) hb17
  have HX17 := Lib.hid ((HO15.out.on hd).on hb17).bel
  have HU17 := Lib.hid (heap_alloc_last w16 (Obj.cells Y.a 35 (0, 0)))
  clear hd hb17 h2 HA15 HB15 HV15 HO15
  go_wp2_with (first
    | (refine wl_allocS rfl rfl ?_)
    | (refine wl_storeSn 0 0 0 0 Y.g Y.x Y.y Y.z rfl _ _ rfl rfl rfl ?_))
  obtain ⟨U, hU⟩ : ∃ U, w16.heap.size = U := ⟨_, rfl⟩
  rw [hU] at HU17
  simp only [hU]
  generalize (w16.alloc (Obj.cells Y.a 35 (0, 0))) = w17 at *
  clear hU
  have HD := Lib.hid (show Below w17.heap.size w17 w17.drew from (Below.refl _ _).drew)
  have hB2 := fun {w' : World} (k : Below w17.heap.size w17 w') => rs_keep HB17.out k
  have hV := fun {w' : World} (k : Below w17.heap.size w17 w') => sl_keep HV17.out k
  have hqn : (!(g2 == g2 && (x' == x' && (y' == y' && (z' == z'))))) = false := by simp
  refine start_ (n := 39) (S := fun w' => w'.cell? ⟨V, 0, none⟩ = some (.int .u32 g2) ∧ w'.cell? ⟨V, 1, none⟩ = some (.int .i64 x') ∧ w'.cell? ⟨V, 2, none⟩ = some (.int .i64 y') ∧ w'.cell? ⟨V, 3, none⟩ = some (.int .u32 z') ∧ w'.cell? ⟨B + 1, 0, none⟩ = some (.int .u32 g2) ∧ w'.cell? ⟨B + 1, 1, none⟩ = some (.int .i64 x') ∧ w'.cell? ⟨B + 1, 2, none⟩ = some (.int .i64 y') ∧ w'.cell? ⟨B + 1, 3, none⟩ = some (.int .u32 z')) (ds := []) #[false, false, false, false, false, false, false, false, false, false, false, false, false, false, false, false, false, false, false, false, false, false, false, false, false, false, false, false, false, false, false, false, false, false, false, false, false, false, false] (by kernel_rfl) rfl rfl ⟨(hV HD.out).1, (hV HD.out).2.1, (hV HD.out).2.2.1, (hV HD.out).2.2.2, (hB2 HD.out).1, (hB2 HD.out).2.1, (hB2 HD.out).2.2.1, (hB2 HD.out).2.2.2⟩ (fun hHeld => ?_)
  refine pure_ (i := 0) (N := some 79) (v := ?_) (a' := ?_) #[true, false, false, false, false, false, false, false, false, false, false, false, false, false, false, false, false, false, false, false, false, false, false, false, false, false, false, false, false, false, false, false, false, false, false, false, false, false, false] rfl rfl (by kernel_rfl) (fun _ _ _ h => h) (Or.inl ⟨by rfl, ?_⟩) ?_ ?_
  rotate_left
  · intro w'
    go_simp
    with_reducible rfl
  rotate_left
  · simp only [Act.put, List.setIfInBounds_toArray, List.set_cons_zero, List.set_cons_succ, i64_w, i32_w]
    rfl
  refine one_ (i := 1) (N := some 80) #[true, true, false, false, false, false, false, false, false, false, false, false, false, false, false, false, false, false, false, false, false, false, false, false, false, false, false, false, false, false, false, false, false, false, false, false, false, false, false] rfl rfl (by kernel_rfl) (by decide) (fun K hK => ?_)
  refine goes_ Tryd.func12 (by kernel_rfl) rfl #[.nilIface] (by rfl) rfl rfl (by simp only [List.map_toArray, List.map_cons, List.map_nil]; rfl) ?_
  with_reducible refine (code_nil _).mono ?_
  rintro e w20 ⟨rfl, hd⟩
  refine ⟨_, rfl, ?_⟩
  have Hw20 := Lib.hid (HD.out.trans (hd.mono HD.out.size))
  clear hd
  refine hK.out _ _ ⟨(hV Hw20.out).1, (hV Hw20.out).2.1, (hV Hw20.out).2.2.1, (hV Hw20.out).2.2.2, (hB2 Hw20.out).1, (hB2 Hw20.out).2.1, (hB2 Hw20.out).2.2.1, (hB2 Hw20.out).2.2.2⟩ (fun hHeld => ?_)
  clear hK K
  refine norm_ (a' := ?_) ?_ ?_
  rotate_left
  · show Act.put _ (some 80) _ = _
    simp only [Act.put, List.setIfInBounds_toArray, List.set_cons_zero, List.set_cons_succ, i64_w, i32_w]
    rfl
  refine pure_ (i := 2) (N := some 81) (v := ?_) (a' := ?_) #[true, true, true, false, false, false, false, false, false, false, false, false, false, false, false, false, false, false, false, false, false, false, false, false, false, false, false, false, false, false, false, false, false, false, false, false, false, false, false] rfl rfl (by kernel_rfl) (fun _ _ _ h => h) (Or.inl ⟨by rfl, ?_⟩) ?_ ?_
  rotate_left
  · intro w'
    go_simp
    with_reducible rfl
  rotate_left
  · simp only [Act.put, List.setIfInBounds_toArray, List.set_cons_zero, List.set_cons_succ, i64_w, i32_w]
    rfl
  refine pure_ (i := 3) (N := some 82) (v := ?_) (a' := ?_) #[true, true, true, true, false, false, false, false, false, false, false, false, false, false, false, false, false, false, false, false, false, false, false, false, false, false, false, false, false, false, false, false, false, false, false, false, false, false, false] rfl rfl (by kernel_rfl) (fun _ _ _ h => h) (Or.inl ⟨by rfl, ?_⟩) ?_ ?_
  rotate_left
  · intro w'
    go_simp
    with_reducible rfl
  rotate_left
  · simp only [Act.put, List.setIfInBounds_toArray, List.set_cons_zero, List.set_cons_succ, i64_w, i32_w]
    rfl
  refine pure_ (i := 4) (N := some 83) (v := ?_) (a' := ?_) #[true, true, true, true, true, false, false, false, false, false, false, false, false, false, false, false, false, false, false, false, false, false, false, false, false, false, false, false, false, false, false, false, false, false, false, false, false, false, false] rfl rfl (by kernel_rfl) (fun _ _ _ h => h) (Or.inl ⟨by rfl, ?_⟩) ?_ ?_
  rotate_left
  · intro w'
    go_simp
    with_reducible rfl
  rotate_left
  · simp only [Act.put, List.setIfInBounds_toArray, List.set_cons_zero, List.set_cons_succ, i64_w, i32_w]
    rfl
  refine one_ (i := 5) (N := some 84) #[true, true, true, true, true, true, false, false, false, false, false, false, false, false, false, false, false, false, false, false, false, false, false, false, false, false, false, false, false, false, false, false, false, false, false, false, false, false, false] rfl rfl (by kernel_rfl) (by decide) (fun K hK => ?_)
  refine goes_ Tryd.func12 (by kernel_rfl) rfl #[.nilIface] (by rfl) rfl rfl (by simp only [List.map_toArray, List.map_cons, List.map_nil]; rfl) ?_
  with_reducible refine (code_nil _).mono ?_
  rintro e w21 ⟨rfl, hd⟩
  refine ⟨_, rfl, ?_⟩
  have Hw21 := Lib.hid (Hw20.out.trans (hd.mono Hw20.out.size))
  clear hd
  refine hK.out _ _ ⟨(hV Hw21.out).1, (hV Hw21.out).2.1, (hV Hw21.out).2.2.1, (hV Hw21.out).2.2.2, (hB2 Hw21.out).1, (hB2 Hw21.out).2.1, (hB2 Hw21.out).2.2.1, (hB2 Hw21.out).2.2.2⟩ (fun hHeld => ?_)
  clear hK K
  refine norm_ (a' := ?_) ?_ ?_
  rotate_left
  · show Act.put _ (some 84) _ = _
    simp only [Act.put, List.setIfInBounds_toArray, List.set_cons_zero, List.set_cons_succ, i64_w, i32_w]
    rfl
  refine pure_ (i := 6) (N := some 85) (v := ?_) (a' := ?_) #[true, true, true, true, true, true, true, false, false, false, false, false, false, false, false, false, false, false, false, false, false, false, false, false, false, false, false, false, false, false, false, false, false, false, false, false, false, false, false] rfl rfl (by kernel_rfl) (fun _ _ _ h => h) (Or.inl ⟨by rfl, ?_⟩) ?_ ?_
  rotate_left
  · intro w'
    go_simp
    with_reducible rfl
  rotate_left
  · simp only [Act.put, List.setIfInBounds_toArray, List.set_cons_zero, List.set_cons_succ, i64_w, i32_w]
    rfl
  refine pure_ (i := 7) (N := some 86) (v := ?_) (a' := ?_) #[true, true, true, true, true, true, true, true, false, false, false, false, false, false, false, false, false, false, false, false, false, false, false, false, false, false, false, false, false, false, false, false, false, false, false, false, false, false, false] rfl rfl (by kernel_rfl) (fun _ _ _ h => h) (Or.inl ⟨by rfl, ?_⟩) ?_ ?_
  rotate_left
  · intro w'
    go_simp
    with_reducible rfl
  rotate_left
  · simp only [Act.put, List.setIfInBounds_toArray, List.set_cons_zero, List.set_cons_succ, i64_w, i32_w]
    rfl
  refine pure_ (i := 8) (N := some 87) (v := ?_) (a' := ?_) #[true, true, true, true, true, true, true, true, true, false, false, false, false, false, false, false, false, false, false, false, false, false, false, false, false, false, false, false, false, false, false, false, false, false, false, false, false, false, false] rfl rfl (by kernel_rfl) (fun _ _ _ h => h) (Or.inl ⟨by rfl, ?_⟩) ?_ ?_
  rotate_left
  · intro w'
    go_simp
    with_reducible rfl
  rotate_left
  · simp only [Act.put, List.setIfInBounds_toArray, List.set_cons_zero, List.set_cons_succ, i64_w, i32_w]
    rfl
  refine pure_ (i := 9) (N := some 88) (v := ?_) (a' := ?_) #[true, true, true, true, true, true, true, true, true, true, false, false, false, false, false, false, false, false, false, false, false, false, false, false, false, false, false, false, false, false, false, false, false, false, false, false, false, false, false] rfl rfl (by kernel_rfl) (fun _ _ _ h => h) (Or.inl ⟨by rfl, ?_⟩) ?_ ?_
  rotate_left
  · intro w'
    go_simp
    with_reducible rfl
  rotate_left
  · simp only [Act.put, List.setIfInBounds_toArray, List.set_cons_zero, List.set_cons_succ, i64_w, i32_w]
    rfl
  refine one_ (i := 10) (N := some 89) #[true, true, true, true, true, true, true, true, true, true, true, false, false, false, false, false, false, false, false, false, false, false, false, false, false, false, false, false, false, false, false, false, false, false, false, false, false, false, false] rfl rfl (by kernel_rfl) (by decide) (fun K hK => ?_)
  refine goes_ Tryd.func12 (by kernel_rfl) rfl #[.nilIface] (by rfl) rfl rfl (by simp only [List.map_toArray, List.map_cons, List.map_nil]; rfl) ?_
  with_reducible refine (code_nil _).mono ?_
  rintro e w22 ⟨rfl, hd⟩
  refine ⟨_, rfl, ?_⟩
  have Hw22 := Lib.hid (Hw21.out.trans (hd.mono Hw21.out.size))
  clear hd
  refine hK.out _ _ ⟨(hV Hw22.out).1, (hV Hw22.out).2.1, (hV Hw22.out).2.2.1, (hV Hw22.out).2.2.2, (hB2 Hw22.out).1, (hB2 Hw22.out).2.1, (hB2 Hw22.out).2.2.1, (hB2 Hw22.out).2.2.2⟩ (fun hHeld => ?_)
  clear hK K
  refine norm_ (a' := ?_) ?_ ?_
  rotate_left
  · show Act.put _ (some 89) _ = _
    simp only [Act.put, List.setIfInBounds_toArray, List.set_cons_zero, List.set_cons_succ, i64_w, i32_w]
    rfl
  refine pure_ (i := 11) (N := some 90) (v := ?_) (a' := ?_) #[true, true, true, true, true, true, true, true, true, true, true, true, false, false, false, false, false, false, false, false, false, false, false, false, false, false, false, false, false, false, false, false, false, false, false, false, false, false, false] rfl rfl (by kernel_rfl) (fun _ _ _ h => h) (Or.inl ⟨by rfl, ?_⟩) ?_ ?_
  rotate_left
  · intro w'
    go_simp
    with_reducible rfl
  rotate_left
  · simp only [Act.put, List.setIfInBounds_toArray, List.set_cons_zero, List.set_cons_succ, i64_w, i32_w]
    rfl
  refine pure_ (i := 12) (N := some 91) (v := ?_) (a' := ?_) #[true, true, true, true, true, true, true, true, true, true, true, true, true, false, false, false, false, false, false, false, false, false, false, false, false, false, false, false, false, false, false, false, false, false, false, false, false, false, false] rfl rfl (by kernel_rfl) (fun _ _ _ h => h) (Or.inl ⟨by rfl, ?_⟩) ?_ ?_
  rotate_left
  · intro w'
    go_simp
    with_reducible rfl
  rotate_left
  · simp only [Act.put, List.setIfInBounds_toArray, List.set_cons_zero, List.set_cons_succ, i64_w, i32_w]
    rfl
  refine pure_ (i := 13) (N := some 92) (v := ?_) (a' := ?_) #[true, true, true, true, true, true, true, true, true, true, true, true, true, true, false, false, false, false, false, false, false, false, false, false, false, false, false, false, false, false, false, false, false, false, false, false, false, false, false] rfl rfl (by kernel_rfl) (fun _ _ _ h => h) (Or.inl ⟨by rfl, ?_⟩) ?_ ?_
  rotate_left
  · intro w'
    go_simp
    with_reducible rfl
  rotate_left
  · simp only [Act.put, List.setIfInBounds_toArray, List.set_cons_zero, List.set_cons_succ, i64_w, i32_w]
    rfl
  refine pure_ (i := 14) (N := some 93) (v := ?_) (a' := ?_) #[true, true, true, true, true, true, true, true, true, true, true, true, true, true, true, false, false, false, false, false, false, false, false, false, false, false, false, false, false, false, false, false, false, false, false, false, false, false, false] rfl rfl (by kernel_rfl) (fun _ _ _ h => h) (Or.inl ⟨by rfl, ?_⟩) ?_ ?_
  rotate_left
  · intro w'
    go_simp
    with_reducible rfl
  rotate_left
  · simp only [Act.put, List.setIfInBounds_toArray, List.set_cons_zero, List.set_cons_succ, i64_w, i32_w]
    rfl
  refine one_ (i := 15) (N := some 94) #[true, true, true, true, true, true, true, true, true, true, true, true, true, true, true, true, false, false, false, false, false, false, false, false, false, false, false, false, false, false, false, false, false, false, false, false, false, false, false] rfl rfl (by kernel_rfl) (by decide) (fun K hK => ?_)
  refine goes_ Tryd.func12 (by kernel_rfl) rfl #[.nilIface] (by rfl) rfl rfl (by simp only [List.map_toArray, List.map_cons, List.map_nil]; rfl) ?_
  with_reducible refine (code_nil _).mono ?_
  rintro e w23 ⟨rfl, hd⟩
  refine ⟨_, rfl, ?_⟩
  have Hw23 := Lib.hid (Hw22.out.trans (hd.mono Hw22.out.size))
  clear hd
  refine hK.out _ _ ⟨(hV Hw23.out).1, (hV Hw23.out).2.1, (hV Hw23.out).2.2.1, (hV Hw23.out).2.2.2, (hB2 Hw23.out).1, (hB2 Hw23.out).2.1, (hB2 Hw23.out).2.2.1, (hB2 Hw23.out).2.2.2⟩ (fun hHeld => ?_)
  clear hK K
  refine norm_ (a' := ?_) ?_ ?_
  rotate_left
  · show Act.put _ (some 94) _ = _
    simp only [Act.put, List.setIfInBounds_toArray, List.set_cons_zero, List.set_cons_succ, i64_w, i32_w]
    rfl
  refine pure_ (i := 16) (N := some 95) (v := ?_) (a' := ?_) #[true, true, true, true, true, true, true, true, true, true, true, true, true, true, true, true, true, false, false, false, false, false, false, false, false, false, false, false, false, false, false, false, false, false, false, false, false, false, false] rfl rfl (by kernel_rfl) (fun _ _ _ h => h) (Or.inl ⟨by rfl, ?_⟩) ?_ ?_
  rotate_left
  · intro w'
    go_simp
    with_reducible rfl
  rotate_left
  · simp only [Act.put, List.setIfInBounds_toArray, List.set_cons_zero, List.set_cons_succ, i64_w, i32_w]
    rfl
  refine pure_ (i := 17) (N := some 96) (v := ?_) (a' := ?_) #[true, true, true, true, true, true, true, true, true, true, true, true, true, true, true, true, true, true, false, false, false, false, false, false, false, false, false, false, false, false, false, false, false, false, false, false, false, false, false] rfl rfl (by kernel_rfl) (fun _ _ _ h => h) (Or.inl ⟨by rfl, ?_⟩) ?_ ?_
  rotate_left
  · intro w'
    go_simp
    with_reducible rfl
  rotate_left
  · simp only [Act.put, List.setIfInBounds_toArray, List.set_cons_zero, List.set_cons_succ, i64_w, i32_w]
    rfl
  refine pure_ (i := 18) (N := some 97) (v := ?_) (a' := ?_) #[true, true, true, true, true, true, true, true, true, true, true, true, true, true, true, true, true, true, true, false, false, false, false, false, false, false, false, false, false, false, false, false, false, false, false, false, false, false, false] rfl rfl (by kernel_rfl) (fun _ _ _ h => h) (Or.inl ⟨by rfl, ?_⟩) ?_ ?_
  rotate_left
  · intro w'
    go_simp
    with_reducible rfl
  rotate_left
  · simp only [Act.put, List.setIfInBounds_toArray, List.set_cons_zero, List.set_cons_succ, i64_w, i32_w]
    rfl
  refine pure_ (i := 19) (N := some 98) (v := ?_) (a' := ?_) #[true, true, true, true, true, true, true, true, true, true, true, true, true, true, true, true, true, true, true, true, false, false, false, false, false, false, false, false, false, false, false, false, false, false, false, false, false, false, false] rfl rfl (by kernel_rfl) (fun _ _ _ h => h) (Or.inl ⟨by rfl, ?_⟩) ?_ ?_
  rotate_left
  · intro w'
    go_simp
    with_reducible rfl
  rotate_left
  · simp only [Act.put, List.setIfInBounds_toArray, List.set_cons_zero, List.set_cons_succ, i64_w, i32_w]
    rfl
  refine one_ (i := 20) (N := some 99) #[true, true, true, true, true, true, true, true, true, true, true, true, true, true, true, true, true, true, true, true, true, false, false, false, false, false, false, false, false, false, false, false, false, false, false, false, false, false, false] rfl rfl (by kernel_rfl) (by decide) (fun K hK => ?_)
  refine goes_ Tryd.func12 (by kernel_rfl) rfl #[.nilIface] (by rfl) rfl rfl (by simp only [List.map_toArray, List.map_cons, List.map_nil]; rfl) ?_
  with_reducible refine (code_nil _).mono ?_
  rintro e w24 ⟨rfl, hd⟩
  refine ⟨_, rfl, ?_⟩
  have Hw24 := Lib.hid (Hw23.out.trans (hd.mono Hw23.out.size))
  clear hd
  refine hK.out _ _ ⟨(hV Hw24.out).1, (hV Hw24.out).2.1, (hV Hw24.out).2.2.1, (hV Hw24.out).2.2.2, (hB2 Hw24.out).1, (hB2 Hw24.out).2.1, (hB2 Hw24.out).2.2.1, (hB2 Hw24.out).2.2.2⟩ (fun hHeld => ?_)
  clear hK K
  refine norm_ (a' := ?_) ?_ ?_
  rotate_left
  · show Act.put _ (some 99) _ = _
    simp only [Act.put, List.setIfInBounds_toArray, List.set_cons_zero, List.set_cons_succ, i64_w, i32_w]
    rfl
  refine pure_ (i := 21) (N := some 100) (v := ?_) (a' := ?_) #[true, true, true, true, true, true, true, true, true, true, true, true, true, true, true, true, true, true, true, true, true, true, false, false, false, false, false, false, false, false, false, false, false, false, false, false, false, false, false] rfl rfl (by kernel_rfl) (fun _ _ _ h => h) (Or.inl ⟨by rfl, ?_⟩) ?_ ?_
  rotate_left
  · intro w'
    go_simp
    with_reducible rfl
  rotate_left
  · simp only [Act.put, List.setIfInBounds_toArray, List.set_cons_zero, List.set_cons_succ, i64_w, i32_w]
    rfl
  refine pure_ (i := 22) (N := some 101) (v := ?_) (a' := ?_) #[true, true, true, true, true, true, true, true, true, true, true, true, true, true, true, true, true, true, true, true, true, true, true, false, false, false, false, false, false, false, false, false, false, false, false, false, false, false, false] rfl rfl (by kernel_rfl) (fun _ _ _ h => h) (Or.inl ⟨by rfl, ?_⟩) ?_ ?_
  rotate_left
  · intro w'
    go_simp
    with_reducible rfl
  rotate_left
  · simp only [Act.put, List.setIfInBounds_toArray, List.set_cons_zero, List.set_cons_succ, i64_w, i32_w]
    rfl
  refine pure_ (i := 23) (N := some 102) (v := ?_) (a' := ?_) #[true, true, true, true, true, true, true, true, true, true, true, true, true, true, true, true, true, true, true, true, true, true, true, true, false, false, false, false, false, false, false, false, false, false, false, false, false, false, false] rfl rfl (by kernel_rfl) (fun _ _ _ h => h) (Or.inl ⟨by rfl, ?_⟩) ?_ ?_
  rotate_left
  · intro w'
    go_simp
    with_reducible rfl
  rotate_left
  · simp only [Act.put, List.setIfInBounds_toArray, List.set_cons_zero, List.set_cons_succ, i64_w, i32_w]
    rfl
  refine pure_ (i := 24) (N := some 103) (v := ?_) (a' := ?_) #[true, true, true, true, true, true, true, true, true, true, true, true, true, true, true, true, true, true, true, true, true, true, true, true, true, false, false, false, false, false, false, false, false, false, false, false, false, false, false] rfl rfl (by kernel_rfl) (fun _ _ _ h => h) (Or.inl ⟨by rfl, ?_⟩) ?_ ?_
  rotate_left
  · intro w'
    go_simp
    with_reducible rfl
  rotate_left
  · simp only [Act.put, List.setIfInBounds_toArray, List.set_cons_zero, List.set_cons_succ, i64_w, i32_w]
    rfl
  refine one_ (i := 25) (N := some 104) #[true, true, true, true, true, true, true, true, true, true, true, true, true, true, true, true, true, true, true, true, true, true, true, true, true, true, false, false, false, false, false, false, false, false, false, false, false, false, false] rfl rfl (by kernel_rfl) (by decide) (fun K hK => ?_)
  refine goes_ Tryd.func12 (by kernel_rfl) rfl #[.nilIface] (by rfl) rfl rfl (by simp only [List.map_toArray, List.map_cons, List.map_nil]; rfl) ?_
  with_reducible refine (code_nil _).mono ?_
  rintro e w25 ⟨rfl, hd⟩
  refine ⟨_, rfl, ?_⟩
  have Hw25 := Lib.hid (Hw24.out.trans (hd.mono Hw24.out.size))
  clear hd
  refine hK.out _ _ ⟨(hV Hw25.out).1, (hV Hw25.out).2.1, (hV Hw25.out).2.2.1, (hV Hw25.out).2.2.2, (hB2 Hw25.out).1, (hB2 Hw25.out).2.1, (hB2 Hw25.out).2.2.1, (hB2 Hw25.out).2.2.2⟩ (fun hHeld => ?_)
  clear hK K
  refine norm_ (a' := ?_) ?_ ?_
  rotate_left
  · show Act.put _ (some 104) _ = _
    simp only [Act.put, List.setIfInBounds_toArray, List.set_cons_zero, List.set_cons_succ, i64_w, i32_w]
    rfl
  refine pure_ (i := 26) (N := some 105) (v := ?_) (a' := ?_) #[true, true, true, true, true, true, true, true, true, true, true, true, true, true, true, true, true, true, true, true, true, true, true, true, true, true, true, false, false, false, false, false, false, false, false, false, false, false, false] rfl rfl (by kernel_rfl) (fun _ _ _ h => h) (Or.inl ⟨by rfl, ?_⟩) ?_ ?_
  rotate_left
  · intro w'
    go_simp
    with_reducible rfl
  rotate_left
  · simp only [Act.put, List.setIfInBounds_toArray, List.set_cons_zero, List.set_cons_succ, i64_w, i32_w]
    rfl
  refine pure_ (i := 27) (N := some 106) (v := ?_) (a' := ?_) #[true, true, true, true, true, true, true, true, true, true, true, true, true, true, true, true, true, true, true, true, true, true, true, true, true, true, true, true, false, false, false, false, false, false, false, false, false, false, false] rfl rfl (by kernel_rfl) (fun _ _ _ h => h) (Or.inl ⟨by rfl, ?_⟩) ?_ ?_
  rotate_left
  · intro w'
    go_simp
    with_reducible rfl
  rotate_left
  · simp only [Act.put, List.setIfInBounds_toArray, List.set_cons_zero, List.set_cons_succ, i64_w, i32_w]
    rfl
  refine pure_ (i := 28) (N := some 107) (v := ?_) (a' := ?_) #[true, true, true, true, true, true, true, true, true, true, true, true, true, true, true, true, true, true, true, true, true, true, true, true, true, true, true, true, true, false, false, false, false, false, false, false, false, false, false] rfl rfl (by kernel_rfl) (fun _ _ _ h => h) (Or.inl ⟨by rfl, ?_⟩) ?_ ?_
  rotate_left
  · intro w'
    go_simp
    with_reducible rfl
  rotate_left
  · simp only [Act.put, List.setIfInBounds_toArray, List.set_cons_zero, List.set_cons_succ, i64_w, i32_w]
    rfl
  refine pure_ (i := 29) (N := some 108) (v := ?_) (a' := ?_) #[true, true, true, true, true, true, true, true, true, true, true, true, true, true, true, true, true, true, true, true, true, true, true, true, true, true, true, true, true, true, false, false, false, false, false, false, false, false, false] rfl rfl (by kernel_rfl) (fun _ _ _ h => h) (Or.inl ⟨by rfl, ?_⟩) ?_ ?_
  rotate_left
  · intro w'
    go_simp
    with_reducible rfl
  rotate_left
  · simp only [Act.put, List.setIfInBounds_toArray, List.set_cons_zero, List.set_cons_succ, i64_w, i32_w]
    rfl
  refine one_ (i := 30) (N := some 109) #[true, true, true, true, true, true, true, true, true, true, true, true, true, true, true, true, true, true, true, true, true, true, true, true, true, true, true, true, true, true, true, false, false, false, false, false, false, false, false] rfl rfl (by kernel_rfl) (by decide) (fun K hK => ?_)
  refine goes_ Tryd.func12 (by kernel_rfl) rfl #[.nilIface] (by rfl) rfl rfl (by simp only [List.map_toArray, List.map_cons, List.map_nil]; rfl) ?_
  with_reducible refine (code_nil _).mono ?_
  rintro e w26 ⟨rfl, hd⟩
  refine ⟨_, rfl, ?_⟩
  have Hw26 := Lib.hid (Hw25.out.trans (hd.mono Hw25.out.size))
  clear hd
  refine hK.out _ _ ⟨(hV Hw26.out).1, (hV Hw26.out).2.1, (hV Hw26.out).2.2.1, (hV Hw26.out).2.2.2, (hB2 Hw26.out).1, (hB2 Hw26.out).2.1, (hB2 Hw26.out).2.2.1, (hB2 Hw26.out).2.2.2⟩ (fun hHeld => ?_)
  clear hK K
  refine norm_ (a' := ?_) ?_ ?_
  rotate_left
  · show Act.put _ (some 109) _ = _
    simp only [Act.put, List.setIfInBounds_toArray, List.set_cons_zero, List.set_cons_succ, i64_w, i32_w]
    rfl
  refine pure_ (i := 31) (N := some 110) (v := ?_) (a' := ?_) #[true, true, true, true, true, true, true, true, true, true, true, true, true, true, true, true, true, true, true, true, true, true, true, true, true, true, true, true, true, true, true, true, false, false, false, false, false, false, false] rfl rfl (by kernel_rfl) (fun _ _ _ h => h) (Or.inl ⟨by rfl, ?_⟩) ?_ ?_
  rotate_left
  · intro w'
    go_simp
    with_reducible rfl
  rotate_left
  · simp only [Act.put, List.setIfInBounds_toArray, List.set_cons_zero, List.set_cons_succ, i64_w, i32_w]
    rfl
  refine pure_ (i := 32) (N := some 111) (v := ?_) (a' := ?_) #[true, true, true, true, true, true, true, true, true, true, true, true, true, true, true, true, true, true, true, true, true, true, true, true, true, true, true, true, true, true, true, true, true, false, false, false, false, false, false] rfl rfl (by kernel_rfl) (fun _ _ _ h => h) (Or.inl ⟨by rfl, ?_⟩) ?_ ?_
  rotate_left
  · intro w'
    go_simp
    with_reducible rfl
  rotate_left
  · simp only [Act.put, List.setIfInBounds_toArray, List.set_cons_zero, List.set_cons_succ, i64_w, i32_w]
    rfl
  refine pure_ (i := 33) (N := some 112) (v := ?_) (a' := ?_) #[true, true, true, true, true, true, true, true, true, true, true, true, true, true, true, true, true, true, true, true, true, true, true, true, true, true, true, true, true, true, true, true, true, true, false, false, false, false, false] rfl rfl (by kernel_rfl) (fun _ _ _ h => h) (Or.inl ⟨by rfl, ?_⟩) ?_ ?_
  rotate_left
  · intro w'
    go_simp
    with_reducible rfl
  rotate_left
  · simp only [Act.put, List.setIfInBounds_toArray, List.set_cons_zero, List.set_cons_succ, i64_w, i32_w]
    rfl
  refine take_ (i := 34) (N := some 113) (v := ?_) (a' := ?_) #[true, true, true, true, true, true, true, true, true, true, true, true, true, true, true, true, true, true, true, true, true, true, true, true, true, true, true, true, true, true, true, true, true, true, true, false, false, false, false] rfl rfl (by kernel_rfl) (fun _ _ _ h => h) (Or.inl ⟨by rfl, ?_⟩) hHeld ?_ ?_
  rotate_left
  · rintro w' ⟨s0, s1, s2, s3, s4, s5, s6, s7⟩
    go_simp
    with_reducible rfl
  rotate_left
  · simp only [Act.put, List.setIfInBounds_toArray, List.set_cons_zero, List.set_cons_succ, i64_w, i32_w]
    rfl
  refine take_ (i := 36) (N := some 115) (v := ?_) (a' := ?_) #[true, true, true, true, true, true, true, true, true, true, true, true, true, true, true, true, true, true, true, true, true, true, true, true, true, true, true, true, true, true, true, true, true, true, true, false, true, false, false] rfl rfl (by kernel_rfl) (fun _ _ _ h => h) (Or.inl ⟨by rfl, ?_⟩) hHeld ?_ ?_
  rotate_left
  · rintro w' ⟨s0, s1, s2, s3, s4, s5, s6, s7⟩
    go_simp
    with_reducible rfl
  rotate_left
  · simp only [Act.put, List.setIfInBounds_toArray, List.set_cons_zero, List.set_cons_succ, i64_w, i32_w]
    rfl
  refine one_ (i := 35) (N := some 114) #[true, true, true, true, true, true, true, true, true, true, true, true, true, true, true, true, true, true, true, true, true, true, true, true, true, true, true, true, true, true, true, true, true, true, true, true, true, false, false] rfl rfl (by kernel_rfl) (by decide) (fun K hK => ?_)
  refine goes_ Tryd.func14 (by kernel_rfl) rfl #[.agg (slA g2 x' y' z')] (by rfl) rfl rfl (by simp only [List.map_toArray, List.map_cons, List.map_nil]; rfl) ?_
  with_reducible refine (plain_c g2 x' y' z' _).mono ?_
  rintro e w27 ⟨rfl, hd⟩
  refine ⟨_, rfl, ?_⟩
  have Hw27 := Lib.hid (Hw26.out.trans (hd.mono Hw26.out.size))
  clear hd
  refine hK.out _ _ ⟨(hV Hw27.out).1, (hV Hw27.out).2.1, (hV Hw27.out).2.2.1, (hV Hw27.out).2.2.2, (hB2 Hw27.out).1, (hB2 Hw27.out).2.1, (hB2 Hw27.out).2.2.1, (hB2 Hw27.out).2.2.2⟩ (fun hHeld => ?_)
  clear hK K
  refine norm_ (a' := ?_) ?_ ?_
  rotate_left
  · show Act.put _ (some 114) _ = _
    simp only [Act.put, List.setIfInBounds_toArray, List.set_cons_zero, List.set_cons_succ, i64_w, i32_w]
    rfl
  refine pure_ (i := 37) (N := some 116) (v := ?_) (a' := ?_) #[true, true, true, true, true, true, true, true, true, true, true, true, true, true, true, true, true, true, true, true, true, true, true, true, true, true, true, true, true, true, true, true, true, true, true, true, true, true, false] rfl rfl (by kernel_rfl) (fun _ _ _ h => h) (Or.inl ⟨by rfl, ?_⟩) ?_ ?_
  rotate_left
  · intro w'
    refine exec_neR (x := .tmp 114) (y := .tmp 115) ?_ ?_ ?_ hqn
    · rfl
    · rfl
    · rfl
  rotate_left
  · simp only [Act.put, List.setIfInBounds_toArray, List.set_cons_zero, List.set_cons_succ, i64_w, i32_w]
    rfl
  refine pure_ (i := 38) (N := some 117) (v := ?_) (a' := ?_) #[true, true, true, true, true, true, true, true, true, true, true, true, true, true, true, true, true, true, true, true, true, true, true, true, true, true, true, true, true, true, true, true, true, true, true, true, true, true, true] rfl rfl (by kernel_rfl) (fun _ _ _ h => h) (Or.inl ⟨by rfl, ?_⟩) ?_ ?_
  rotate_left
  · intro w'
    go_simp
    with_reducible rfl
  rotate_left
  · simp only [Act.put, List.setIfInBounds_toArray, List.set_cons_zero, List.set_cons_succ, i64_w, i32_w]
    rfl
  refine done_ (by kernel_rfl) ?_

  clear hB2 hV
  go_wp2_with fail
  have HA18 := blk_to HA17 Hw27.out
  have HB18 := blk_to HB17 Hw27.out
  have HU18 := blk_to HU17 Hw27.out
  have HX18 := below_to HX17 (Nat.le_refl _) Hw27.out
  clear HA17 HB17 HU17 HX17 HV17
  by_cases hbz : b = 0
  · have hYC := HY0.out hbz
    rw [hYC, ← EC.out] at HU18
    subst hbz
    have HD2 := Lib.hid (show Below w27.heap.size w27 w27.drew from (Below.refl _ _).drew)
    have hB2 := fun {w' : World} (k : Below w27.heap.size w27 w') => rs_keep HB18.out k
    have hV := fun {w' : World} (k : Below w27.heap.size w27 w') => sl_keep HU18.out k
    have hqq : (g2 == g2 && (x' == x' && (y' == y' && (z' == z')))) = true := by simp
    go_wp2_with fail
    refine start_ (n := 19) (S := fun w' => w'.cell? ⟨U, 0, none⟩ = some (.int .u32 g2) ∧ w'.cell? ⟨U, 1, none⟩ = some (.int .i64 x') ∧ w'.cell? ⟨U, 2, none⟩ = some (.int .i64 y') ∧ w'.cell? ⟨U, 3, none⟩ = some (.int .u32 z') ∧ w'.cell? ⟨B + 1, 0, none⟩ = some (.int .u32 g2) ∧ w'.cell? ⟨B + 1, 1, none⟩ = some (.int .i64 x') ∧ w'.cell? ⟨B + 1, 2, none⟩ = some (.int .i64 y') ∧ w'.cell? ⟨B + 1, 3, none⟩ = some (.int .u32 z')) (ds := []) #[false, false, false, false, false, false, false, false, false, false, false, false, false, false, false, false, false, false, false] (by kernel_rfl) rfl rfl ⟨(hV HD2.out).1, (hV HD2.out).2.1, (hV HD2.out).2.2.1, (hV HD2.out).2.2.2, (hB2 HD2.out).1, (hB2 HD2.out).2.1, (hB2 HD2.out).2.2.1, (hB2 HD2.out).2.2.2⟩ (fun hHeld => ?_)
    refine pure_ (i := 0) (N := some 118) (v := ?_) (a' := ?_) #[true, false, false, false, false, false, false, false, false, false, false, false, false, false, false, false, false, false, false] rfl rfl (by kernel_rfl) (fun _ _ _ h => h) (Or.inl ⟨by rfl, ?_⟩) ?_ ?_
    rotate_left
    · intro w'
      go_simp
      with_reducible rfl
    rotate_left
    · simp only [Act.put, List.setIfInBounds_toArray, List.set_cons_zero, List.set_cons_succ, i64_w, i32_w]
      rfl
    refine pure_ (i := 1) (N := some 119) (v := ?_) (a' := ?_) #[true, true, false, false, false, false, false, false, false, false, false, false, false, false, false, false, false, false, false] rfl rfl (by kernel_rfl) (fun _ _ _ h => h) (Or.inl ⟨by rfl, ?_⟩) ?_ ?_
    rotate_left
    · intro w'
      go_simp
      with_reducible rfl
    rotate_left
    · simp only [Act.put, List.setIfInBounds_toArray, List.set_cons_zero, List.set_cons_succ, i64_w, i32_w]
      rfl
    refine pure_ (i := 2) (N := some 120) (v := ?_) (a' := ?_) #[true, true, true, false, false, false, false, false, false, false, false, false, false, false, false, false, false, false, false] rfl rfl (by kernel_rfl) (fun _ _ _ h => h) (Or.inl ⟨by rfl, ?_⟩) ?_ ?_
    rotate_left
    · intro w'
      go_simp
      with_reducible rfl
    rotate_left
    · simp only [Act.put, List.setIfInBounds_toArray, List.set_cons_zero, List.set_cons_succ, i64_w, i32_w]
      rfl
    refine take_ (i := 3) (N := some 121) (v := ?_) (a' := ?_) #[true, true, true, true, false, false, false, false, false, false, false, false, false, false, false, false, false, false, false] rfl rfl (by kernel_rfl) (fun _ _ _ h => h) (Or.inl ⟨by rfl, ?_⟩) hHeld ?_ ?_
    rotate_left
    · rintro w' ⟨s0, s1, s2, s3, s4, s5, s6, s7⟩
      go_simp
      with_reducible rfl
    rotate_left
    · simp only [Act.put, List.setIfInBounds_toArray, List.set_cons_zero, List.set_cons_succ, i64_w, i32_w]
      rfl
    refine take_ (i := 5) (N := some 123) (v := ?_) (a' := ?_) #[true, true, true, true, false, true, false, false, false, false, false, false, false, false, false, false, false, false, false] rfl rfl (by kernel_rfl) (fun _ _ _ h => h) (Or.inl ⟨by rfl, ?_⟩) hHeld ?_ ?_
    rotate_left
    · rintro w' ⟨s0, s1, s2, s3, s4, s5, s6, s7⟩
      go_simp
      with_reducible rfl
    rotate_left
    · simp only [Act.put, List.setIfInBounds_toArray, List.set_cons_zero, List.set_cons_succ, i64_w, i32_w]
      rfl
    refine one_ (i := 4) (N := some 122) #[true, true, true, true, true, true, false, false, false, false, false, false, false, false, false, false, false, false, false] rfl rfl (by kernel_rfl) (by decide) (fun K hK => ?_)
    refine goes_ Tryd.func14 (by kernel_rfl) rfl #[.agg (slA g2 x' y' z')] (by rfl) rfl rfl (by simp only [List.map_toArray, List.map_cons, List.map_nil]; rfl) ?_
    with_reducible refine (plain_c g2 x' y' z' _).mono ?_
    rintro e w30 ⟨rfl, hd⟩
    refine ⟨_, rfl, ?_⟩
    have Hw30 := Lib.hid (HD2.out.trans (hd.mono HD2.out.size))
    clear hd
    refine hK.out _ _ ⟨(hV Hw30.out).1, (hV Hw30.out).2.1, (hV Hw30.out).2.2.1, (hV Hw30.out).2.2.2, (hB2 Hw30.out).1, (hB2 Hw30.out).2.1, (hB2 Hw30.out).2.2.1, (hB2 Hw30.out).2.2.2⟩ (fun hHeld => ?_)
    clear hK K
    refine norm_ (a' := ?_) ?_ ?_
    rotate_left
    · show Act.put _ (some 122) _ = _
      simp only [Act.put, List.setIfInBounds_toArray, List.set_cons_zero, List.set_cons_succ, i64_w, i32_w]
      rfl
    refine pure_ (i := 6) (N := some 124) (v := ?_) (a' := ?_) #[true, true, true, true, true, true, true, false, false, false, false, false, false, false, false, false, false, false, false] rfl rfl (by kernel_rfl) (fun _ _ _ h => h) (Or.inl ⟨by rfl, ?_⟩) ?_ ?_
    rotate_left
    · intro w'
      refine exec_eqR (x := .tmp 122) (y := .tmp 123) ?_ ?_ ?_ hqq
      · rfl
      · rfl
      · rfl
    rotate_left
    · simp only [Act.put, List.setIfInBounds_toArray, List.set_cons_zero, List.set_cons_succ, i64_w, i32_w]
      rfl
    refine pure_ (i := 7) (N := some 125) (v := ?_) (a' := ?_) #[true, true, true, true, true, true, true, true, false, false, false, false, false, false, false, false, false, false, false] rfl rfl (by kernel_rfl) (fun _ _ _ h => h) (Or.inl ⟨by rfl, ?_⟩) ?_ ?_
    rotate_left
    · intro w'
      go_simp
      with_reducible rfl
    rotate_left
    · simp only [Act.put, List.setIfInBounds_toArray, List.set_cons_zero, List.set_cons_succ, i64_w, i32_w]
      rfl
    refine pure_ (i := 8) (N := some 126) (v := ?_) (a' := ?_) #[true, true, true, true, true, true, true, true, true, false, false, false, false, false, false, false, false, false, false] rfl rfl (by kernel_rfl) (fun _ _ _ h => h) (Or.inl ⟨by rfl, ?_⟩) ?_ ?_
    rotate_left
    · intro w'
      go_simp
      with_reducible rfl
    rotate_left
    · simp only [Act.put, List.setIfInBounds_toArray, List.set_cons_zero, List.set_cons_succ, i64_w, i32_w]
      rfl
    refine pure_ (i := 9) (N := some 127) (v := undef) (a' := ?_) #[true, true, true, true, true, true, true, true, true, true, false, false, false, false, false, false, false, false, false] rfl rfl (by kernel_rfl) (fun _ _ _ h => h) (Or.inr ⟨by rfl, rfl⟩) ?_ ?_
    rotate_left
    · simp only [Act.put, List.setIfInBounds_toArray, List.set_cons_zero, List.set_cons_succ, i64_w, i32_w]
      rfl
    refine pure_ (i := 10) (N := some 128) (v := undef) (a' := ?_) #[true, true, true, true, true, true, true, true, true, true, true, false, false, false, false, false, false, false, false] rfl rfl (by kernel_rfl) (fun _ _ _ h => h) (Or.inr ⟨by rfl, rfl⟩) ?_ ?_
    rotate_left
    · simp only [Act.put, List.setIfInBounds_toArray, List.set_cons_zero, List.set_cons_succ, i64_w, i32_w]
      rfl
    refine pure_ (i := 11) (N := some 129) (v := undef) (a' := ?_) #[true, true, true, true, true, true, true, true, true, true, true, true, false, false, false, false, false, false, false] rfl rfl (by kernel_rfl) (fun _ _ _ h => h) (Or.inr ⟨by rfl, rfl⟩) ?_ ?_
    rotate_left
    · simp only [Act.put, List.setIfInBounds_toArray, List.set_cons_zero, List.set_cons_succ, i64_w, i32_w]
      rfl
    refine pure_ (i := 12) (N := some 130) (v := undef) (a' := ?_) #[true, true, true, true, true, true, true, true, true, true, true, true, true, false, false, false, false, false, false] rfl rfl (by kernel_rfl) (fun _ _ _ h => h) (Or.inr ⟨by rfl, rfl⟩) ?_ ?_
    rotate_left
    · simp only [Act.put, List.setIfInBounds_toArray, List.set_cons_zero, List.set_cons_succ, i64_w, i32_w]
      rfl
    refine pure_ (i := 13) (N := some 131) (v := undef) (a' := ?_) #[true, true, true, true, true, true, true, true, true, true, true, true, true, true, false, false, false, false, false] rfl rfl (by kernel_rfl) (fun _ _ _ h => h) (Or.inr ⟨by rfl, rfl⟩) ?_ ?_
    rotate_left
    · simp only [Act.put, List.setIfInBounds_toArray, List.set_cons_zero, List.set_cons_succ, i64_w, i32_w]
      rfl
    refine pure_ (i := 14) (N := some 132) (v := undef) (a' := ?_) #[true, true, true, true, true, true, true, true, true, true, true, true, true, true, true, false, false, false, false] rfl rfl (by kernel_rfl) (fun _ _ _ h => h) (Or.inr ⟨by rfl, rfl⟩) ?_ ?_
    rotate_left
    · simp only [Act.put, List.setIfInBounds_toArray, List.set_cons_zero, List.set_cons_succ, i64_w, i32_w]
      rfl
    refine pure_ (i := 15) (N := some 133) (v := undef) (a' := ?_) #[true, true, true, true, true, true, true, true, true, true, true, true, true, true, true, true, false, false, false] rfl rfl (by kernel_rfl) (fun _ _ _ h => h) (Or.inr ⟨by rfl, rfl⟩) ?_ ?_
    rotate_left
    · simp only [Act.put, List.setIfInBounds_toArray, List.set_cons_zero, List.set_cons_succ, i64_w, i32_w]
      rfl
    refine pure_ (i := 16) (N := some 134) (v := undef) (a' := ?_) #[true, true, true, true, true, true, true, true, true, true, true, true, true, true, true, true, true, false, false] rfl rfl (by kernel_rfl) (fun _ _ _ h => h) (Or.inr ⟨by rfl, rfl⟩) ?_ ?_
    rotate_left
    · simp only [Act.put, List.setIfInBounds_toArray, List.set_cons_zero, List.set_cons_succ, i64_w, i32_w]
      rfl
    refine pure_ (i := 17) (N := some 135) (v := ?_) (a' := ?_) #[true, true, true, true, true, true, true, true, true, true, true, true, true, true, true, true, true, true, false] rfl rfl (by kernel_rfl) (fun _ _ _ h => h) (Or.inl ⟨by rfl, ?_⟩) ?_ ?_
    rotate_left
    · intro w'
      go_simp
      with_reducible rfl
    rotate_left
    · simp only [Act.put, List.setIfInBounds_toArray, List.set_cons_zero, List.set_cons_succ, i64_w, i32_w]
      rfl
    refine pure_ (i := 18) (N := some 8) (v := ?_) (a' := ?_) #[true, true, true, true, true, true, true, true, true, true, true, true, true, true, true, true, true, true, true] rfl rfl (by kernel_rfl) (fun _ _ _ h => h) (Or.inl ⟨by rfl, ?_⟩) ?_ ?_
    rotate_left
    · intro w'
      go_simp
      with_reducible rfl
    rotate_left
    · simp only [Act.put, List.setIfInBounds_toArray, List.set_cons_zero, List.set_cons_succ, i64_w, i32_w]
      rfl
    refine done_ (by kernel_rfl) ?_

    go_wp2_with fail
    go_ret
    exact ⟨rfl, HX18.out.trans (Hw30.out.mono HX18.out.size)⟩
  · have hYA := HY1.out hbz
    rw [hYA, ← EA.out] at HU18
    have c0 : (b == 0) = false := beq_eq_false_iff_ne.2 hbz
    have c0' : (b != 0) = true := by rw [bne, c0]; rfl
    have HD2 := Lib.hid (show Below w27.heap.size w27 w27.drew from (Below.refl _ _).drew)
    have hB2 := fun {w' : World} (k : Below w27.heap.size w27 w') => rs_keep HA18.out k
    have hV := fun {w' : World} (k : Below w27.heap.size w27 w') => sl_keep HU18.out k
    have hqq : (g == g && (x == x && (y == y && (z == z)))) = true := by simp
    go_wp2_with fail
    refine start_ (n := 19) (S := fun w' => w'.cell? ⟨U, 0, none⟩ = some (.int .u32 g) ∧ w'.cell? ⟨U, 1, none⟩ = some (.int .i64 x) ∧ w'.cell? ⟨U, 2, none⟩ = some (.int .i64 y) ∧ w'.cell? ⟨U, 3, none⟩ = some (.int .u32 z) ∧ w'.cell? ⟨B, 0, none⟩ = some (.int .u32 g) ∧ w'.cell? ⟨B, 1, none⟩ = some (.int .i64 x) ∧ w'.cell? ⟨B, 2, none⟩ = some (.int .i64 y) ∧ w'.cell? ⟨B, 3, none⟩ = some (.int .u32 z)) (ds := []) #[false, false, false, false, false, false, false, false, false, false, false, false, false, false, false, false, false, false, false] (by kernel_rfl) rfl rfl ⟨(hV HD2.out).1, (hV HD2.out).2.1, (hV HD2.out).2.2.1, (hV HD2.out).2.2.2, (hB2 HD2.out).1, (hB2 HD2.out).2.1, (hB2 HD2.out).2.2.1, (hB2 HD2.out).2.2.2⟩ (fun hHeld => ?_)
    refine pure_ (i := 0) (N := some 118) (v := ?_) (a' := ?_) #[true, false, false, false, false, false, false, false, false, false, false, false, false, false, false, false, false, false, false] rfl rfl (by kernel_rfl) (fun _ _ _ h => h) (Or.inl ⟨by rfl, ?_⟩) ?_ ?_
    rotate_left
    · intro w'
      go_simp
      with_reducible rfl
    rotate_left
    · simp only [Act.put, List.setIfInBounds_toArray, List.set_cons_zero, List.set_cons_succ, i64_w, i32_w]
      rfl
    refine pure_ (i := 1) (N := some 119) (v := ?_) (a' := ?_) #[true, true, false, false, false, false, false, false, false, false, false, false, false, false, false, false, false, false, false] rfl rfl (by kernel_rfl) (fun _ _ _ h => h) (Or.inl ⟨by rfl, ?_⟩) ?_ ?_
    rotate_left
    · intro w'
      go_simp
      with_reducible rfl
    rotate_left
    · simp only [Act.put, List.setIfInBounds_toArray, List.set_cons_zero, List.set_cons_succ, i64_w, i32_w]
      rfl
    refine pure_ (i := 2) (N := some 120) (v := ?_) (a' := ?_) #[true, true, true, false, false, false, false, false, false, false, false, false, false, false, false, false, false, false, false] rfl rfl (by kernel_rfl) (fun _ _ _ h => h) (Or.inl ⟨by rfl, ?_⟩) ?_ ?_
    rotate_left
    · intro w'
      go_simp
      with_reducible rfl
    rotate_left
    · simp only [Act.put, List.setIfInBounds_toArray, List.set_cons_zero, List.set_cons_succ, i64_w, i32_w]
      rfl
    refine pure_ (i := 3) (N := some 121) (v := undef) (a' := ?_) #[true, true, true, true, false, false, false, false, false, false, false, false, false, false, false, false, false, false, false] rfl rfl (by kernel_rfl) (fun _ _ _ h => h) (Or.inr ⟨by rfl, rfl⟩) ?_ ?_
    rotate_left
    · simp only [Act.put, List.setIfInBounds_toArray, List.set_cons_zero, List.set_cons_succ, i64_w, i32_w]
      rfl
    refine pure_ (i := 4) (N := some 122) (v := undef) (a' := ?_) #[true, true, true, true, true, false, false, false, false, false, false, false, false, false, false, false, false, false, false] rfl rfl (by kernel_rfl) (fun _ _ _ h => h) (Or.inr ⟨by rfl, rfl⟩) ?_ ?_
    rotate_left
    · simp only [Act.put, List.setIfInBounds_toArray, List.set_cons_zero, List.set_cons_succ, i64_w, i32_w]
      rfl
    refine pure_ (i := 5) (N := some 123) (v := undef) (a' := ?_) #[true, true, true, true, true, true, false, false, false, false, false, false, false, false, false, false, false, false, false] rfl rfl (by kernel_rfl) (fun _ _ _ h => h) (Or.inr ⟨by rfl, rfl⟩) ?_ ?_
    rotate_left
    · simp only [Act.put, List.setIfInBounds_toArray, List.set_cons_zero, List.set_cons_succ, i64_w, i32_w]
      rfl
    refine pure_ (i := 6) (N := some 124) (v := undef) (a' := ?_) #[true, true, true, true, true, true, true, false, false, false, false, false, false, false, false, false, false, false, false] rfl rfl (by kernel_rfl) (fun _ _ _ h => h) (Or.inr ⟨by rfl, rfl⟩) ?_ ?_
    rotate_left
    · simp only [Act.put, List.setIfInBounds_toArray, List.set_cons_zero, List.set_cons_succ, i64_w, i32_w]
      rfl
    refine pure_ (i := 7) (N := some 125) (v := ?_) (a' := ?_) #[true, true, true, true, true, true, true, true, false, false, false, false, false, false, false, false, false, false, false] rfl rfl (by kernel_rfl) (fun _ _ _ h => h) (Or.inl ⟨by rfl, ?_⟩) ?_ ?_
    rotate_left
    · intro w'
      go_simp
      with_reducible rfl
    rotate_left
    · simp only [Act.put, List.setIfInBounds_toArray, List.set_cons_zero, List.set_cons_succ, i64_w, i32_w]
      rfl
    refine pure_ (i := 8) (N := some 126) (v := ?_) (a' := ?_) #[true, true, true, true, true, true, true, true, true, false, false, false, false, false, false, false, false, false, false] rfl rfl (by kernel_rfl) (fun _ _ _ h => h) (Or.inl ⟨by rfl, ?_⟩) ?_ ?_
    rotate_left
    · intro w'
      go_simp
      with_reducible rfl
    rotate_left
    · simp only [Act.put, List.setIfInBounds_toArray, List.set_cons_zero, List.set_cons_succ, i64_w, i32_w]
      rfl
    refine pure_ (i := 9) (N := some 127) (v := ?_) (a' := ?_) #[true, true, true, true, true, true, true, true, true, true, false, false, false, false, false, false, false, false, false] rfl rfl (by kernel_rfl) (fun _ _ _ h => h) (Or.inl ⟨by rfl, ?_⟩) ?_ ?_
    rotate_left
    · intro w'
      go_simp
      with_reducible rfl
    rotate_left
    · simp only [Act.put, List.setIfInBounds_toArray, List.set_cons_zero, List.set_cons_succ, i64_w, i32_w]
      rfl
    refine pure_ (i := 10) (N := some 128) (v := ?_) (a' := ?_) #[true, true, true, true, true, true, true, true, true, true, true, false, false, false, false, false, false, false, false] rfl rfl (by kernel_rfl) (fun _ _ _ h => h) (Or.inl ⟨by rfl, ?_⟩) ?_ ?_
    rotate_left
    · intro w'
      go_simp
      with_reducible rfl
    rotate_left
    · simp only [Act.put, List.setIfInBounds_toArray, List.set_cons_zero, List.set_cons_succ, i64_w, i32_w]
      rfl
    refine pure_ (i := 11) (N := some 129) (v := ?_) (a' := ?_) #[true, true, true, true, true, true, true, true, true, true, true, true, false, false, false, false, false, false, false] rfl rfl (by kernel_rfl) (fun _ _ _ h => h) (Or.inl ⟨by rfl, ?_⟩) ?_ ?_
    rotate_left
    · intro w'
      go_simp
      with_reducible rfl
    rotate_left
    · simp only [Act.put, List.setIfInBounds_toArray, List.set_cons_zero, List.set_cons_succ, i64_w, i32_w]
      rfl
    refine take_ (i := 12) (N := some 130) (v := ?_) (a' := ?_) #[true, true, true, true, true, true, true, true, true, true, true, true, true, false, false, false, false, false, false] rfl rfl (by kernel_rfl) (fun _ _ _ h => h) (Or.inl ⟨by rfl, ?_⟩) hHeld ?_ ?_
    rotate_left
    · rintro w' ⟨s0, s1, s2, s3, s4, s5, s6, s7⟩
      go_simp
      with_reducible rfl
    rotate_left
    · simp only [Act.put, List.setIfInBounds_toArray, List.set_cons_zero, List.set_cons_succ, i64_w, i32_w]
      rfl
    refine take_ (i := 14) (N := some 132) (v := ?_) (a' := ?_) #[true, true, true, true, true, true, true, true, true, true, true, true, true, false, true, false, false, false, false] rfl rfl (by kernel_rfl) (fun _ _ _ h => h) (Or.inl ⟨by rfl, ?_⟩) hHeld ?_ ?_
    rotate_left
    · rintro w' ⟨s0, s1, s2, s3, s4, s5, s6, s7⟩
      go_simp
      with_reducible rfl
    rotate_left
    · simp only [Act.put, List.setIfInBounds_toArray, List.set_cons_zero, List.set_cons_succ, i64_w, i32_w]
      rfl
    refine one_ (i := 13) (N := some 131) #[true, true, true, true, true, true, true, true, true, true, true, true, true, true, true, false, false, false, false] rfl rfl (by kernel_rfl) (by decide) (fun K hK => ?_)
    refine goes_ Tryd.func14 (by kernel_rfl) rfl #[.agg (slA g x y z)] (by rfl) rfl rfl (by simp only [List.map_toArray, List.map_cons, List.map_nil]; rfl) ?_
    with_reducible refine (plain_c g x y z _).mono ?_
    rintro e w30 ⟨rfl, hd⟩
    refine ⟨_, rfl, ?_⟩
    have Hw30 := Lib.hid (HD2.out.trans (hd.mono HD2.out.size))
    clear hd
    refine hK.out _ _ ⟨(hV Hw30.out).1, (hV Hw30.out).2.1, (hV Hw30.out).2.2.1, (hV Hw30.out).2.2.2, (hB2 Hw30.out).1, (hB2 Hw30.out).2.1, (hB2 Hw30.out).2.2.1, (hB2 Hw30.out).2.2.2⟩ (fun hHeld => ?_)
    clear hK K
    refine norm_ (a' := ?_) ?_ ?_
    rotate_left
    · show Act.put _ (some 131) _ = _
      simp only [Act.put, List.setIfInBounds_toArray, List.set_cons_zero, List.set_cons_succ, i64_w, i32_w]
      rfl
    refine pure_ (i := 15) (N := some 133) (v := ?_) (a' := ?_) #[true, true, true, true, true, true, true, true, true, true, true, true, true, true, true, true, false, false, false] rfl rfl (by kernel_rfl) (fun _ _ _ h => h) (Or.inl ⟨by rfl, ?_⟩) ?_ ?_
    rotate_left
    · intro w'
      refine exec_eqR (x := .tmp 131) (y := .tmp 132) ?_ ?_ ?_ hqq
      · rfl
      · rfl
      · rfl
    rotate_left
    · simp only [Act.put, List.setIfInBounds_toArray, List.set_cons_zero, List.set_cons_succ, i64_w, i32_w]
      rfl
    refine pure_ (i := 16) (N := some 134) (v := ?_) (a' := ?_) #[true, true, true, true, true, true, true, true, true, true, true, true, true, true, true, true, true, false, false] rfl rfl (by kernel_rfl) (fun _ _ _ h => h) (Or.inl ⟨by rfl, ?_⟩) ?_ ?_
    rotate_left
    · intro w'
      go_simp
      with_reducible rfl
    rotate_left
    · simp only [Act.put, List.setIfInBounds_toArray, List.set_cons_zero, List.set_cons_succ, i64_w, i32_w]
      rfl
    refine pure_ (i := 17) (N := some 135) (v := ?_) (a' := ?_) #[true, true, true, true, true, true, true, true, true, true, true, true, true, true, true, true, true, true, false] rfl rfl (by kernel_rfl) (fun _ _ _ h => h) (Or.inl ⟨by rfl, ?_⟩) ?_ ?_
    rotate_left
    · intro w'
      go_simp
      with_reducible rfl
    rotate_left
    · simp only [Act.put, List.setIfInBounds_toArray, List.set_cons_zero, List.set_cons_succ, i64_w, i32_w]
      rfl
    refine pure_ (i := 18) (N := some 8) (v := ?_) (a' := ?_) #[true, true, true, true, true, true, true, true, true, true, true, true, true, true, true, true, true, true, true] rfl rfl (by kernel_rfl) (fun _ _ _ h => h) (Or.inl ⟨by rfl, ?_⟩) ?_ ?_
    rotate_left
    · intro w'
      go_simp
      with_reducible rfl
    rotate_left
    · simp only [Act.put, List.setIfInBounds_toArray, List.set_cons_zero, List.set_cons_succ, i64_w, i32_w]
      rfl
    refine done_ (by kernel_rfl) ?_

    go_wp2_with fail
    go_ret
    exact ⟨rfl, HX18.out.trans (Hw30.out.mono HX18.out.size)⟩
theorem walk (g x y z gb x' y' z' a b : Int) (W : World) (h1 : Wf g x y z) (h2 : Wf gb x' y' z') (ha : (Lit.int .u8 a).wf = true) (hb : (Lit.int .u8 b).wf = true) (hg : Hid (Laid W)) : Calls Tryd.prog 6 #[.agg (slA g x y z), .agg (slA gb x' y' z'), .int .u8 a, .int .u8 b] W fun e w' => e = .returned (.bool true) ∧ Below W.heap.size W w' := by
  have b1 := h1.bounds
  have b2 := h2.bounds
  have ha2 : 0 ≤ a ∧ a < 256 := by simp [Lit.wf, IntKind.min, IntKind.max, IntKind.bits, IntKind.signed] at ha; omega
  have hb2 : 0 ≤ b ∧ b < 256 := by simp [Lit.wf, IntKind.min, IntKind.max, IntKind.bits, IntKind.signed] at hb; omega
  cases r1 : rightB g x y z with
  | false => exact no1 g x y z gb x' y' z' a b W (Lib.hid r1) hg
  | true =>
    cases r2 : rightB ((g + 1) % 4294967296) x' y' z' with
    | false => exact no2 g x y z gb x' y' z' a b W (Lib.hid r1) (Lib.hid r2) hg
    | true => exact yes g x y z gb _ x' y' z' a b W (rightB_rt r1 b1.1.2 b1.2.2.2.1 b1.2.2.2.2) rfl (rightB_rt r2 (by omega) b2.2.2.2.1 b2.2.2.2.2) ha2 hb2 hg
end Go.Proofs.YtkgiifcbimpcoaaDoor.RowSlotGreater

