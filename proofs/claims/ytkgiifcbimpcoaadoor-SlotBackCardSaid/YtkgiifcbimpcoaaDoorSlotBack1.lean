/- SlotBack, the walk. -/
import Derived.Test.YtkgiifcbimpcoaaDoorSlotByte
set_option linter.unusedVariables false
set_option linter.unusedSimpArgs false
namespace Go.Proofs.YtkgiifcbimpcoaaDoor.RowSlotBack
open Go.RowKit Go.Proofs.YtkgiifcbimpcoaaDoorW.PrintWords Go.Proofs.YtkgiifcbimpcoaaDoorW.PrintLast Go.Proofs.YtkgiifcbimpcoaaDoorW.PrintMore Go.Proofs.YtkgiifcbimpcoaaDoor.Md Go.Proofs.YtkgiifcbimpcoaaDoor.Dk Go.Proofs.YtkgiifcbimpcoaaDoor.Blb Go.Proofs.YtkgiifcbimpcoaaDoor.Slt
open Go.Extern.Stop (cell)
open Go.Proofs.YtkgiifcbimpcoaaDoor.Err (Laid IsErr code_nil code_c Chain at_some at_nil)
set_option maxHeartbeats 8000000 in
set_option maxRecDepth 100000 in
theorem no (g x y z a b : Int) (W : World) (h1 : Hid (rightB g x y z = false)) (hg : Hid (Laid W)) : Calls Tryd.prog 3 #[.agg (slA g x y z), .int .u8 a, .int .u8 b] W fun e w' => e = .returned (.bool true) ∧ Below W.heap.size W w' := by
  have hzz : (pz.1 == pz.1) = true := by simp
  go_enter Tryd.func3, Tryd.ntmps3
  go_wp2_with fail
  have hb1 : Below W.heap.size W (W.alloc (Obj.cells (slA g x y z) 24 (0, 0))) := (Below.refl _ _).alloc (Nat.le_refl _) _
  have HX1 := Lib.hid hb1
  have HA1 := Lib.hid (heap_alloc_last W (Obj.cells (slA g x y z) 24 (0, 0)))
  clear hb1
  obtain ⟨B, hB⟩ : ∃ B, W.heap.size = B := ⟨_, rfl⟩
  rw [hB] at HA1
  simp only [hB]
  have HB4 := Lib.hid hB
  generalize (W.alloc (Obj.cells (slA g x y z) 24 (0, 0))) = w1 at *
  refine (awake_c _ (Lib.hid (hg.out.on HX1.out))).mono ?_
  rintro e w2 ⟨rfl, hd⟩
  have HA2 := blk_to HA1 hd
  have HX2 := below_to HX1 (Nat.le_refl _) hd
  clear hd HA1 HX1
  obtain ⟨k0, k1, k2, k3⟩ := rs_keep HA2.out (Below.refl w2.heap.size w2)
  go_wp2_with fail
  refine (of_c g x y z _).mono ?_
  rintro e w3 ⟨rfl, hd⟩
  have HA3 := blk_to HA2 hd
  have HX3 := below_to HX2 (Nat.le_refl _) hd
  clear hd HA2 HX2 k0 k1 k2 k3
  go_wp2_with fail
  refine (lay_no g x y z _ h1).mono ?_
  rintro e w4 ⟨⟨T, u, rfl, he⟩, hd⟩
  have HE4 := Lib.hid he
  have HX4 := below_to HX3 (Nat.le_refl _) hd
  clear hd he HA3 HX3
  have hb5 : Below w4.heap.size w4 (w4.alloc (Obj.cells (pa pz) 27 (0, 0))) := (Below.refl _ _).alloc (Nat.le_refl _) _
  have HX5 := below_to HX4 (Nat.le_refl _) hb5
  have HE5 := Lib.hid (HE4.out.on hb5)
  have HP5 := Lib.hid (heap_alloc_last w4 (Obj.cells (pa pz) 27 (0, 0)))
  clear hb5 HX4 HE4
  go_wp2_with (first
    | (refine wl_alloc30 rfl rfl ?_)
    | (refine wl_store30n pz pz rfl _ _ rfl rfl rfl ?_))
  obtain ⟨X, hX⟩ : ∃ X, w4.heap.size = X := ⟨_, rfl⟩
  rw [hX] at HP5
  simp only [hX]
  generalize (w4.alloc (Obj.cells (pa pz) 27 (0, 0))) = w5 at *
  clear hX
  refine (code_c _ 1 _ HE5 (Lib.hid (hg.out.on HX5.out))).mono ?_
  rintro e w6 ⟨rfl, hd⟩
  have HE6 := Lib.hid (HE5.out.on hd)
  have HX6 := below_to HX5 (Nat.le_refl _) hd
  have HP6 := blk_to HP5 hd
  clear hd HE5 HX5 HP5
  go_wp2_with fail
  refine (code_c _ 1 _ HE6 (Lib.hid (hg.out.on HX6.out))).mono ?_
  rintro e w7 ⟨rfl, hd⟩
  have HX7 := below_to HX6 (Nat.le_refl _) hd
  have HP7 := blk_to HP6 hd
  clear hd HE6 HX6 HP6
  go_wp2_with (first
    | (refine wg_load30 X pz HP7.out (by rfl) _ rfl rfl ?_)
    | (refine wg_build30 (by rfl) rfl ?_)
    | (refine wg_eql pz pz (by rfl) _ _ rfl rfl rfl ?_))
  go_ret
  exact ⟨rfl, HX7.out⟩
set_option maxHeartbeats 16000000 in
set_option maxRecDepth 100000 in
theorem yes (g x y z a b : Int) (W : World) (hr : Slt.Rt g x y z) (ha : 0 ≤ a ∧ a < 256) (hb : 0 ≤ b ∧ b < 256) (hg : Hid (Laid W)) : Calls Tryd.prog 3 #[.agg (slA g x y z), .int .u8 a, .int .u8 b] W fun e w' => e = .returned (.bool true) ∧ Below W.heap.size W w' := by
  have HRt := Lib.hid hr
  obtain ⟨j, hj⟩ : ∃ j : Nat, a.tmod 64 = (j : Int) := ⟨(a % 64).toNat, by rw [Int.tmod_eq_emod_of_nonneg ha.1]; omega⟩
  have hj64 : j < 64 := by rw [Int.tmod_eq_emod_of_nonneg ha.1] at hj; omega
  have HJ := Lib.hid hj
  have HBb := Lib.hid hb
  have HAb := Lib.hid ha
  clear hr ha hb
  go_enter Tryd.func3, Tryd.ntmps3
  go_wp2_with fail
  have hb1 : Below W.heap.size W (W.alloc (Obj.cells (slA g x y z) 24 (0, 0))) := (Below.refl _ _).alloc (Nat.le_refl _) _
  have HX1 := Lib.hid hb1
  have HA1 := Lib.hid (heap_alloc_last W (Obj.cells (slA g x y z) 24 (0, 0)))
  clear hb1
  obtain ⟨B, hB⟩ : ∃ B, W.heap.size = B := ⟨_, rfl⟩
  rw [hB] at HA1
  simp only [hB]
  have HB4 := Lib.hid hB
  generalize (W.alloc (Obj.cells (slA g x y z) 24 (0, 0))) = w1 at *
  refine (awake_c _ (Lib.hid (hg.out.on HX1.out))).mono ?_
  rintro e w2 ⟨rfl, hd⟩
  have HA2 := blk_to HA1 hd
  have HX2 := below_to HX1 (Nat.le_refl _) hd
  clear hd HA1 HX1
  obtain ⟨k0, k1, k2, k3⟩ := rs_keep HA2.out (Below.refl w2.heap.size w2)
  go_wp2_with fail
  refine (of_c g x y z _).mono ?_
  rintro e w3 ⟨rfl, hd⟩
  have HA3 := blk_to HA2 hd
  have HX3 := below_to HX2 (Nat.le_refl _) hd
  clear hd HA2 HX2 k0 k1 k2 k3
  go_wp2_with fail
  refine (lay_ok g x y z _ HRt.out).mono ?_
  rintro e w4 ⟨rfl, hd⟩
  have HA4 := blk_to HA3 hd
  have HX4 := below_to HX3 (Nat.le_refl _) hd
  have hWX : B < w4.heap.size := Err.lt_of_block HA4.out
  clear hd HA3 HX3
  obtain ⟨P, hP⟩ : ∃ P, layP g x y z = P := ⟨_, rfl⟩
  have HP := Lib.hid hP
  rw [hP]
  clear hP
  have hb5 : Below w4.heap.size w4 (w4.alloc (Obj.cells (pa P) 27 (0, 0))) := (Below.refl _ _).alloc (Nat.le_refl _) _
  have HA5 := blk_to HA4 hb5
  have HX5 := below_to HX4 (Nat.le_refl _) hb5
  have HP5 := Lib.hid (heap_alloc_last w4 (Obj.cells (pa P) 27 (0, 0)))
  clear hb5 HX4 HA4
  go_wp2_with (first
    | (refine wl_alloc30 rfl rfl ?_)
    | (refine wl_store30n pz P rfl _ _ rfl rfl rfl ?_))
  obtain ⟨X, hX⟩ : ∃ X, w4.heap.size = X := ⟨_, rfl⟩
  rw [hX] at HP5
  simp only [hX]
  rw [hX] at hWX
  generalize (w4.alloc (Obj.cells (pa P) 27 (0, 0))) = w5 at *
  clear hX
  refine (code_nil _).mono ?_
  rintro e w6 ⟨rfl, hd⟩
  have HA6 := blk_to HA5 hd
  have HX6 := below_to HX5 (Nat.le_refl _) hd
  have HP6 := blk_to HP5 hd
  clear hd HA5 HX5 HP5
  go_wp2_with (first
    | (refine wl_load30 X P HP6.out rfl _ rfl rfl ?_))
  refine (read_c P _).mono ?_
  rintro e w7 ⟨⟨e7, rfl, he1, _⟩, hd⟩
  have hsl : slotOf P = ⟨g, x, y, z⟩ := slotOf_lay (s := ⟨g, x, y, z⟩) HRt.out HP.out
  rw [hsl] at he1
  obtain rfl := he1 HRt.out.g0
  rw [hsl]
  have HA7 := blk_to HA6 hd
  have HX7 := below_to HX6 (Nat.le_refl _) hd
  have HP7 := blk_to HP6 hd
  have hX7 : X < w7.heap.size := Err.lt_of_block HP7.out
  have hBX : B < X := hWX
  clear hd he1 hsl HA6 HX6 HP6
  -- the byte
  obtain ⟨b0, hb0⟩ : ∃ b0 : UInt8, P.1[j]'(by rw [P.2]; exact hj64) = b0 := ⟨_, rfl⟩
  obtain ⟨y2, hy2⟩ := xor_byte b0 b HBb.out.1 HBb.out.2
  obtain ⟨yi, hyi⟩ : ∃ yi : Int, yi = ((y2.toNat : Nat) : Int) := ⟨_, rfl⟩
  obtain ⟨bi0, hbi0⟩ : ∃ bi0 : Int, bi0 = ((b0.toNat : Nat) : Int) := ⟨_, rfl⟩
  have hx := hy2.1
  rw [← hyi, ← hbi0] at hx
  have HY2 := Lib.hid hy2.2
  have hcell : w7.cell? ⟨X, j, none⟩ = some (.int .u8 bi0) := by
    rw [Err.cell_of_blk HP7.out]
    unfold pa
    rw [List.getElem?_toArray, List.getElem?_map, List.getElem?_eq_getElem (by rw [P.2]; exact hj64), hb0, hbi0]
    rfl
  have hfz : w7.frozen? ⟨X, j, none⟩ = false := by simp [World.frozen?, HP7.out]
  have HB0 := Lib.hid hb0
  have HYi := Lib.hid hyi
  clear hb0 hy2 hyi hbi0
  have p1 : (0 ≤ (j : Int)) = True := eq_true (by omega)
  have p2 : ((j : Int) < 64) = True := eq_true (by omega)
  obtain ⟨P2, hP2⟩ : ∃ P2, pset P j y2 = P2 := ⟨_, rfl⟩
  have HP2 := Lib.hid hP2
  have hm8 : Mod (· = X) w7 (w7.setCell ⟨X, j, none⟩ (.int .u8 yi)) := (Mod.refl (· = X) w7).set ⟨X, j, none⟩ _ (.inl rfl)
  have HP8 := Lib.hid (show (w7.setCell ⟨X, j, none⟩ (.int .u8 yi)).heap[X]? = some (Obj.cells (pa P2) 27 (0, 0)) from by rw [← hP2, HYi.out, ← pa_set]; exact set1 HP7.out j _)
  have HA8 := Lib.hid (hm8.blk HA7.out (by omega))
  have HX8 := Lib.hid (HX7.out.trans (hm8.below HX7.out.size (fun i hi (e : i = X) => by have := HB4.out; omega)))
  have hs8 : (w7.setCell ⟨X, j, none⟩ (.int .u8 yi)).heap.size = w7.heap.size := by simp [World.setCell]
  have hb9 : Below (w7.setCell ⟨X, j, none⟩ (.int .u8 yi)).heap.size (w7.setCell ⟨X, j, none⟩ (.int .u8 yi)) ((w7.setCell ⟨X, j, none⟩ (.int .u8 yi)).alloc (Obj.cells (slA g x y z) 35 (0, 0))) := (Below.refl _ _).alloc (Nat.le_refl _) _
  have HP9 := blk_to HP8 hb9
  have HA9 := blk_to HA8 hb9
  have HX9 := below_to HX8 (Nat.le_refl _) hb9
  have HV9 := Lib.hid (heap_alloc_last (w7.setCell ⟨X, j, none⟩ (.int .u8 yi)) (Obj.cells (slA g x y z) 35 (0, 0)))
  rw [hs8] at HV9
  clear hb9 hm8 hs8 HP8 HA8 HX8 hP2
  go_wp2_with (first
    | (refine wl_allocS rfl rfl ?_)
    | (refine wl_storeSn 0 0 0 0 g x y z rfl _ _ rfl rfl rfl ?_)
    | (refine wl_load30 X P2 HP9.out rfl _ rfl rfl ?_))
  obtain ⟨V, hV⟩ : ∃ V, w7.heap.size = V := ⟨_, rfl⟩
  rw [hV] at HV9 hX7
  simp only [hV]
  generalize ((w7.setCell ⟨X, j, none⟩ (.int .u8 yi)).alloc (Obj.cells (slA g x y z) 35 (0, 0))) = w9 at *
  clear hV hx hcell hfz p1 p2 HA7 HX7 HP7
  refine (read_c P2 _).mono ?_
  rintro e w10 ⟨⟨e10, rfl, he1, he2⟩, hd⟩
  have HA10 := blk_to HA9 hd
  have HX10 := below_to HX9 (Nat.le_refl _) hd
  have HV10 := blk_to HV9 hd
  clear hd HA9 HX9 HV9 HP9
  have hsl : slotOf P = ⟨g, x, y, z⟩ := slotOf_lay (s := ⟨g, x, y, z⟩) HRt.out HP.out
  have hzz : ((0 : Int) == 0 && ((0 : Int) == 0 && ((0 : Int) == 0 && ((0 : Int) == 0)))) = true := by decide
  have hqq : (g == g && (x == x && (y == y && (z == z)))) = true := by simp
  by_cases hbz : b = 0
  · have hP2P : P2 = P := by
      have e : y2 = b0 := HY2.out.2 hbz
      rw [← HP2.out, e, ← HB0.out]
      exact byte_same P j hj64
    rw [hP2P, hsl] at he1
    obtain rfl := he1 HRt.out.g0
    rw [hP2P, hsl]
    clear he1 he2 hsl hP2P
    subst hbz
    have hb11 : Below w10.heap.size w10 (w10.alloc (Obj.cells (slA g x y z) 35 (0, 0))) := (Below.refl _ _).alloc (Nat.le_refl _) _
    have HA11 := blk_to HA10 hb11
    have HX11 := below_to HX10 (Nat.le_refl _) hb11
    have HV11 := blk_to HV10 hb11
    have HU11 := Lib.hid (heap_alloc_last w10 (Obj.cells (slA g x y z) 35 (0, 0)))
    go_wp2_with (first
      | (refine wl_allocS rfl rfl ?_)
      | (refine wl_storeSn 0 0 0 0 g x y z rfl _ _ rfl rfl rfl ?_))
    obtain ⟨U, hU⟩ : ∃ U, w10.heap.size = U := ⟨_, rfl⟩
    rw [hU] at HU11
    simp only [hU]
    generalize (w10.alloc (Obj.cells (slA g x y z) 35 (0, 0))) = w11 at *
    clear hU hb11 HA10 HX10 HV10
    have HD := Lib.hid (show Below w11.heap.size w11 w11.drew from (Below.refl _ _).drew)
    have hA := fun {w' : World} (k : Below w11.heap.size w11 w') => rs_keep HA11.out k
    have hV := fun {w' : World} (k : Below w11.heap.size w11 w') => sl_keep HV11.out k
    refine start_ (n := 33) (S := fun w' => w'.cell? ⟨V, 0, none⟩ = some (.int .u32 g) ∧ w'.cell? ⟨V, 1, none⟩ = some (.int .i64 x) ∧ w'.cell? ⟨V, 2, none⟩ = some (.int .i64 y) ∧ w'.cell? ⟨V, 3, none⟩ = some (.int .u32 z) ∧ w'.cell? ⟨B, 0, none⟩ = some (.int .u32 g) ∧ w'.cell? ⟨B, 1, none⟩ = some (.int .i64 x) ∧ w'.cell? ⟨B, 2, none⟩ = some (.int .i64 y) ∧ w'.cell? ⟨B, 3, none⟩ = some (.int .u32 z)) (ds := []) #[false, false, false, false, false, false, false, false, false, false, false, false, false, false, false, false, false, false, false, false, false, false, false, false, false, false, false, false, false, false, false, false, false] (by kernel_rfl) rfl rfl ⟨(hV HD.out).1, (hV HD.out).2.1, (hV HD.out).2.2.1, (hV HD.out).2.2.2, (hA HD.out).1, (hA HD.out).2.1, (hA HD.out).2.2.1, (hA HD.out).2.2.2⟩ (fun hHeld => ?_)
    refine pure_ (i := 0) (N := some 49) (v := ?_) (a' := ?_) #[true, false, false, false, false, false, false, false, false, false, false, false, false, false, false, false, false, false, false, false, false, false, false, false, false, false, false, false, false, false, false, false, false] rfl rfl (by kernel_rfl) (fun _ _ _ h => h) (Or.inl ⟨by rfl, ?_⟩) ?_ ?_
    rotate_left
    · intro w'
      go_simp
      with_reducible rfl
    rotate_left
    · simp only [Act.put, List.setIfInBounds_toArray, List.set_cons_zero, List.set_cons_succ, i64_w, i32_w]
      rfl
    refine one_ (i := 1) (N := some 50) #[true, true, false, false, false, false, false, false, false, false, false, false, false, false, false, false, false, false, false, false, false, false, false, false, false, false, false, false, false, false, false, false, false] rfl rfl (by kernel_rfl) (by decide) (fun K hK => ?_)
    refine goes_ Tryd.func12 (by kernel_rfl) rfl #[.nilIface] (by rfl) rfl rfl (by simp only [List.map_toArray, List.map_cons, List.map_nil]; rfl) ?_
    with_reducible refine (code_nil _).mono ?_
    rintro e w20 ⟨rfl, hd⟩
    refine ⟨_, rfl, ?_⟩
    have Hw20 := Lib.hid (HD.out.trans (hd.mono HD.out.size))
    clear hd
    refine hK.out _ _ ⟨(hV Hw20.out).1, (hV Hw20.out).2.1, (hV Hw20.out).2.2.1, (hV Hw20.out).2.2.2, (hA Hw20.out).1, (hA Hw20.out).2.1, (hA Hw20.out).2.2.1, (hA Hw20.out).2.2.2⟩ (fun hHeld => ?_)
    clear hK K
    refine norm_ (a' := ?_) ?_ ?_
    rotate_left
    · show Act.put _ (some 50) _ = _
      simp only [Act.put, List.setIfInBounds_toArray, List.set_cons_zero, List.set_cons_succ, i64_w, i32_w]
      rfl
    refine pure_ (i := 2) (N := some 51) (v := ?_) (a' := ?_) #[true, true, true, false, false, false, false, false, false, false, false, false, false, false, false, false, false, false, false, false, false, false, false, false, false, false, false, false, false, false, false, false, false] rfl rfl (by kernel_rfl) (fun _ _ _ h => h) (Or.inl ⟨by rfl, ?_⟩) ?_ ?_
    rotate_left
    · intro w'
      go_simp
      with_reducible rfl
    rotate_left
    · simp only [Act.put, List.setIfInBounds_toArray, List.set_cons_zero, List.set_cons_succ, i64_w, i32_w]
      rfl
    refine pure_ (i := 3) (N := some 52) (v := ?_) (a' := ?_) #[true, true, true, true, false, false, false, false, false, false, false, false, false, false, false, false, false, false, false, false, false, false, false, false, false, false, false, false, false, false, false, false, false] rfl rfl (by kernel_rfl) (fun _ _ _ h => h) (Or.inl ⟨by rfl, ?_⟩) ?_ ?_
    rotate_left
    · intro w'
      go_simp
      with_reducible rfl
    rotate_left
    · simp only [Act.put, List.setIfInBounds_toArray, List.set_cons_zero, List.set_cons_succ, i64_w, i32_w]
      rfl
    refine take_ (i := 4) (N := some 53) (v := ?_) (a' := ?_) #[true, true, true, true, true, false, false, false, false, false, false, false, false, false, false, false, false, false, false, false, false, false, false, false, false, false, false, false, false, false, false, false, false] rfl rfl (by kernel_rfl) (fun _ _ _ h => h) (Or.inl ⟨by rfl, ?_⟩) hHeld ?_ ?_
    rotate_left
    · rintro w' ⟨s0, s1, s2, s3, s4, s5, s6, s7⟩
      go_simp
      with_reducible rfl
    rotate_left
    · simp only [Act.put, List.setIfInBounds_toArray, List.set_cons_zero, List.set_cons_succ, i64_w, i32_w]
      rfl
    refine take_ (i := 6) (N := some 55) (v := ?_) (a' := ?_) #[true, true, true, true, true, false, true, false, false, false, false, false, false, false, false, false, false, false, false, false, false, false, false, false, false, false, false, false, false, false, false, false, false] rfl rfl (by kernel_rfl) (fun _ _ _ h => h) (Or.inl ⟨by rfl, ?_⟩) hHeld ?_ ?_
    rotate_left
    · rintro w' ⟨s0, s1, s2, s3, s4, s5, s6, s7⟩
      go_simp
      with_reducible rfl
    rotate_left
    · simp only [Act.put, List.setIfInBounds_toArray, List.set_cons_zero, List.set_cons_succ, i64_w, i32_w]
      rfl
    refine one_ (i := 5) (N := some 54) #[true, true, true, true, true, true, true, false, false, false, false, false, false, false, false, false, false, false, false, false, false, false, false, false, false, false, false, false, false, false, false, false, false] rfl rfl (by kernel_rfl) (by decide) (fun K hK => ?_)
    refine goes_ Tryd.func14 (by kernel_rfl) rfl #[.agg (slA g x y z)] (by rfl) rfl rfl (by simp only [List.map_toArray, List.map_cons, List.map_nil]; rfl) ?_
    with_reducible refine (plain_c g x y z _).mono ?_
    rintro e w21 ⟨rfl, hd⟩
    refine ⟨_, rfl, ?_⟩
    have Hw21 := Lib.hid (Hw20.out.trans (hd.mono Hw20.out.size))
    clear hd
    refine hK.out _ _ ⟨(hV Hw21.out).1, (hV Hw21.out).2.1, (hV Hw21.out).2.2.1, (hV Hw21.out).2.2.2, (hA Hw21.out).1, (hA Hw21.out).2.1, (hA Hw21.out).2.2.1, (hA Hw21.out).2.2.2⟩ (fun hHeld => ?_)
    clear hK K
    refine norm_ (a' := ?_) ?_ ?_
    rotate_left
    · show Act.put _ (some 54) _ = _
      simp only [Act.put, List.setIfInBounds_toArray, List.set_cons_zero, List.set_cons_succ, i64_w, i32_w]
      rfl
    refine pure_ (i := 7) (N := some 56) (v := ?_) (a' := ?_) #[true, true, true, true, true, true, true, true, false, false, false, false, false, false, false, false, false, false, false, false, false, false, false, false, false, false, false, false, false, false, false, false, false] rfl rfl (by kernel_rfl) (fun _ _ _ h => h) (Or.inl ⟨by rfl, ?_⟩) ?_ ?_
    rotate_left
    · intro w'
      refine exec_eqR (x := .tmp 54) (y := .tmp 55) ?_ ?_ ?_ hqq
      · rfl
      · rfl
      · rfl
    rotate_left
    · simp only [Act.put, List.setIfInBounds_toArray, List.set_cons_zero, List.set_cons_succ, i64_w, i32_w]
      rfl
    refine pure_ (i := 8) (N := some 57) (v := ?_) (a' := ?_) #[true, true, true, true, true, true, true, true, true, false, false, false, false, false, false, false, false, false, false, false, false, false, false, false, false, false, false, false, false, false, false, false, false] rfl rfl (by kernel_rfl) (fun _ _ _ h => h) (Or.inl ⟨by rfl, ?_⟩) ?_ ?_
    rotate_left
    · intro w'
      go_simp
      with_reducible rfl
    rotate_left
    · simp only [Act.put, List.setIfInBounds_toArray, List.set_cons_zero, List.set_cons_succ, i64_w, i32_w]
      rfl
    refine pure_ (i := 9) (N := some 58) (v := ?_) (a' := ?_) #[true, true, true, true, true, true, true, true, true, true, false, false, false, false, false, false, false, false, false, false, false, false, false, false, false, false, false, false, false, false, false, false, false] rfl rfl (by kernel_rfl) (fun _ _ _ h => h) (Or.inl ⟨by rfl, ?_⟩) ?_ ?_
    rotate_left
    · intro w'
      go_simp
      with_reducible rfl
    rotate_left
    · simp only [Act.put, List.setIfInBounds_toArray, List.set_cons_zero, List.set_cons_succ, i64_w, i32_w]
      rfl
    refine pure_ (i := 10) (N := some 59) (v := ?_) (a' := ?_) #[true, true, true, true, true, true, true, true, true, true, true, false, false, false, false, false, false, false, false, false, false, false, false, false, false, false, false, false, false, false, false, false, false] rfl rfl (by kernel_rfl) (fun _ _ _ h => h) (Or.inl ⟨by rfl, ?_⟩) ?_ ?_
    rotate_left
    · intro w'
      go_simp
      with_reducible rfl
    rotate_left
    · simp only [Act.put, List.setIfInBounds_toArray, List.set_cons_zero, List.set_cons_succ, i64_w, i32_w]
      rfl
    refine pure_ (i := 11) (N := some 60) (v := ?_) (a' := ?_) #[true, true, true, true, true, true, true, true, true, true, true, true, false, false, false, false, false, false, false, false, false, false, false, false, false, false, false, false, false, false, false, false, false] rfl rfl (by kernel_rfl) (fun _ _ _ h => h) (Or.inl ⟨by rfl, ?_⟩) ?_ ?_
    rotate_left
    · intro w'
      go_simp
      with_reducible rfl
    rotate_left
    · simp only [Act.put, List.setIfInBounds_toArray, List.set_cons_zero, List.set_cons_succ, i64_w, i32_w]
      rfl
    refine pure_ (i := 12) (N := some 61) (v := ?_) (a' := ?_) #[true, true, true, true, true, true, true, true, true, true, true, true, true, false, false, false, false, false, false, false, false, false, false, false, false, false, false, false, false, false, false, false, false] rfl rfl (by kernel_rfl) (fun _ _ _ h => h) (Or.inl ⟨by rfl, ?_⟩) ?_ ?_
    rotate_left
    · intro w'
      go_simp
      with_reducible rfl
    rotate_left
    · simp only [Act.put, List.setIfInBounds_toArray, List.set_cons_zero, List.set_cons_succ, i64_w, i32_w]
      rfl
    refine pure_ (i := 13) (N := some 62) (v := ?_) (a' := ?_) #[true, true, true, true, true, true, true, true, true, true, true, true, true, true, false, false, false, false, false, false, false, false, false, false, false, false, false, false, false, false, false, false, false] rfl rfl (by kernel_rfl) (fun _ _ _ h => h) (Or.inl ⟨by rfl, ?_⟩) ?_ ?_
    rotate_left
    · intro w'
      go_simp
      with_reducible rfl
    rotate_left
    · simp only [Act.put, List.setIfInBounds_toArray, List.set_cons_zero, List.set_cons_succ, i64_w, i32_w]
      rfl
    refine one_ (i := 14) (N := some 63) #[true, true, true, true, true, true, true, true, true, true, true, true, true, true, true, false, false, false, false, false, false, false, false, false, false, false, false, false, false, false, false, false, false] rfl rfl (by kernel_rfl) (by decide) (fun K hK => ?_)
    refine goes_ Tryd.func12 (by kernel_rfl) rfl #[.nilIface] (by rfl) rfl rfl (by simp only [List.map_toArray, List.map_cons, List.map_nil]; rfl) ?_
    with_reducible refine (code_nil _).mono ?_
    rintro e w22 ⟨rfl, hd⟩
    refine ⟨_, rfl, ?_⟩
    have Hw22 := Lib.hid (Hw21.out.trans (hd.mono Hw21.out.size))
    clear hd
    refine hK.out _ _ ⟨(hV Hw22.out).1, (hV Hw22.out).2.1, (hV Hw22.out).2.2.1, (hV Hw22.out).2.2.2, (hA Hw22.out).1, (hA Hw22.out).2.1, (hA Hw22.out).2.2.1, (hA Hw22.out).2.2.2⟩ (fun hHeld => ?_)
    clear hK K
    refine norm_ (a' := ?_) ?_ ?_
    rotate_left
    · show Act.put _ (some 63) _ = _
      simp only [Act.put, List.setIfInBounds_toArray, List.set_cons_zero, List.set_cons_succ, i64_w, i32_w]
      rfl
    refine pure_ (i := 15) (N := some 64) (v := ?_) (a' := ?_) #[true, true, true, true, true, true, true, true, true, true, true, true, true, true, true, true, false, false, false, false, false, false, false, false, false, false, false, false, false, false, false, false, false] rfl rfl (by kernel_rfl) (fun _ _ _ h => h) (Or.inl ⟨by rfl, ?_⟩) ?_ ?_
    rotate_left
    · intro w'
      go_simp
      with_reducible rfl
    rotate_left
    · simp only [Act.put, List.setIfInBounds_toArray, List.set_cons_zero, List.set_cons_succ, i64_w, i32_w]
      rfl
    refine pure_ (i := 16) (N := some 65) (v := ?_) (a' := ?_) #[true, true, true, true, true, true, true, true, true, true, true, true, true, true, true, true, true, false, false, false, false, false, false, false, false, false, false, false, false, false, false, false, false] rfl rfl (by kernel_rfl) (fun _ _ _ h => h) (Or.inl ⟨by rfl, ?_⟩) ?_ ?_
    rotate_left
    · intro w'
      go_simp
      with_reducible rfl
    rotate_left
    · simp only [Act.put, List.setIfInBounds_toArray, List.set_cons_zero, List.set_cons_succ, i64_w, i32_w]
      rfl
    refine pure_ (i := 17) (N := some 66) (v := ?_) (a' := ?_) #[true, true, true, true, true, true, true, true, true, true, true, true, true, true, true, true, true, true, false, false, false, false, false, false, false, false, false, false, false, false, false, false, false] rfl rfl (by kernel_rfl) (fun _ _ _ h => h) (Or.inl ⟨by rfl, ?_⟩) ?_ ?_
    rotate_left
    · intro w'
      go_simp
      with_reducible rfl
    rotate_left
    · simp only [Act.put, List.setIfInBounds_toArray, List.set_cons_zero, List.set_cons_succ, i64_w, i32_w]
      rfl
    refine pure_ (i := 18) (N := some 67) (v := undef) (a' := ?_) #[true, true, true, true, true, true, true, true, true, true, true, true, true, true, true, true, true, true, true, false, false, false, false, false, false, false, false, false, false, false, false, false, false] rfl rfl (by kernel_rfl) (fun _ _ _ h => h) (Or.inr ⟨by rfl, rfl⟩) ?_ ?_
    rotate_left
    · simp only [Act.put, List.setIfInBounds_toArray, List.set_cons_zero, List.set_cons_succ, i64_w, i32_w]
      rfl
    refine pure_ (i := 19) (N := some 68) (v := undef) (a' := ?_) #[true, true, true, true, true, true, true, true, true, true, true, true, true, true, true, true, true, true, true, true, false, false, false, false, false, false, false, false, false, false, false, false, false] rfl rfl (by kernel_rfl) (fun _ _ _ h => h) (Or.inr ⟨by rfl, rfl⟩) ?_ ?_
    rotate_left
    · simp only [Act.put, List.setIfInBounds_toArray, List.set_cons_zero, List.set_cons_succ, i64_w, i32_w]
      rfl
    refine pure_ (i := 20) (N := some 69) (v := undef) (a' := ?_) #[true, true, true, true, true, true, true, true, true, true, true, true, true, true, true, true, true, true, true, true, true, false, false, false, false, false, false, false, false, false, false, false, false] rfl rfl (by kernel_rfl) (fun _ _ _ h => h) (Or.inr ⟨by rfl, rfl⟩) ?_ ?_
    rotate_left
    · simp only [Act.put, List.setIfInBounds_toArray, List.set_cons_zero, List.set_cons_succ, i64_w, i32_w]
      rfl
    refine pure_ (i := 21) (N := some 70) (v := undef) (a' := ?_) #[true, true, true, true, true, true, true, true, true, true, true, true, true, true, true, true, true, true, true, true, true, true, false, false, false, false, false, false, false, false, false, false, false] rfl rfl (by kernel_rfl) (fun _ _ _ h => h) (Or.inr ⟨by rfl, rfl⟩) ?_ ?_
    rotate_left
    · simp only [Act.put, List.setIfInBounds_toArray, List.set_cons_zero, List.set_cons_succ, i64_w, i32_w]
      rfl
    refine pure_ (i := 22) (N := some 71) (v := undef) (a' := ?_) #[true, true, true, true, true, true, true, true, true, true, true, true, true, true, true, true, true, true, true, true, true, true, true, false, false, false, false, false, false, false, false, false, false] rfl rfl (by kernel_rfl) (fun _ _ _ h => h) (Or.inr ⟨by rfl, rfl⟩) ?_ ?_
    rotate_left
    · simp only [Act.put, List.setIfInBounds_toArray, List.set_cons_zero, List.set_cons_succ, i64_w, i32_w]
      rfl
    refine pure_ (i := 23) (N := some 72) (v := undef) (a' := ?_) #[true, true, true, true, true, true, true, true, true, true, true, true, true, true, true, true, true, true, true, true, true, true, true, true, false, false, false, false, false, false, false, false, false] rfl rfl (by kernel_rfl) (fun _ _ _ h => h) (Or.inr ⟨by rfl, rfl⟩) ?_ ?_
    rotate_left
    · simp only [Act.put, List.setIfInBounds_toArray, List.set_cons_zero, List.set_cons_succ, i64_w, i32_w]
      rfl
    refine pure_ (i := 24) (N := some 73) (v := undef) (a' := ?_) #[true, true, true, true, true, true, true, true, true, true, true, true, true, true, true, true, true, true, true, true, true, true, true, true, true, false, false, false, false, false, false, false, false] rfl rfl (by kernel_rfl) (fun _ _ _ h => h) (Or.inr ⟨by rfl, rfl⟩) ?_ ?_
    rotate_left
    · simp only [Act.put, List.setIfInBounds_toArray, List.set_cons_zero, List.set_cons_succ, i64_w, i32_w]
      rfl
    refine pure_ (i := 25) (N := some 74) (v := undef) (a' := ?_) #[true, true, true, true, true, true, true, true, true, true, true, true, true, true, true, true, true, true, true, true, true, true, true, true, true, true, false, false, false, false, false, false, false] rfl rfl (by kernel_rfl) (fun _ _ _ h => h) (Or.inr ⟨by rfl, rfl⟩) ?_ ?_
    rotate_left
    · simp only [Act.put, List.setIfInBounds_toArray, List.set_cons_zero, List.set_cons_succ, i64_w, i32_w]
      rfl
    refine pure_ (i := 26) (N := some 75) (v := undef) (a' := ?_) #[true, true, true, true, true, true, true, true, true, true, true, true, true, true, true, true, true, true, true, true, true, true, true, true, true, true, true, false, false, false, false, false, false] rfl rfl (by kernel_rfl) (fun _ _ _ h => h) (Or.inr ⟨by rfl, rfl⟩) ?_ ?_
    rotate_left
    · simp only [Act.put, List.setIfInBounds_toArray, List.set_cons_zero, List.set_cons_succ, i64_w, i32_w]
      rfl
    refine pure_ (i := 27) (N := some 76) (v := undef) (a' := ?_) #[true, true, true, true, true, true, true, true, true, true, true, true, true, true, true, true, true, true, true, true, true, true, true, true, true, true, true, true, false, false, false, false, false] rfl rfl (by kernel_rfl) (fun _ _ _ h => h) (Or.inr ⟨by rfl, rfl⟩) ?_ ?_
    rotate_left
    · simp only [Act.put, List.setIfInBounds_toArray, List.set_cons_zero, List.set_cons_succ, i64_w, i32_w]
      rfl
    refine pure_ (i := 28) (N := some 77) (v := undef) (a' := ?_) #[true, true, true, true, true, true, true, true, true, true, true, true, true, true, true, true, true, true, true, true, true, true, true, true, true, true, true, true, true, false, false, false, false] rfl rfl (by kernel_rfl) (fun _ _ _ h => h) (Or.inr ⟨by rfl, rfl⟩) ?_ ?_
    rotate_left
    · simp only [Act.put, List.setIfInBounds_toArray, List.set_cons_zero, List.set_cons_succ, i64_w, i32_w]
      rfl
    refine pure_ (i := 29) (N := some 78) (v := undef) (a' := ?_) #[true, true, true, true, true, true, true, true, true, true, true, true, true, true, true, true, true, true, true, true, true, true, true, true, true, true, true, true, true, true, false, false, false] rfl rfl (by kernel_rfl) (fun _ _ _ h => h) (Or.inr ⟨by rfl, rfl⟩) ?_ ?_
    rotate_left
    · simp only [Act.put, List.setIfInBounds_toArray, List.set_cons_zero, List.set_cons_succ, i64_w, i32_w]
      rfl
    refine pure_ (i := 30) (N := some 79) (v := ?_) (a' := ?_) #[true, true, true, true, true, true, true, true, true, true, true, true, true, true, true, true, true, true, true, true, true, true, true, true, true, true, true, true, true, true, true, false, false] rfl rfl (by kernel_rfl) (fun _ _ _ h => h) (Or.inl ⟨by rfl, ?_⟩) ?_ ?_
    rotate_left
    · intro w'
      go_simp
      with_reducible rfl
    rotate_left
    · simp only [Act.put, List.setIfInBounds_toArray, List.set_cons_zero, List.set_cons_succ, i64_w, i32_w]
      rfl
    refine pure_ (i := 31) (N := some 80) (v := ?_) (a' := ?_) #[true, true, true, true, true, true, true, true, true, true, true, true, true, true, true, true, true, true, true, true, true, true, true, true, true, true, true, true, true, true, true, true, false] rfl rfl (by kernel_rfl) (fun _ _ _ h => h) (Or.inl ⟨by rfl, ?_⟩) ?_ ?_
    rotate_left
    · intro w'
      go_simp
      with_reducible rfl
    rotate_left
    · simp only [Act.put, List.setIfInBounds_toArray, List.set_cons_zero, List.set_cons_succ, i64_w, i32_w]
      rfl
    refine pure_ (i := 32) (N := some 6) (v := ?_) (a' := ?_) #[true, true, true, true, true, true, true, true, true, true, true, true, true, true, true, true, true, true, true, true, true, true, true, true, true, true, true, true, true, true, true, true, true] rfl rfl (by kernel_rfl) (fun _ _ _ h => h) (Or.inl ⟨by rfl, ?_⟩) ?_ ?_
    rotate_left
    · intro w'
      go_simp
      with_reducible rfl
    rotate_left
    · simp only [Act.put, List.setIfInBounds_toArray, List.set_cons_zero, List.set_cons_succ, i64_w, i32_w]
      rfl
    refine done_ (by kernel_rfl) ?_

    go_wp2_with fail
    go_ret
    exact ⟨rfl, HX11.out.trans (Hw22.out.mono HX11.out.size)⟩
  · have hne : y2 ≠ P.1[j]'(by rw [P.2]; exact hj64) := by
      rw [HB0.out]
      intro e
      exact hbz (HY2.out.1 e)
    obtain ⟨hz, hbad⟩ : slotOf P2 = Sl.zero ∧ slotBad P2 = 12 := by
      rw [← HP2.out]
      have hp := HP.out
      have key := lay_byte (s := ⟨g, x, y, z⟩) HRt.out j hj64 y2
      rw [show (Sl.mk g x y z).lay = P from hp] at key
      exact key hne
    rw [hz, hbad] at he2
    rw [hz]
    obtain ⟨T, u, rfl, hie⟩ := he2 (by show ¬ (0 : Int) < 0; omega)
    have HI10 := Lib.hid hie
    have c0 : (b == 0) = false := beq_eq_false_iff_ne.2 hbz
    have c0' : (b != 0) = true := by rw [bne, c0]; rfl
    clear he1 he2 hsl hie hne hz hbad
    have hb11 : Below w10.heap.size w10 (w10.alloc (Obj.cells (slA 0 0 0 0) 35 (0, 0))) := (Below.refl _ _).alloc (Nat.le_refl _) _
    have HA11 := blk_to HA10 hb11
    have HX11 := below_to HX10 (Nat.le_refl _) hb11
    have HV11 := blk_to HV10 hb11
    have HI11 := Lib.hid (HI10.out.on hb11)
    have HU11 := Lib.hid (heap_alloc_last w10 (Obj.cells (slA 0 0 0 0) 35 (0, 0)))
    go_wp2_with (first
      | (refine wl_allocS rfl rfl ?_)
      | (refine wl_storeSn 0 0 0 0 0 0 0 0 rfl _ _ rfl rfl rfl ?_))
    obtain ⟨U, hU⟩ : ∃ U, w10.heap.size = U := ⟨_, rfl⟩
    rw [hU] at HU11
    simp only [hU]
    generalize (w10.alloc (Obj.cells (slA 0 0 0 0) 35 (0, 0))) = w11 at *
    clear hU hb11 HA10 HX10 HV10 HI10
    have HD := Lib.hid (show Below w11.heap.size w11 w11.drew from (Below.refl _ _).drew)
    have hA := fun {w' : World} (k : Below w11.heap.size w11 w') => rs_keep HA11.out k
    have hV := fun {w' : World} (k : Below w11.heap.size w11 w') => sl_keep HV11.out k
    have hU := fun {w' : World} (k : Below w11.heap.size w11 w') => sl_keep HU11.out k
    have hI := fun {w' : World} (k : Below w11.heap.size w11 w') => HI11.out.on k
    have hL := fun {w' : World} (k : Below w11.heap.size w11 w') => hg.out.on (HX11.out.trans (k.mono HX11.out.size))
    refine start_ (n := 33) (S := fun w' => w'.cell? ⟨V, 0, none⟩ = some (.int .u32 g) ∧ w'.cell? ⟨V, 1, none⟩ = some (.int .i64 x) ∧ w'.cell? ⟨V, 2, none⟩ = some (.int .i64 y) ∧ w'.cell? ⟨V, 3, none⟩ = some (.int .u32 z) ∧ w'.cell? ⟨B, 0, none⟩ = some (.int .u32 g) ∧ w'.cell? ⟨B, 1, none⟩ = some (.int .i64 x) ∧ w'.cell? ⟨B, 2, none⟩ = some (.int .i64 y) ∧ w'.cell? ⟨B, 3, none⟩ = some (.int .u32 z) ∧ w'.cell? ⟨U, 0, none⟩ = some (.int .u32 0) ∧ w'.cell? ⟨U, 1, none⟩ = some (.int .i64 0) ∧ w'.cell? ⟨U, 2, none⟩ = some (.int .i64 0) ∧ w'.cell? ⟨U, 3, none⟩ = some (.int .u32 0)) (ds := []) #[false, false, false, false, false, false, false, false, false, false, false, false, false, false, false, false, false, false, false, false, false, false, false, false, false, false, false, false, false, false, false, false, false] (by kernel_rfl) rfl rfl ⟨(hV HD.out).1, (hV HD.out).2.1, (hV HD.out).2.2.1, (hV HD.out).2.2.2, (hA HD.out).1, (hA HD.out).2.1, (hA HD.out).2.2.1, (hA HD.out).2.2.2, (hU HD.out).1, (hU HD.out).2.1, (hU HD.out).2.2.1, (hU HD.out).2.2.2⟩ (fun hHeld => ?_)
    refine pure_ (i := 0) (N := some 49) (v := ?_) (a' := ?_) #[true, false, false, false, false, false, false, false, false, false, false, false, false, false, false, false, false, false, false, false, false, false, false, false, false, false, false, false, false, false, false, false, false] rfl rfl (by kernel_rfl) (fun _ _ _ h => h) (Or.inl ⟨by rfl, ?_⟩) ?_ ?_
    rotate_left
    · intro w'
      go_simp
      with_reducible rfl
    rotate_left
    · simp only [Act.put, List.setIfInBounds_toArray, List.set_cons_zero, List.set_cons_succ, i64_w, i32_w]
      rfl
    refine one_ (i := 1) (N := some 50) #[true, true, false, false, false, false, false, false, false, false, false, false, false, false, false, false, false, false, false, false, false, false, false, false, false, false, false, false, false, false, false, false, false] rfl rfl (by kernel_rfl) (by decide) (fun K hK => ?_)
    refine goes_ Tryd.func12 (by kernel_rfl) rfl #[.nilIface] (by rfl) rfl rfl (by simp only [List.map_toArray, List.map_cons, List.map_nil]; rfl) ?_
    with_reducible refine (code_nil _).mono ?_
    rintro e w20 ⟨rfl, hd⟩
    refine ⟨_, rfl, ?_⟩
    have Hw20 := Lib.hid (HD.out.trans (hd.mono HD.out.size))
    clear hd
    refine hK.out _ _ ⟨(hV Hw20.out).1, (hV Hw20.out).2.1, (hV Hw20.out).2.2.1, (hV Hw20.out).2.2.2, (hA Hw20.out).1, (hA Hw20.out).2.1, (hA Hw20.out).2.2.1, (hA Hw20.out).2.2.2, (hU Hw20.out).1, (hU Hw20.out).2.1, (hU Hw20.out).2.2.1, (hU Hw20.out).2.2.2⟩ (fun hHeld => ?_)
    clear hK K
    refine norm_ (a' := ?_) ?_ ?_
    rotate_left
    · show Act.put _ (some 50) _ = _
      simp only [Act.put, List.setIfInBounds_toArray, List.set_cons_zero, List.set_cons_succ, i64_w, i32_w]
      rfl
    refine pure_ (i := 2) (N := some 51) (v := ?_) (a' := ?_) #[true, true, true, false, false, false, false, false, false, false, false, false, false, false, false, false, false, false, false, false, false, false, false, false, false, false, false, false, false, false, false, false, false] rfl rfl (by kernel_rfl) (fun _ _ _ h => h) (Or.inl ⟨by rfl, ?_⟩) ?_ ?_
    rotate_left
    · intro w'
      go_simp
      with_reducible rfl
    rotate_left
    · simp only [Act.put, List.setIfInBounds_toArray, List.set_cons_zero, List.set_cons_succ, i64_w, i32_w]
      rfl
    refine pure_ (i := 3) (N := some 52) (v := ?_) (a' := ?_) #[true, true, true, true, false, false, false, false, false, false, false, false, false, false, false, false, false, false, false, false, false, false, false, false, false, false, false, false, false, false, false, false, false] rfl rfl (by kernel_rfl) (fun _ _ _ h => h) (Or.inl ⟨by rfl, ?_⟩) ?_ ?_
    rotate_left
    · intro w'
      go_simp
      with_reducible rfl
    rotate_left
    · simp only [Act.put, List.setIfInBounds_toArray, List.set_cons_zero, List.set_cons_succ, i64_w, i32_w]
      rfl
    refine take_ (i := 4) (N := some 53) (v := ?_) (a' := ?_) #[true, true, true, true, true, false, false, false, false, false, false, false, false, false, false, false, false, false, false, false, false, false, false, false, false, false, false, false, false, false, false, false, false] rfl rfl (by kernel_rfl) (fun _ _ _ h => h) (Or.inl ⟨by rfl, ?_⟩) hHeld ?_ ?_
    rotate_left
    · rintro w' ⟨s0, s1, s2, s3, s4, s5, s6, s7, s8, s9, s10, s11⟩
      go_simp
      with_reducible rfl
    rotate_left
    · simp only [Act.put, List.setIfInBounds_toArray, List.set_cons_zero, List.set_cons_succ, i64_w, i32_w]
      rfl
    refine take_ (i := 6) (N := some 55) (v := ?_) (a' := ?_) #[true, true, true, true, true, false, true, false, false, false, false, false, false, false, false, false, false, false, false, false, false, false, false, false, false, false, false, false, false, false, false, false, false] rfl rfl (by kernel_rfl) (fun _ _ _ h => h) (Or.inl ⟨by rfl, ?_⟩) hHeld ?_ ?_
    rotate_left
    · rintro w' ⟨s0, s1, s2, s3, s4, s5, s6, s7, s8, s9, s10, s11⟩
      go_simp
      with_reducible rfl
    rotate_left
    · simp only [Act.put, List.setIfInBounds_toArray, List.set_cons_zero, List.set_cons_succ, i64_w, i32_w]
      rfl
    refine one_ (i := 5) (N := some 54) #[true, true, true, true, true, true, true, false, false, false, false, false, false, false, false, false, false, false, false, false, false, false, false, false, false, false, false, false, false, false, false, false, false] rfl rfl (by kernel_rfl) (by decide) (fun K hK => ?_)
    refine goes_ Tryd.func14 (by kernel_rfl) rfl #[.agg (slA g x y z)] (by rfl) rfl rfl (by simp only [List.map_toArray, List.map_cons, List.map_nil]; rfl) ?_
    with_reducible refine (plain_c g x y z _).mono ?_
    rintro e w21 ⟨rfl, hd⟩
    refine ⟨_, rfl, ?_⟩
    have Hw21 := Lib.hid (Hw20.out.trans (hd.mono Hw20.out.size))
    clear hd
    refine hK.out _ _ ⟨(hV Hw21.out).1, (hV Hw21.out).2.1, (hV Hw21.out).2.2.1, (hV Hw21.out).2.2.2, (hA Hw21.out).1, (hA Hw21.out).2.1, (hA Hw21.out).2.2.1, (hA Hw21.out).2.2.2, (hU Hw21.out).1, (hU Hw21.out).2.1, (hU Hw21.out).2.2.1, (hU Hw21.out).2.2.2⟩ (fun hHeld => ?_)
    clear hK K
    refine norm_ (a' := ?_) ?_ ?_
    rotate_left
    · show Act.put _ (some 54) _ = _
      simp only [Act.put, List.setIfInBounds_toArray, List.set_cons_zero, List.set_cons_succ, i64_w, i32_w]
      rfl
    refine pure_ (i := 7) (N := some 56) (v := ?_) (a' := ?_) #[true, true, true, true, true, true, true, true, false, false, false, false, false, false, false, false, false, false, false, false, false, false, false, false, false, false, false, false, false, false, false, false, false] rfl rfl (by kernel_rfl) (fun _ _ _ h => h) (Or.inl ⟨by rfl, ?_⟩) ?_ ?_
    rotate_left
    · intro w'
      refine exec_eqR (x := .tmp 54) (y := .tmp 55) ?_ ?_ ?_ hqq
      · rfl
      · rfl
      · rfl
    rotate_left
    · simp only [Act.put, List.setIfInBounds_toArray, List.set_cons_zero, List.set_cons_succ, i64_w, i32_w]
      rfl
    refine pure_ (i := 8) (N := some 57) (v := ?_) (a' := ?_) #[true, true, true, true, true, true, true, true, true, false, false, false, false, false, false, false, false, false, false, false, false, false, false, false, false, false, false, false, false, false, false, false, false] rfl rfl (by kernel_rfl) (fun _ _ _ h => h) (Or.inl ⟨by rfl, ?_⟩) ?_ ?_
    rotate_left
    · intro w'
      go_simp
      with_reducible rfl
    rotate_left
    · simp only [Act.put, List.setIfInBounds_toArray, List.set_cons_zero, List.set_cons_succ, i64_w, i32_w]
      rfl
    refine pure_ (i := 9) (N := some 58) (v := ?_) (a' := ?_) #[true, true, true, true, true, true, true, true, true, true, false, false, false, false, false, false, false, false, false, false, false, false, false, false, false, false, false, false, false, false, false, false, false] rfl rfl (by kernel_rfl) (fun _ _ _ h => h) (Or.inl ⟨by rfl, ?_⟩) ?_ ?_
    rotate_left
    · intro w'
      go_simp
      with_reducible rfl
    rotate_left
    · simp only [Act.put, List.setIfInBounds_toArray, List.set_cons_zero, List.set_cons_succ, i64_w, i32_w]
      rfl
    refine pure_ (i := 10) (N := some 59) (v := ?_) (a' := ?_) #[true, true, true, true, true, true, true, true, true, true, true, false, false, false, false, false, false, false, false, false, false, false, false, false, false, false, false, false, false, false, false, false, false] rfl rfl (by kernel_rfl) (fun _ _ _ h => h) (Or.inl ⟨by rfl, ?_⟩) ?_ ?_
    rotate_left
    · intro w'
      go_simp
      with_reducible rfl
    rotate_left
    · simp only [Act.put, List.setIfInBounds_toArray, List.set_cons_zero, List.set_cons_succ, i64_w, i32_w]
      rfl
    refine pure_ (i := 11) (N := some 60) (v := ?_) (a' := ?_) #[true, true, true, true, true, true, true, true, true, true, true, true, false, false, false, false, false, false, false, false, false, false, false, false, false, false, false, false, false, false, false, false, false] rfl rfl (by kernel_rfl) (fun _ _ _ h => h) (Or.inl ⟨by rfl, ?_⟩) ?_ ?_
    rotate_left
    · intro w'
      go_simp
      with_reducible rfl
    rotate_left
    · simp only [Act.put, List.setIfInBounds_toArray, List.set_cons_zero, List.set_cons_succ, i64_w, i32_w]
      rfl
    refine pure_ (i := 12) (N := some 61) (v := ?_) (a' := ?_) #[true, true, true, true, true, true, true, true, true, true, true, true, true, false, false, false, false, false, false, false, false, false, false, false, false, false, false, false, false, false, false, false, false] rfl rfl (by kernel_rfl) (fun _ _ _ h => h) (Or.inl ⟨by rfl, ?_⟩) ?_ ?_
    rotate_left
    · intro w'
      go_simp
      with_reducible rfl
    rotate_left
    · simp only [Act.put, List.setIfInBounds_toArray, List.set_cons_zero, List.set_cons_succ, i64_w, i32_w]
      rfl
    refine pure_ (i := 13) (N := some 62) (v := undef) (a' := ?_) #[true, true, true, true, true, true, true, true, true, true, true, true, true, true, false, false, false, false, false, false, false, false, false, false, false, false, false, false, false, false, false, false, false] rfl rfl (by kernel_rfl) (fun _ _ _ h => h) (Or.inr ⟨by rfl, rfl⟩) ?_ ?_
    rotate_left
    · simp only [Act.put, List.setIfInBounds_toArray, List.set_cons_zero, List.set_cons_succ, i64_w, i32_w]
      rfl
    refine pure_ (i := 14) (N := some 63) (v := undef) (a' := ?_) #[true, true, true, true, true, true, true, true, true, true, true, true, true, true, true, false, false, false, false, false, false, false, false, false, false, false, false, false, false, false, false, false, false] rfl rfl (by kernel_rfl) (fun _ _ _ h => h) (Or.inr ⟨by rfl, rfl⟩) ?_ ?_
    rotate_left
    · simp only [Act.put, List.setIfInBounds_toArray, List.set_cons_zero, List.set_cons_succ, i64_w, i32_w]
      rfl
    refine pure_ (i := 15) (N := some 64) (v := undef) (a' := ?_) #[true, true, true, true, true, true, true, true, true, true, true, true, true, true, true, true, false, false, false, false, false, false, false, false, false, false, false, false, false, false, false, false, false] rfl rfl (by kernel_rfl) (fun _ _ _ h => h) (Or.inr ⟨by rfl, rfl⟩) ?_ ?_
    rotate_left
    · simp only [Act.put, List.setIfInBounds_toArray, List.set_cons_zero, List.set_cons_succ, i64_w, i32_w]
      rfl
    refine pure_ (i := 16) (N := some 65) (v := ?_) (a' := ?_) #[true, true, true, true, true, true, true, true, true, true, true, true, true, true, true, true, true, false, false, false, false, false, false, false, false, false, false, false, false, false, false, false, false] rfl rfl (by kernel_rfl) (fun _ _ _ h => h) (Or.inl ⟨by rfl, ?_⟩) ?_ ?_
    rotate_left
    · intro w'
      go_simp
      with_reducible rfl
    rotate_left
    · simp only [Act.put, List.setIfInBounds_toArray, List.set_cons_zero, List.set_cons_succ, i64_w, i32_w]
      rfl
    refine pure_ (i := 17) (N := some 66) (v := ?_) (a' := ?_) #[true, true, true, true, true, true, true, true, true, true, true, true, true, true, true, true, true, true, false, false, false, false, false, false, false, false, false, false, false, false, false, false, false] rfl rfl (by kernel_rfl) (fun _ _ _ h => h) (Or.inl ⟨by rfl, ?_⟩) ?_ ?_
    rotate_left
    · intro w'
      go_simp
      with_reducible rfl
    rotate_left
    · simp only [Act.put, List.setIfInBounds_toArray, List.set_cons_zero, List.set_cons_succ, i64_w, i32_w]
      rfl
    refine pure_ (i := 18) (N := some 67) (v := ?_) (a' := ?_) #[true, true, true, true, true, true, true, true, true, true, true, true, true, true, true, true, true, true, true, false, false, false, false, false, false, false, false, false, false, false, false, false, false] rfl rfl (by kernel_rfl) (fun _ _ _ h => h) (Or.inl ⟨by rfl, ?_⟩) ?_ ?_
    rotate_left
    · intro w'
      go_simp
      with_reducible rfl
    rotate_left
    · simp only [Act.put, List.setIfInBounds_toArray, List.set_cons_zero, List.set_cons_succ, i64_w, i32_w]
      rfl
    refine pure_ (i := 19) (N := some 68) (v := ?_) (a' := ?_) #[true, true, true, true, true, true, true, true, true, true, true, true, true, true, true, true, true, true, true, true, false, false, false, false, false, false, false, false, false, false, false, false, false] rfl rfl (by kernel_rfl) (fun _ _ _ h => h) (Or.inl ⟨by rfl, ?_⟩) ?_ ?_
    rotate_left
    · intro w'
      go_simp
      with_reducible rfl
    rotate_left
    · simp only [Act.put, List.setIfInBounds_toArray, List.set_cons_zero, List.set_cons_succ, i64_w, i32_w]
      rfl
    refine pure_ (i := 20) (N := some 69) (v := ?_) (a' := ?_) #[true, true, true, true, true, true, true, true, true, true, true, true, true, true, true, true, true, true, true, true, true, false, false, false, false, false, false, false, false, false, false, false, false] rfl rfl (by kernel_rfl) (fun _ _ _ h => h) (Or.inl ⟨by rfl, ?_⟩) ?_ ?_
    rotate_left
    · intro w'
      go_simp
      with_reducible rfl
    rotate_left
    · simp only [Act.put, List.setIfInBounds_toArray, List.set_cons_zero, List.set_cons_succ, i64_w, i32_w]
      rfl
    refine pure_ (i := 21) (N := some 70) (v := ?_) (a' := ?_) #[true, true, true, true, true, true, true, true, true, true, true, true, true, true, true, true, true, true, true, true, true, true, false, false, false, false, false, false, false, false, false, false, false] rfl rfl (by kernel_rfl) (fun _ _ _ h => h) (Or.inl ⟨by rfl, ?_⟩) ?_ ?_
    rotate_left
    · intro w'
      go_simp
      with_reducible rfl
    rotate_left
    · simp only [Act.put, List.setIfInBounds_toArray, List.set_cons_zero, List.set_cons_succ, i64_w, i32_w]
      rfl
    refine one_ (i := 22) (N := some 71) #[true, true, true, true, true, true, true, true, true, true, true, true, true, true, true, true, true, true, true, true, true, true, true, false, false, false, false, false, false, false, false, false, false] rfl rfl (by kernel_rfl) (by decide) (fun K hK => ?_)
    refine goes_ Tryd.func12 (by kernel_rfl) rfl #[.iface T u] (by rfl) rfl rfl (by simp only [List.map_toArray, List.map_cons, List.map_nil]; rfl) ?_
    with_reducible refine (code_c _ 12 _ (Lib.hid (hI Hw21.out)) (Lib.hid (hL Hw21.out))).mono ?_
    rintro e w22 ⟨rfl, hd⟩
    refine ⟨_, rfl, ?_⟩
    have Hw22 := Lib.hid (Hw21.out.trans (hd.mono Hw21.out.size))
    clear hd
    refine hK.out _ _ ⟨(hV Hw22.out).1, (hV Hw22.out).2.1, (hV Hw22.out).2.2.1, (hV Hw22.out).2.2.2, (hA Hw22.out).1, (hA Hw22.out).2.1, (hA Hw22.out).2.2.1, (hA Hw22.out).2.2.2, (hU Hw22.out).1, (hU Hw22.out).2.1, (hU Hw22.out).2.2.1, (hU Hw22.out).2.2.2⟩ (fun hHeld => ?_)
    clear hK K
    refine norm_ (a' := ?_) ?_ ?_
    rotate_left
    · show Act.put _ (some 71) _ = _
      simp only [Act.put, List.setIfInBounds_toArray, List.set_cons_zero, List.set_cons_succ, i64_w, i32_w]
      rfl
    refine pure_ (i := 23) (N := some 72) (v := ?_) (a' := ?_) #[true, true, true, true, true, true, true, true, true, true, true, true, true, true, true, true, true, true, true, true, true, true, true, true, false, false, false, false, false, false, false, false, false] rfl rfl (by kernel_rfl) (fun _ _ _ h => h) (Or.inl ⟨by rfl, ?_⟩) ?_ ?_
    rotate_left
    · intro w'
      go_simp
      with_reducible rfl
    rotate_left
    · simp only [Act.put, List.setIfInBounds_toArray, List.set_cons_zero, List.set_cons_succ, i64_w, i32_w]
      rfl
    refine pure_ (i := 24) (N := some 73) (v := ?_) (a' := ?_) #[true, true, true, true, true, true, true, true, true, true, true, true, true, true, true, true, true, true, true, true, true, true, true, true, true, false, false, false, false, false, false, false, false] rfl rfl (by kernel_rfl) (fun _ _ _ h => h) (Or.inl ⟨by rfl, ?_⟩) ?_ ?_
    rotate_left
    · intro w'
      go_simp
      with_reducible rfl
    rotate_left
    · simp only [Act.put, List.setIfInBounds_toArray, List.set_cons_zero, List.set_cons_succ, i64_w, i32_w]
      rfl
    refine pure_ (i := 25) (N := some 74) (v := ?_) (a' := ?_) #[true, true, true, true, true, true, true, true, true, true, true, true, true, true, true, true, true, true, true, true, true, true, true, true, true, true, false, false, false, false, false, false, false] rfl rfl (by kernel_rfl) (fun _ _ _ h => h) (Or.inl ⟨by rfl, ?_⟩) ?_ ?_
    rotate_left
    · intro w'
      go_simp
      with_reducible rfl
    rotate_left
    · simp only [Act.put, List.setIfInBounds_toArray, List.set_cons_zero, List.set_cons_succ, i64_w, i32_w]
      rfl
    refine pure_ (i := 27) (N := some 76) (v := ?_) (a' := ?_) #[true, true, true, true, true, true, true, true, true, true, true, true, true, true, true, true, true, true, true, true, true, true, true, true, true, true, false, true, false, false, false, false, false] rfl rfl (by kernel_rfl) (fun _ _ _ h => h) (Or.inl ⟨by rfl, ?_⟩) ?_ ?_
    rotate_left
    · intro w'
      go_simp
      with_reducible rfl
    rotate_left
    · simp only [Act.put, List.setIfInBounds_toArray, List.set_cons_zero, List.set_cons_succ, i64_w, i32_w]
      rfl
    refine take_ (i := 26) (N := some 75) (v := ?_) (a' := ?_) #[true, true, true, true, true, true, true, true, true, true, true, true, true, true, true, true, true, true, true, true, true, true, true, true, true, true, true, true, false, false, false, false, false] rfl rfl (by kernel_rfl) (fun _ _ _ h => h) (Or.inl ⟨by rfl, ?_⟩) hHeld ?_ ?_
    rotate_left
    · rintro w' ⟨s0, s1, s2, s3, s4, s5, s6, s7, s8, s9, s10, s11⟩
      go_simp
      with_reducible rfl
    rotate_left
    · simp only [Act.put, List.setIfInBounds_toArray, List.set_cons_zero, List.set_cons_succ, i64_w, i32_w]
      rfl
    refine pure_ (i := 28) (N := some 77) (v := ?_) (a' := ?_) #[true, true, true, true, true, true, true, true, true, true, true, true, true, true, true, true, true, true, true, true, true, true, true, true, true, true, true, true, true, false, false, false, false] rfl rfl (by kernel_rfl) (fun _ _ _ h => h) (Or.inl ⟨by rfl, ?_⟩) ?_ ?_
    rotate_left
    · intro w'
      refine exec_eqS (x := .tmp 75) (y := .tmp 76) ?_ ?_ ?_ hzz
      · rfl
      · rfl
      · rfl
    rotate_left
    · simp only [Act.put, List.setIfInBounds_toArray, List.set_cons_zero, List.set_cons_succ, i64_w, i32_w]
      rfl
    refine pure_ (i := 29) (N := some 78) (v := ?_) (a' := ?_) #[true, true, true, true, true, true, true, true, true, true, true, true, true, true, true, true, true, true, true, true, true, true, true, true, true, true, true, true, true, true, false, false, false] rfl rfl (by kernel_rfl) (fun _ _ _ h => h) (Or.inl ⟨by rfl, ?_⟩) ?_ ?_
    rotate_left
    · intro w'
      go_simp
      with_reducible rfl
    rotate_left
    · simp only [Act.put, List.setIfInBounds_toArray, List.set_cons_zero, List.set_cons_succ, i64_w, i32_w]
      rfl
    refine pure_ (i := 30) (N := some 79) (v := ?_) (a' := ?_) #[true, true, true, true, true, true, true, true, true, true, true, true, true, true, true, true, true, true, true, true, true, true, true, true, true, true, true, true, true, true, true, false, false] rfl rfl (by kernel_rfl) (fun _ _ _ h => h) (Or.inl ⟨by rfl, ?_⟩) ?_ ?_
    rotate_left
    · intro w'
      go_simp
      with_reducible rfl
    rotate_left
    · simp only [Act.put, List.setIfInBounds_toArray, List.set_cons_zero, List.set_cons_succ, i64_w, i32_w]
      rfl
    refine pure_ (i := 31) (N := some 80) (v := ?_) (a' := ?_) #[true, true, true, true, true, true, true, true, true, true, true, true, true, true, true, true, true, true, true, true, true, true, true, true, true, true, true, true, true, true, true, true, false] rfl rfl (by kernel_rfl) (fun _ _ _ h => h) (Or.inl ⟨by rfl, ?_⟩) ?_ ?_
    rotate_left
    · intro w'
      go_simp
      with_reducible rfl
    rotate_left
    · simp only [Act.put, List.setIfInBounds_toArray, List.set_cons_zero, List.set_cons_succ, i64_w, i32_w]
      rfl
    refine pure_ (i := 32) (N := some 6) (v := ?_) (a' := ?_) #[true, true, true, true, true, true, true, true, true, true, true, true, true, true, true, true, true, true, true, true, true, true, true, true, true, true, true, true, true, true, true, true, true] rfl rfl (by kernel_rfl) (fun _ _ _ h => h) (Or.inl ⟨by rfl, ?_⟩) ?_ ?_
    rotate_left
    · intro w'
      go_simp
      with_reducible rfl
    rotate_left
    · simp only [Act.put, List.setIfInBounds_toArray, List.set_cons_zero, List.set_cons_succ, i64_w, i32_w]
      rfl
    refine done_ (by kernel_rfl) ?_

    go_wp2_with fail
    go_ret
    exact ⟨rfl, HX11.out.trans (Hw22.out.mono HX11.out.size)⟩
theorem walk (g x y z a b : Int) (W : World) (h1 : Wf g x y z) (ha : (Lit.int .u8 a).wf = true) (hb : (Lit.int .u8 b).wf = true) (hg : Hid (Laid W)) : Calls Tryd.prog 3 #[.agg (slA g x y z), .int .u8 a, .int .u8 b] W fun e w' => e = .returned (.bool true) ∧ Below W.heap.size W w' := by
  have b1 := h1.bounds
  have ha2 : 0 ≤ a ∧ a < 256 := by simp [Lit.wf, IntKind.min, IntKind.max, IntKind.bits, IntKind.signed] at ha; omega
  have hb2 : 0 ≤ b ∧ b < 256 := by simp [Lit.wf, IntKind.min, IntKind.max, IntKind.bits, IntKind.signed] at hb; omega
  cases r1 : rightB g x y z with
  | false => exact no g x y z a b W (Lib.hid r1) hg
  | true => exact yes g x y z a b W (rightB_rt r1 b1.1.2 b1.2.2.2.1 b1.2.2.2.2) ha2 hb2 hg
end Go.Proofs.YtkgiifcbimpcoaaDoor.RowSlotBack

