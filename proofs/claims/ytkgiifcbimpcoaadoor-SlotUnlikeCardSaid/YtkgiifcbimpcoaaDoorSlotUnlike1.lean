/- SlotUnlike, the walk. -/
import Derived.Test.YtkgiifcbimpcoaaDoorSlotCalls
set_option linter.unusedVariables false
set_option linter.unusedSimpArgs false
namespace Go.Proofs.YtkgiifcbimpcoaaDoor.RowSlotUnlike
open Go.RowKit Go.Proofs.YtkgiifcbimpcoaaDoorW.PrintWords Go.Proofs.YtkgiifcbimpcoaaDoorW.PrintLast Go.Proofs.YtkgiifcbimpcoaaDoorW.PrintMore Go.Proofs.YtkgiifcbimpcoaaDoor.Md Go.Proofs.YtkgiifcbimpcoaaDoor.Dk Go.Proofs.YtkgiifcbimpcoaaDoor.Blb Go.Proofs.YtkgiifcbimpcoaaDoor.Slt
open Go.Proofs.YtkgiifcbimpcoaaDoor.Err (Laid IsErr code_nil code_c Chain at_some at_nil)
set_option maxHeartbeats 8000000 in
set_option maxRecDepth 100000 in
theorem both (g x y z g' x' y' z' : Int) (W : World) (h1 : Slt.Rt g x y z) (h2 : Slt.Rt g' x' y' z') (hg : Hid (Laid W)) : Calls Tryd.prog 7 #[.agg (slA g x y z), .agg (slA g' x' y' z')] W fun e w' => e = .returned (.bool true) ∧ Below W.heap.size W w' := by
  have HR1 := Lib.hid h1
  have HR2 := Lib.hid h2
  clear h1 h2
  go_enter Tryd.func7, Tryd.ntmps7
  go_wp2_with fail
  obtain ⟨HA1, HB1, HX1⟩ := alloc2 W (Obj.cells (slA g x y z) 24 (0, 0)) (Obj.cells (slA g' x' y' z') 24 (0, 0))
  obtain ⟨B, hB⟩ : ∃ B, W.heap.size = B := ⟨_, rfl⟩
  rw [hB] at HA1 HB1
  (try rw [alloc_size])
  simp only [hB]
  generalize ((W.alloc (Obj.cells (slA g x y z) 24 (0, 0))).alloc (Obj.cells (slA g' x' y' z') 24 (0, 0))) = w1 at *
  refine (awake_c _ (Lib.hid (hg.out.on HX1.out))).mono ?_
  rintro e w2 ⟨rfl, hd⟩
  have HA2 := blk_to HA1 hd
  have HB2 := blk_to HB1 hd
  have HX2 := below_to HX1 (Nat.le_refl _) hd
  clear hd HA1 HB1 HX1
  obtain ⟨k0, k1, k2, k3⟩ := rs_keep HA2.out (Below.refl w2.heap.size w2)
  go_wp2_with fail
  refine (rright_c g x y z true _ (Lib.hid (rightB_true HR1.out))).mono ?_
  rintro e w3 ⟨rfl, hd⟩
  have HA3 := blk_to HA2 hd
  have HB3 := blk_to HB2 hd
  have HX3 := below_to HX2 (Nat.le_refl _) hd
  clear hd HA2 HB2 HX2 k0 k1 k2 k3
  obtain ⟨k0, k1, k2, k3⟩ := rs_keep HB3.out (Below.refl w3.heap.size w3)
  go_wp2_with fail
  refine (rright_c g' x' y' z' true _ (Lib.hid (rightB_true HR2.out))).mono ?_
  rintro e w4 ⟨rfl, hd⟩
  have HA4 := blk_to HA3 hd
  have HB4 := blk_to HB3 hd
  have HX4 := below_to HX3 (Nat.le_refl _) hd
  clear hd HA3 HB3 HX3 k0 k1 k2 k3
  obtain ⟨k0, k1, k2, k3⟩ := rs_keep HA4.out (Below.refl w4.heap.size w4)
  go_wp2_with fail
  refine (of_c g x y z _).mono ?_
  rintro e w5 ⟨rfl, hd⟩
  have HA5 := blk_to HA4 hd
  have HB5 := blk_to HB4 hd
  have HX5 := below_to HX4 (Nat.le_refl _) hd
  clear hd HA4 HB4 HX4 k0 k1 k2 k3
  go_wp2_with fail
  refine (lay_ok g x y z _ HR1.out).mono ?_
  rintro e w6 ⟨rfl, hd⟩
  have HA6 := blk_to HA5 hd
  have HB6 := blk_to HB5 hd
  have HX6 := below_to HX5 (Nat.le_refl _) hd
  clear hd HA5 HB5 HX5
  obtain ⟨P, hP⟩ : ∃ P, layP g x y z = P := ⟨_, rfl⟩
  have HP := Lib.hid hP
  rw [hP]
  clear hP
  have hb7 : Below w6.heap.size w6 (w6.alloc (Obj.cells (pa P) 27 (0, 0))) := (Below.refl _ _).alloc (Nat.le_refl _) _
  have HA7 := blk_to HA6 hb7
  have HB7 := blk_to HB6 hb7
  have HX7 := below_to HX6 (Nat.le_refl _) hb7
  have HP7 := Lib.hid (heap_alloc_last w6 (Obj.cells (pa P) 27 (0, 0)))
  obtain ⟨k0, k1, k2, k3⟩ := rs_keep HB6.out hb7
  clear hb7 HA6 HB6 HX6
  go_wp2_with (first
    | (refine wl_alloc30 rfl rfl ?_)
    | (refine wl_store30n pz P rfl _ _ rfl rfl rfl ?_))
  obtain ⟨X, hX⟩ : ∃ X, w6.heap.size = X := ⟨_, rfl⟩
  rw [hX] at HP7
  simp only [hX]
  generalize (w6.alloc (Obj.cells (pa P) 27 (0, 0))) = w7 at *
  clear hX k0 k1 k2 k3
  refine (of_c g' x' y' z' _).mono ?_
  rintro e w8 ⟨rfl, hd⟩
  have HA8 := blk_to HA7 hd
  have HB8 := blk_to HB7 hd
  have HP8 := blk_to HP7 hd
  have HX8 := below_to HX7 (Nat.le_refl _) hd
  clear hd HA7 HB7 HX7 HP7
  go_wp2_with fail
  refine (lay_ok g' x' y' z' _ HR2.out).mono ?_
  rintro e w9 ⟨rfl, hd⟩
  have HA9 := blk_to HA8 hd
  have HB9 := blk_to HB8 hd
  have HP9 := blk_to HP8 hd
  have HX9 := below_to HX8 (Nat.le_refl _) hd
  clear hd HA8 HB8 HX8 HP8
  obtain ⟨P', hP'⟩ : ∃ P', layP g' x' y' z' = P' := ⟨_, rfl⟩
  have HP' := Lib.hid hP'
  rw [hP']
  clear hP'
  have hb10 : Below w9.heap.size w9 (w9.alloc (Obj.cells (pa P') 27 (0, 0))) := (Below.refl _ _).alloc (Nat.le_refl _) _
  have HA10 := blk_to HA9 hb10
  have HB10 := blk_to HB9 hb10
  have HP10 := blk_to HP9 hb10
  have HX10 := below_to HX9 (Nat.le_refl _) hb10
  have HQ10 := Lib.hid (heap_alloc_last w9 (Obj.cells (pa P') 27 (0, 0)))
  clear hb10 HA9 HB9 HX9 HP9
  go_wp2_with (first
    | (refine wl_alloc30 rfl rfl ?_)
    | (refine wl_store30n pz P' rfl _ _ rfl rfl rfl ?_))
  obtain ⟨Y, hY⟩ : ∃ Y, w9.heap.size = Y := ⟨_, rfl⟩
  rw [hY] at HQ10
  simp only [hY]
  generalize (w9.alloc (Obj.cells (pa P') 27 (0, 0))) = w10 at *
  clear hY
  have HD := Lib.hid (show Below w10.heap.size w10 w10.drew from (Below.refl _ _).drew)
  have hX := fun {w' : World} (k : Below w10.heap.size w10 w') => (blk_to HP10 k).out
  have hY := fun {w' : World} (k : Below w10.heap.size w10 w') => (blk_to HQ10 k).out
  have hA := fun {w' : World} (k : Below w10.heap.size w10 w') => rs_keep HA10.out k
  have hB2 := fun {w' : World} (k : Below w10.heap.size w10 w') => rs_keep HB10.out k
  obtain ⟨b, hb⟩ : ∃ b, (g == g' && (x == x' && (y == y' && (z == z')))) = b := ⟨_, rfl⟩
  have hp : (P.1 == P'.1) = b := by
    rw [← hb, Bool.eq_iff_iff, beq_iff_eq]
    simp only [Bool.and_eq_true, beq_iff_eq]
    constructor
    · intro e
      have e2 : layP g x y z = layP g' x' y' z' := by rw [HP.out, HP'.out]; exact Subtype.ext e
      exact lay_inj HR1.out HR2.out e2
    · rintro ⟨rfl, rfl, rfl, rfl⟩
      rw [← HP.out, ← HP'.out]
  have hq := hb
  clear hb
  refine start_ (n := 18) (S := fun w' => w'.heap[X]? = some (Obj.cells (pa P) 27 (0, 0)) ∧ w'.heap[Y]? = some (Obj.cells (pa P') 27 (0, 0)) ∧ w'.cell? ⟨B, 0, none⟩ = some (.int .u32 g) ∧ w'.cell? ⟨B, 1, none⟩ = some (.int .i64 x) ∧ w'.cell? ⟨B, 2, none⟩ = some (.int .i64 y) ∧ w'.cell? ⟨B, 3, none⟩ = some (.int .u32 z) ∧ w'.cell? ⟨B + 1, 0, none⟩ = some (.int .u32 g') ∧ w'.cell? ⟨B + 1, 1, none⟩ = some (.int .i64 x') ∧ w'.cell? ⟨B + 1, 2, none⟩ = some (.int .i64 y') ∧ w'.cell? ⟨B + 1, 3, none⟩ = some (.int .u32 z')) (ds := []) #[false, false, false, false, false, false, false, false, false, false, false, false, false, false, false, false, false, false] (by kernel_rfl) rfl rfl ⟨(hX HD.out), (hY HD.out), (hA HD.out).1, (hA HD.out).2.1, (hA HD.out).2.2.1, (hA HD.out).2.2.2, (hB2 HD.out).1, (hB2 HD.out).2.1, (hB2 HD.out).2.2.1, (hB2 HD.out).2.2.2⟩ (fun hHeld => ?_)
  refine pure_ (i := 0) (N := some 34) (v := ?_) (a' := ?_) #[true, false, false, false, false, false, false, false, false, false, false, false, false, false, false, false, false, false] rfl rfl (by kernel_rfl) (fun _ _ _ h => h) (Or.inl ⟨by rfl, ?_⟩) ?_ ?_
  rotate_left
  · intro w'
    go_simp
    with_reducible rfl
  rotate_left
  · simp only [Act.put, List.setIfInBounds_toArray, List.set_cons_zero, List.set_cons_succ, i64_w, i32_w]
    rfl
  refine one_ (i := 1) (N := some 35) #[true, true, false, false, false, false, false, false, false, false, false, false, false, false, false, false, false, false] rfl rfl (by kernel_rfl) (by decide) (fun K hK => ?_)
  refine goes_ Tryd.func12 (by kernel_rfl) rfl #[.nilIface] (by rfl) rfl rfl (by simp only [List.map_toArray, List.map_cons, List.map_nil]; rfl) ?_
  with_reducible refine (code_nil _).mono ?_
  rintro e w20 ⟨rfl, hd⟩
  refine ⟨_, rfl, ?_⟩
  have Hw20 := Lib.hid (HD.out.trans (hd.mono HD.out.size))
  clear hd
  refine hK.out _ _ ⟨(hX Hw20.out), (hY Hw20.out), (hA Hw20.out).1, (hA Hw20.out).2.1, (hA Hw20.out).2.2.1, (hA Hw20.out).2.2.2, (hB2 Hw20.out).1, (hB2 Hw20.out).2.1, (hB2 Hw20.out).2.2.1, (hB2 Hw20.out).2.2.2⟩ (fun hHeld => ?_)
  clear hK K
  refine norm_ (a' := ?_) ?_ ?_
  rotate_left
  · show Act.put _ (some 35) _ = _
    simp only [Act.put, List.setIfInBounds_toArray, List.set_cons_zero, List.set_cons_succ, i64_w, i32_w]
    rfl
  refine pure_ (i := 2) (N := some 36) (v := ?_) (a' := ?_) #[true, true, true, false, false, false, false, false, false, false, false, false, false, false, false, false, false, false] rfl rfl (by kernel_rfl) (fun _ _ _ h => h) (Or.inl ⟨by rfl, ?_⟩) ?_ ?_
  rotate_left
  · intro w'
    go_simp
    with_reducible rfl
  rotate_left
  · simp only [Act.put, List.setIfInBounds_toArray, List.set_cons_zero, List.set_cons_succ, i64_w, i32_w]
    rfl
  refine pure_ (i := 3) (N := some 37) (v := ?_) (a' := ?_) #[true, true, true, true, false, false, false, false, false, false, false, false, false, false, false, false, false, false] rfl rfl (by kernel_rfl) (fun _ _ _ h => h) (Or.inl ⟨by rfl, ?_⟩) ?_ ?_
  rotate_left
  · intro w'
    go_simp
    with_reducible rfl
  rotate_left
  · simp only [Act.put, List.setIfInBounds_toArray, List.set_cons_zero, List.set_cons_succ, i64_w, i32_w]
    rfl
  refine pure_ (i := 4) (N := some 38) (v := ?_) (a' := ?_) #[true, true, true, true, true, false, false, false, false, false, false, false, false, false, false, false, false, false] rfl rfl (by kernel_rfl) (fun _ _ _ h => h) (Or.inl ⟨by rfl, ?_⟩) ?_ ?_
  rotate_left
  · intro w'
    go_simp
    with_reducible rfl
  rotate_left
  · simp only [Act.put, List.setIfInBounds_toArray, List.set_cons_zero, List.set_cons_succ, i64_w, i32_w]
    rfl
  refine one_ (i := 5) (N := some 39) #[true, true, true, true, true, true, false, false, false, false, false, false, false, false, false, false, false, false] rfl rfl (by kernel_rfl) (by decide) (fun K hK => ?_)
  refine goes_ Tryd.func12 (by kernel_rfl) rfl #[.nilIface] (by rfl) rfl rfl (by simp only [List.map_toArray, List.map_cons, List.map_nil]; rfl) ?_
  with_reducible refine (code_nil _).mono ?_
  rintro e w21 ⟨rfl, hd⟩
  refine ⟨_, rfl, ?_⟩
  have Hw21 := Lib.hid (Hw20.out.trans (hd.mono Hw20.out.size))
  clear hd
  refine hK.out _ _ ⟨(hX Hw21.out), (hY Hw21.out), (hA Hw21.out).1, (hA Hw21.out).2.1, (hA Hw21.out).2.2.1, (hA Hw21.out).2.2.2, (hB2 Hw21.out).1, (hB2 Hw21.out).2.1, (hB2 Hw21.out).2.2.1, (hB2 Hw21.out).2.2.2⟩ (fun hHeld => ?_)
  clear hK K
  refine norm_ (a' := ?_) ?_ ?_
  rotate_left
  · show Act.put _ (some 39) _ = _
    simp only [Act.put, List.setIfInBounds_toArray, List.set_cons_zero, List.set_cons_succ, i64_w, i32_w]
    rfl
  refine pure_ (i := 6) (N := some 40) (v := ?_) (a' := ?_) #[true, true, true, true, true, true, true, false, false, false, false, false, false, false, false, false, false, false] rfl rfl (by kernel_rfl) (fun _ _ _ h => h) (Or.inl ⟨by rfl, ?_⟩) ?_ ?_
  rotate_left
  · intro w'
    go_simp
    with_reducible rfl
  rotate_left
  · simp only [Act.put, List.setIfInBounds_toArray, List.set_cons_zero, List.set_cons_succ, i64_w, i32_w]
    rfl
  refine pure_ (i := 7) (N := some 41) (v := ?_) (a' := ?_) #[true, true, true, true, true, true, true, true, false, false, false, false, false, false, false, false, false, false] rfl rfl (by kernel_rfl) (fun _ _ _ h => h) (Or.inl ⟨by rfl, ?_⟩) ?_ ?_
  rotate_left
  · intro w'
    go_simp
    with_reducible rfl
  rotate_left
  · simp only [Act.put, List.setIfInBounds_toArray, List.set_cons_zero, List.set_cons_succ, i64_w, i32_w]
    rfl
  refine pure_ (i := 8) (N := some 42) (v := ?_) (a' := ?_) #[true, true, true, true, true, true, true, true, true, false, false, false, false, false, false, false, false, false] rfl rfl (by kernel_rfl) (fun _ _ _ h => h) (Or.inl ⟨by rfl, ?_⟩) ?_ ?_
  rotate_left
  · intro w'
    go_simp
    with_reducible rfl
  rotate_left
  · simp only [Act.put, List.setIfInBounds_toArray, List.set_cons_zero, List.set_cons_succ, i64_w, i32_w]
    rfl
  refine take_ (i := 9) (N := some 43) (v := ?_) (a' := ?_) #[true, true, true, true, true, true, true, true, true, true, false, false, false, false, false, false, false, false] rfl rfl (by kernel_rfl) (fun _ _ _ h => h) (Or.inl ⟨by rfl, ?_⟩) hHeld ?_ ?_
  rotate_left
  · rintro w' ⟨s0, s1, s2, s3, s4, s5, s6, s7, s8, s9⟩
    refine exec_load30 (x := .tmp 5) ?_ ?_ s0
    · rfl
    · rfl
  rotate_left
  · simp only [Act.put, List.setIfInBounds_toArray, List.set_cons_zero, List.set_cons_succ, i64_w, i32_w]
    rfl
  refine take_ (i := 10) (N := some 44) (v := ?_) (a' := ?_) #[true, true, true, true, true, true, true, true, true, true, true, false, false, false, false, false, false, false] rfl rfl (by kernel_rfl) (fun _ _ _ h => h) (Or.inl ⟨by rfl, ?_⟩) hHeld ?_ ?_
  rotate_left
  · rintro w' ⟨s0, s1, s2, s3, s4, s5, s6, s7, s8, s9⟩
    refine exec_load30 (x := .tmp 7) ?_ ?_ s1
    · rfl
    · rfl
  rotate_left
  · simp only [Act.put, List.setIfInBounds_toArray, List.set_cons_zero, List.set_cons_succ, i64_w, i32_w]
    rfl
  refine pure_ (i := 11) (N := some 45) (v := ?_) (a' := ?_) #[true, true, true, true, true, true, true, true, true, true, true, true, false, false, false, false, false, false] rfl rfl (by kernel_rfl) (fun _ _ _ h => h) (Or.inl ⟨by rfl, ?_⟩) ?_ ?_
  rotate_left
  · intro w'
    refine exec_eq30 (x := .tmp 43) (y := .tmp 44) ?_ ?_ ?_ hp
    · rfl
    · rfl
    · rfl
  rotate_left
  · simp only [Act.put, List.setIfInBounds_toArray, List.set_cons_zero, List.set_cons_succ, i64_w, i32_w]
    rfl
  refine take_ (i := 12) (N := some 46) (v := ?_) (a' := ?_) #[true, true, true, true, true, true, true, true, true, true, true, true, true, false, false, false, false, false] rfl rfl (by kernel_rfl) (fun _ _ _ h => h) (Or.inl ⟨by rfl, ?_⟩) hHeld ?_ ?_
  rotate_left
  · rintro w' ⟨s0, s1, s2, s3, s4, s5, s6, s7, s8, s9⟩
    go_simp
    with_reducible rfl
  rotate_left
  · simp only [Act.put, List.setIfInBounds_toArray, List.set_cons_zero, List.set_cons_succ, i64_w, i32_w]
    rfl
  refine take_ (i := 13) (N := some 47) (v := ?_) (a' := ?_) #[true, true, true, true, true, true, true, true, true, true, true, true, true, true, false, false, false, false] rfl rfl (by kernel_rfl) (fun _ _ _ h => h) (Or.inl ⟨by rfl, ?_⟩) hHeld ?_ ?_
  rotate_left
  · rintro w' ⟨s0, s1, s2, s3, s4, s5, s6, s7, s8, s9⟩
    go_simp
    with_reducible rfl
  rotate_left
  · simp only [Act.put, List.setIfInBounds_toArray, List.set_cons_zero, List.set_cons_succ, i64_w, i32_w]
    rfl
  refine pure_ (i := 14) (N := some 48) (v := ?_) (a' := ?_) #[true, true, true, true, true, true, true, true, true, true, true, true, true, true, true, false, false, false] rfl rfl (by kernel_rfl) (fun _ _ _ h => h) (Or.inl ⟨by rfl, ?_⟩) ?_ ?_
  rotate_left
  · intro w'
    refine exec_eqR (x := .tmp 46) (y := .tmp 47) ?_ ?_ ?_ hq
    · rfl
    · rfl
    · rfl
  rotate_left
  · simp only [Act.put, List.setIfInBounds_toArray, List.set_cons_zero, List.set_cons_succ, i64_w, i32_w]
    rfl
  refine pure_ (i := 15) (N := some 49) (v := ?_) (a' := ?_) #[true, true, true, true, true, true, true, true, true, true, true, true, true, true, true, true, false, false] rfl rfl (by kernel_rfl) (fun _ _ _ h => h) (Or.inl ⟨by rfl, ?_⟩) ?_ ?_
  rotate_left
  · intro w'
    go_simp
    with_reducible rfl
  rotate_left
  · simp only [Act.put, List.setIfInBounds_toArray, List.set_cons_zero, List.set_cons_succ, i64_w, i32_w]
    rfl
  refine pure_ (i := 16) (N := some 50) (v := ?_) (a' := ?_) #[true, true, true, true, true, true, true, true, true, true, true, true, true, true, true, true, true, false] rfl rfl (by kernel_rfl) (fun _ _ _ h => h) (Or.inl ⟨by rfl, ?_⟩) ?_ ?_
  rotate_left
  · intro w'
    go_simp
    with_reducible rfl
  rotate_left
  · simp only [Act.put, List.setIfInBounds_toArray, List.set_cons_zero, List.set_cons_succ, i64_w, i32_w]
    rfl
  refine pure_ (i := 17) (N := some 4) (v := ?_) (a' := ?_) #[true, true, true, true, true, true, true, true, true, true, true, true, true, true, true, true, true, true] rfl rfl (by kernel_rfl) (fun _ _ _ h => h) (Or.inl ⟨by rfl, ?_⟩) ?_ ?_
  rotate_left
  · intro w'
    go_simp
    with_reducible rfl
  rotate_left
  · simp only [Act.put, List.setIfInBounds_toArray, List.set_cons_zero, List.set_cons_succ, i64_w, i32_w]
    rfl
  refine done_ (by kernel_rfl) ?_

  have hbb : (b == b) = true := beq_self_eq_true b
  go_wp2_with fail
  go_ret
  exact ⟨rfl, HX10.out.trans (Hw21.out.mono HX10.out.size)⟩
set_option maxHeartbeats 8000000 in
set_option maxRecDepth 100000 in
theorem no1 (g x y z g' x' y' z' : Int) (W : World) (h1 : Hid (rightB g x y z = false)) (hg : Hid (Laid W)) : Calls Tryd.prog 7 #[.agg (slA g x y z), .agg (slA g' x' y' z')] W fun e w' => e = .returned (.bool true) ∧ Below W.heap.size W w' := by
  go_enter Tryd.func7, Tryd.ntmps7
  go_wp2_with fail
  obtain ⟨HA1, HB1, HX1⟩ := alloc2 W (Obj.cells (slA g x y z) 24 (0, 0)) (Obj.cells (slA g' x' y' z') 24 (0, 0))
  obtain ⟨B, hB⟩ : ∃ B, W.heap.size = B := ⟨_, rfl⟩
  rw [hB] at HA1 HB1
  (try rw [alloc_size])
  simp only [hB]
  generalize ((W.alloc (Obj.cells (slA g x y z) 24 (0, 0))).alloc (Obj.cells (slA g' x' y' z') 24 (0, 0))) = w1 at *
  refine (awake_c _ (Lib.hid (hg.out.on HX1.out))).mono ?_
  rintro e w2 ⟨rfl, hd⟩
  have HA2 := blk_to HA1 hd
  have HB2 := blk_to HB1 hd
  have HX2 := below_to HX1 (Nat.le_refl _) hd
  clear hd HA1 HB1 HX1
  obtain ⟨k0, k1, k2, k3⟩ := rs_keep HA2.out (Below.refl w2.heap.size w2)
  go_wp2_with fail
  refine (rright_c g x y z false _ h1).mono ?_
  rintro e w3 ⟨rfl, hd⟩
  have HX3 := below_to HX2 (Nat.le_refl _) hd
  clear hd HA2 HB2 HX2 k0 k1 k2 k3
  go_wp2_with fail
  refine (awake_c _ (Lib.hid (hg.out.on HX3.out))).mono ?_
  rintro e w20 ⟨rfl, hd⟩
  have HX20 := below_to HX3 (Nat.le_refl _) hd
  clear hd
  go_wp2_with fail
  go_ret
  exact ⟨rfl, HX20.out⟩
set_option maxHeartbeats 8000000 in
set_option maxRecDepth 100000 in
theorem no2 (g x y z g' x' y' z' : Int) (W : World) (h1 : Hid (rightB g x y z = true)) (h2 : Hid (rightB g' x' y' z' = false)) (hg : Hid (Laid W)) : Calls Tryd.prog 7 #[.agg (slA g x y z), .agg (slA g' x' y' z')] W fun e w' => e = .returned (.bool true) ∧ Below W.heap.size W w' := by
  go_enter Tryd.func7, Tryd.ntmps7
  go_wp2_with fail
  obtain ⟨HA1, HB1, HX1⟩ := alloc2 W (Obj.cells (slA g x y z) 24 (0, 0)) (Obj.cells (slA g' x' y' z') 24 (0, 0))
  obtain ⟨B, hB⟩ : ∃ B, W.heap.size = B := ⟨_, rfl⟩
  rw [hB] at HA1 HB1
  (try rw [alloc_size])
  simp only [hB]
  generalize ((W.alloc (Obj.cells (slA g x y z) 24 (0, 0))).alloc (Obj.cells (slA g' x' y' z') 24 (0, 0))) = w1 at *
  refine (awake_c _ (Lib.hid (hg.out.on HX1.out))).mono ?_
  rintro e w2 ⟨rfl, hd⟩
  have HA2 := blk_to HA1 hd
  have HB2 := blk_to HB1 hd
  have HX2 := below_to HX1 (Nat.le_refl _) hd
  clear hd HA1 HB1 HX1
  obtain ⟨k0, k1, k2, k3⟩ := rs_keep HA2.out (Below.refl w2.heap.size w2)
  go_wp2_with fail
  refine (rright_c g x y z true _ h1).mono ?_
  rintro e w3 ⟨rfl, hd⟩
  have HA3 := blk_to HA2 hd
  have HB3 := blk_to HB2 hd
  have HX3 := below_to HX2 (Nat.le_refl _) hd
  clear hd HA2 HB2 HX2 k0 k1 k2 k3
  obtain ⟨k0, k1, k2, k3⟩ := rs_keep HB3.out (Below.refl w3.heap.size w3)
  go_wp2_with fail
  refine (rright_c g' x' y' z' false _ h2).mono ?_
  rintro e w4 ⟨rfl, hd⟩
  have HX4 := below_to HX3 (Nat.le_refl _) hd
  clear hd HA3 HB3 HX3 k0 k1 k2 k3
  go_wp2_with fail
  refine (awake_c _ (Lib.hid (hg.out.on HX4.out))).mono ?_
  rintro e w20 ⟨rfl, hd⟩
  have HX20 := below_to HX4 (Nat.le_refl _) hd
  clear hd
  go_wp2_with fail
  go_ret
  exact ⟨rfl, HX20.out⟩
theorem walk (g x y z g' x' y' z' : Int) (W : World) (h1 : Wf g x y z) (h2 : Wf g' x' y' z') (hg : Hid (Laid W)) : Calls Tryd.prog 7 #[.agg (slA g x y z), .agg (slA g' x' y' z')] W fun e w' => e = .returned (.bool true) ∧ Below W.heap.size W w' := by
  have b1 := h1.bounds
  have b2 := h2.bounds
  cases r1 : rightB g x y z with
  | false => exact no1 g x y z g' x' y' z' W (Lib.hid r1) hg
  | true =>
    cases r2 : rightB g' x' y' z' with
    | false => exact no2 g x y z g' x' y' z' W (Lib.hid r1) (Lib.hid r2) hg
    | true => exact both g x y z g' x' y' z' W (rightB_rt r1 b1.1.2 b1.2.2.2.1 b1.2.2.2.2) (rightB_rt r2 b2.1.2 b2.2.2.2.1 b2.2.2.2.2) hg
end Go.Proofs.YtkgiifcbimpcoaaDoor.RowSlotUnlike

