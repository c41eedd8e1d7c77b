/- SlotPlays, the walk. -/
import Derived.Test.YtkgiifcbimpcoaaDoorSlotRefA
import Derived.Test.YtkgiifcbimpcoaaDoorSlotByte
set_option linter.unusedVariables false
set_option linter.unusedSimpArgs false
namespace Go.Proofs.YtkgiifcbimpcoaaDoor.RowSlotPlays
open Go.RowKit Go.Proofs.YtkgiifcbimpcoaaDoorW.PrintWords Go.Proofs.YtkgiifcbimpcoaaDoorW.PrintLast Go.Proofs.YtkgiifcbimpcoaaDoorW.PrintMore Go.Proofs.YtkgiifcbimpcoaaDoor.Md Go.Proofs.YtkgiifcbimpcoaaDoor.Dk Go.Proofs.YtkgiifcbimpcoaaDoor.Blb Go.Proofs.YtkgiifcbimpcoaaDoor.Slt Go.Proofs.YtkgiifcbimpcoaaDoor.Rf
open Go.Proofs.YtkgiifcbimpcoaaDoor.AdM (sum)
open Go.Extern.Stop (cell)
open Go.Proofs.YtkgiifcbimpcoaaDoor.Err (Laid IsErr code_nil code_c Chain at_some at_nil)
theorem isErr0 (w : World) : IsErr w .nilIface 0 := .inl ⟨rfl, rfl⟩
/-- slot.Read, its error told by a number -/
theorem read_u (p : Pg) (w : World) :
    Calls Tryd.prog 13 #[pv p] w fun ev w' => (∃ e, ev = .returned (.tuple #[.agg (slotOf p).a, e]) ∧ IsErr w' e (slotBad p)) ∧ Below w.heap.size w w' := by
  refine (read_c p w).mono ?_
  rintro ev w' ⟨⟨e, rfl, h1, h2⟩, hb⟩
  refine ⟨⟨e, rfl, ?_⟩, hb⟩
  by_cases h : 0 < (slotOf p).g
  · rw [h1 h]
    have h0 : slotBad p = 0 := by unfold slotBad; exact if_pos h
    rw [h0]; exact isErr0 w'
  · obtain ⟨T, u, rfl, he⟩ := h2 h
    exact he
theorem eqR_self (a b c d : Int) : (a == a && (b == b && (c == c && (d == d)))) = true := by simp
theorem rlay_y (g x y z : Int) (Y : Pg) (w : World) (hr : Slt.Rt g x y z) (hY : Hid (layP g x y z = Y)) : Calls Tryd.prog 16 #[.agg (slA g x y z)] w fun e w' => e = .returned (pv Y) ∧ Below w.heap.size w w' := by
  have h := rlay_c g x y z w hr
  rw [hY.out] at h
  exact h
theorem exec_loadS {ρ : Operand → Value} {o : Oper} {x : Operand} {W : World} {b : Nat} {g m y z : Int} (ho : o.op = .load 35 x) (hx : ρ x = .pointer (some ⟨b, 0, none⟩)) (hp : W.heap[b]? = some (Obj.cells (slA g m y z) 35 (0, 0))) : (execOp ρ o).run Tryd.prog W = .ok (.value (.agg (slA g m y z))) W := by
  unfold execOp; simp only [ho, hx, run_loadS W b g m y z hp, Sem.run_bind, Sem.run_pure, Result.andThen_ok]
set_option maxHeartbeats 16000000 in
set_option maxRecDepth 100000 in
theorem case_tt (g x y z : Int) (p : Pg) (W : World) (b1 : g < 4294967296) (b2 : 0 ≤ z) (b3 : z < 4294967296) (hr : Hid (rightB g x y z = true)) (hg : Hid (Laid W)) : Calls Tryd.prog 4 #[.agg (slA g x y z), pv p, .bool true] W fun e w' => e = .returned (.bool true) ∧ Below W.heap.size W w' := by
  have HRt := hr
  go_enter Tryd.func4, Tryd.ntmps4
  have hpv := pv_eq p
  go_wp2_with fail
  clear hpv
  obtain ⟨HA1, HP1, HX1⟩ := alloc2 W (Obj.cells (slA g x y z) 24 (0, 0)) (Obj.cells (pa p) 26 (0, 0))
  have HL1 := Lib.hid (hg.out.on HX1.out)
  obtain ⟨B, hB⟩ : ∃ B, W.heap.size = B := ⟨_, rfl⟩
  rw [hB] at HA1 HP1
  (try rw [alloc_size])
  simp only [hB]
  have HBW := Lib.hid hB
  clear hB
  generalize ((W.alloc (Obj.cells (slA g x y z) 24 (0, 0))).alloc (Obj.cells (pa p) 26 (0, 0))) = w1 at *
  refine (awake_c _ HL1).mono ?_
  rintro e w2 ⟨rfl, hd⟩
  have HA2 := blk_to HA1 hd
  have HP2 := blk_to HP1 hd
  have HX2 := Dk.below_to HX1 (Nat.le_refl _) hd
  have HL2 := Lib.hid (HL1.out.on hd)
  clear hd HA1 HP1 HX1 HL1
  go_wp2_with (first | (refine wl_loadQ B g x y z HA2.out rfl _ rfl rfl ?_))
  refine (of_c g x y z _).mono ?_
  rintro e w3 ⟨rfl, hd⟩
  have HA3 := blk_to HA2 hd
  have HP3 := blk_to HP2 hd
  have HX3 := Dk.below_to HX2 (Nat.le_refl _) hd
  have HL3 := Lib.hid (HL2.out.on hd)
  clear hd HA2 HP2 HX2 HL2
  go_wp2_with fail
  refine (lay_ok g x y z _ (rightB_rt HRt.out b1 b2 b3)).mono ?_
  rintro e w4 ⟨rfl, hd⟩
  have HA4 := blk_to HA3 hd
  have HP4 := blk_to HP3 hd
  have HX4 := Dk.below_to HX3 (Nat.le_refl _) hd
  have HL4 := Lib.hid (HL3.out.on hd)
  obtain ⟨Y, hY⟩ : ∃ Y, layP g x y z = Y := ⟨_, rfl⟩
  have HY := Lib.hid hY
  rw [hY]
  clear hY
  clear hd HA3 HP3 HX3 HL3
  have hd : Below w4.heap.size w4 (w4.alloc (Obj.cells (pa Y) 27 (0, 0))) := (Below.refl _ _).alloc (Nat.le_refl _) _
  have HA5 := blk_to HA4 hd
  have HP5 := blk_to HP4 hd
  have HX5 := Dk.below_to HX4 (Nat.le_refl _) hd
  have HL5 := Lib.hid (HL4.out.on hd)
  have HQ5 := Lib.hid (heap_alloc_last w4 (Obj.cells (pa Y) 27 (0, 0)))
  clear hd HA4 HP4 HX4 HL4
  go_wp2_with (first
    | (refine wl_alloc30 rfl rfl ?_)
    | (refine wl_store30n pz Y rfl _ _ rfl rfl rfl ?_)
    | (refine wl_loadQ B g x y z HA5.out rfl _ rfl rfl ?_))
  obtain ⟨Q, hQ⟩ : ∃ Q, w4.heap.size = Q := ⟨_, rfl⟩
  rw [hQ] at HQ5
  (try simp only [hQ])
  generalize (w4.alloc (Obj.cells (pa Y) 27 (0, 0))) = w5 at *
  clear hQ
  refine (rright_c g x y z true _ HRt).mono ?_
  rintro e w6 ⟨rfl, hd⟩
  have HA6 := blk_to HA5 hd
  have HP6 := blk_to HP5 hd
  have HX6 := Dk.below_to HX5 (Nat.le_refl _) hd
  have HL6 := Lib.hid (HL5.out.on hd)
  have HQ6 := blk_to HQ5 hd
  clear hd HA5 HP5 HX5 HL5 HQ5
  go_wp2_with fail
  have HD := Lib.hid (show Below w6.heap.size w6 w6.drew from (Below.refl _ _).drew)
  have hQ := fun {w' : World} (k : Below w6.heap.size w6 w') => (blk_to HQ6 k).out
  have hA := fun {w' : World} (k : Below w6.heap.size w6 w') => (blk_to HA6 k).out
  have hL := fun {w' : World} (k : Below w6.heap.size w6 w') => HL6.out.on k
  have hnn : (Y.1 != Y.1) = false := by simp
  refine start_ (n := 14) (S := fun w' => w'.heap[Q]? = some (Obj.cells (pa Y) 27 (0, 0)) ∧ w'.heap[B]? = some (Obj.cells (slA g x y z) 24 (0, 0))) (ds := []) #[false, false, false, false, false, false, false, false, false, false, false, false, false, false] (by kernel_rfl) rfl rfl ⟨hQ HD.out, hA HD.out⟩ (fun hHeld => ?_)
  refine pure_ (i := 0) (N := some 26) (v := ?_) (a' := ?_) #[true, false, false, false, false, false, false, false, false, false, false, false, false, false] rfl rfl (by kernel_rfl) (fun _ _ _ h => h) (Or.inl ⟨by rfl, ?_⟩) ?_ ?_
  rotate_left
  · intro w'
    go_simp
    with_reducible rfl
  rotate_left
  · simp only [Act.put, List.setIfInBounds_toArray, List.set_cons_zero, List.set_cons_succ, i64_w, i32_w]
    rfl
  refine pure_ (i := 1) (N := some 27) (v := ?_) (a' := ?_) #[true, true, false, false, false, false, false, false, false, false, false, false, false, false] rfl rfl (by kernel_rfl) (fun _ _ _ h => h) (Or.inl ⟨by rfl, ?_⟩) ?_ ?_
  rotate_left
  · intro w'
    go_simp
    with_reducible rfl
  rotate_left
  · simp only [Act.put, List.setIfInBounds_toArray, List.set_cons_zero, List.set_cons_succ, i64_w, i32_w]
    rfl
  refine one_ (i := 2) (N := some 28) #[true, true, true, false, false, false, false, false, false, false, false, false, false, false] rfl rfl (by kernel_rfl) (by decide) (fun K hK => ?_)
  refine goes_ Tryd.func12 (by kernel_rfl) rfl #[.nilIface] (by rfl) rfl rfl (by simp only [List.map_toArray, List.map_cons, List.map_nil]; rfl) ?_
  with_reducible refine (code_nil _).mono ?_
  rintro e v20 ⟨rfl, hd⟩
  refine ⟨_, rfl, ?_⟩
  have Hv20 := Lib.hid (HD.out.trans (hd.mono HD.out.size))
  clear hd
  refine hK.out _ _ ⟨hQ Hv20.out, hA Hv20.out⟩ (fun hHeld => ?_)
  clear hK K
  refine norm_ (a' := ?_) ?_ ?_
  rotate_left
  · show Act.put _ (some 28) _ = _
    simp only [Act.put, List.setIfInBounds_toArray, List.set_cons_zero, List.set_cons_succ, i64_w, i32_w]
    rfl
  refine pure_ (i := 3) (N := some 29) (v := ?_) (a' := ?_) #[true, true, true, true, false, false, false, false, false, false, false, false, false, false] rfl rfl (by kernel_rfl) (fun _ _ _ h => h) (Or.inl ⟨by rfl, ?_⟩) ?_ ?_
  rotate_left
  · intro w'
    go_simp
    with_reducible rfl
  rotate_left
  · simp only [Act.put, List.setIfInBounds_toArray, List.set_cons_zero, List.set_cons_succ, i64_w, i32_w]
    rfl
  refine pure_ (i := 4) (N := some 30) (v := ?_) (a' := ?_) #[true, true, true, true, true, false, false, false, false, false, false, false, false, false] rfl rfl (by kernel_rfl) (fun _ _ _ h => h) (Or.inl ⟨by rfl, ?_⟩) ?_ ?_
  rotate_left
  · intro w'
    go_simp
    with_reducible rfl
  rotate_left
  · simp only [Act.put, List.setIfInBounds_toArray, List.set_cons_zero, List.set_cons_succ, i64_w, i32_w]
    rfl
  refine pure_ (i := 5) (N := some 31) (v := ?_) (a' := ?_) #[true, true, true, true, true, true, false, false, false, false, false, false, false, false] rfl rfl (by kernel_rfl) (fun _ _ _ h => h) (Or.inl ⟨by rfl, ?_⟩) ?_ ?_
  rotate_left
  · intro w'
    go_simp
    with_reducible rfl
  rotate_left
  · simp only [Act.put, List.setIfInBounds_toArray, List.set_cons_zero, List.set_cons_succ, i64_w, i32_w]
    rfl
  refine pure_ (i := 6) (N := some 32) (v := ?_) (a' := ?_) #[true, true, true, true, true, true, true, false, false, false, false, false, false, false] rfl rfl (by kernel_rfl) (fun _ _ _ h => h) (Or.inl ⟨by rfl, ?_⟩) ?_ ?_
  rotate_left
  · intro w'
    go_simp
    with_reducible rfl
  rotate_left
  · simp only [Act.put, List.setIfInBounds_toArray, List.set_cons_zero, List.set_cons_succ, i64_w, i32_w]
    rfl
  refine pure_ (i := 7) (N := some 33) (v := ?_) (a' := ?_) #[true, true, true, true, true, true, true, true, false, false, false, false, false, false] rfl rfl (by kernel_rfl) (fun _ _ _ h => h) (Or.inl ⟨by rfl, ?_⟩) ?_ ?_
  rotate_left
  · intro w'
    go_simp
    with_reducible rfl
  rotate_left
  · simp only [Act.put, List.setIfInBounds_toArray, List.set_cons_zero, List.set_cons_succ, i64_w, i32_w]
    rfl
  refine take_ (i := 8) (N := some 34) (v := ?_) (a' := ?_) #[true, true, true, true, true, true, true, true, true, false, false, false, false, false] rfl rfl (by kernel_rfl) (fun _ _ _ h => h) (Or.inl ⟨by rfl, ?_⟩) hHeld ?_ ?_
  rotate_left
  · rintro w' ⟨s0, s1⟩
    refine exec_load30 (x := .tmp 7) ?_ ?_  s0
    · rfl
    · rfl
  rotate_left
  · simp only [Act.put, List.setIfInBounds_toArray, List.set_cons_zero, List.set_cons_succ, i64_w, i32_w]
    rfl
  refine take_ (i := 9) (N := some 35) (v := ?_) (a' := ?_) #[true, true, true, true, true, true, true, true, true, true, false, false, false, false] rfl rfl (by kernel_rfl) (fun _ _ _ h => h) (Or.inl ⟨by rfl, ?_⟩) hHeld ?_ ?_
  rotate_left
  · rintro w' ⟨s0, s1⟩
    refine exec_loadQ (x := .tmp 3) ?_ ?_  s1
    · rfl
    · rfl
  rotate_left
  · simp only [Act.put, List.setIfInBounds_toArray, List.set_cons_zero, List.set_cons_succ, i64_w, i32_w]
    rfl
  refine one_ (i := 10) (N := some 36) #[true, true, true, true, true, true, true, true, true, true, true, false, false, false] rfl rfl (by kernel_rfl) (by decide) (fun K hK => ?_)
  refine goes_ Tryd.func16 (by kernel_rfl) rfl #[.agg (slA g x y z)] (by rfl) rfl rfl (by simp only [List.map_toArray, List.map_cons, List.map_nil]; rfl) ?_
  with_reducible refine (rlay_y g x y z Y _ (rightB_rt HRt.out b1 b2 b3) HY).mono ?_
  rintro e v21 ⟨rfl, hd⟩
  refine ⟨_, rfl, ?_⟩
  have Hv21 := Lib.hid (Hv20.out.trans (hd.mono Hv20.out.size))
  clear hd
  refine hK.out _ _ ⟨hQ Hv21.out, hA Hv21.out⟩ (fun hHeld => ?_)
  clear hK K
  refine norm_ (a' := ?_) ?_ ?_
  rotate_left
  · show Act.put _ (some 36) _ = _
    simp only [Act.put, List.setIfInBounds_toArray, List.set_cons_zero, List.set_cons_succ, i64_w, i32_w]
    rfl
  refine pure_ (i := 11) (N := some 37) (v := ?_) (a' := ?_) #[true, true, true, true, true, true, true, true, true, true, true, true, false, false] rfl rfl (by kernel_rfl) (fun _ _ _ h => h) (Or.inl ⟨by rfl, ?_⟩) ?_ ?_
  rotate_left
  · intro w'
    refine exec_neq30 (x := .tmp 34) (y := .tmp 36) ?_ ?_ ?_  hnn
    · rfl
    · rfl
    · rfl
  rotate_left
  · simp only [Act.put, List.setIfInBounds_toArray, List.set_cons_zero, List.set_cons_succ, i64_w, i32_w]
    rfl
  refine pure_ (i := 12) (N := some 38) (v := ?_) (a' := ?_) #[true, true, true, true, true, true, true, true, true, true, true, true, true, false] rfl rfl (by kernel_rfl) (fun _ _ _ h => h) (Or.inl ⟨by rfl, ?_⟩) ?_ ?_
  rotate_left
  · intro w'
    go_simp
    with_reducible rfl
  rotate_left
  · simp only [Act.put, List.setIfInBounds_toArray, List.set_cons_zero, List.set_cons_succ, i64_w, i32_w]
    rfl
  refine pure_ (i := 13) (N := some 39) (v := ?_) (a' := ?_) #[true, true, true, true, true, true, true, true, true, true, true, true, true, true] rfl rfl (by kernel_rfl) (fun _ _ _ h => h) (Or.inl ⟨by rfl, ?_⟩) ?_ ?_
  rotate_left
  · intro w'
    go_simp
    with_reducible rfl
  rotate_left
  · simp only [Act.put, List.setIfInBounds_toArray, List.set_cons_zero, List.set_cons_succ, i64_w, i32_w]
    rfl
  refine done_ (by kernel_rfl) ?_
  have hd := Hv21.out
  have HP7 := blk_to HP6 hd
  have HX7 := Dk.below_to HX6 (Nat.le_refl _) hd
  have HL7 := Lib.hid (HL6.out.on hd)
  clear HD hQ hA hL
  clear hd HP6 HX6 HL6
  generalize v21 = w7 at *
  go_wp2_with (first | (refine wl_convB (B + 1) p 0 60 64 HP7.out (by decide) rfl _ rfl rfl ?_))
  have hs60 : (sub p 0 60).size = 60 := sub_size _ _ _ (by decide)
  obtain ⟨U0, hU0⟩ : ∃ U0, sub p 0 60 = U0 := ⟨_, rfl⟩
  rw [hU0] at hs60
  (try rw [hU0])
  refine (RSm.refsum_c U0 (by omega) _).mono ?_
  rintro e w8 ⟨rfl, hd⟩
  have HP8 := blk_to HP7 hd
  have HX8 := Dk.below_to HX7 (Nat.le_refl _) hd
  have HL8 := Lib.hid (HL7.out.on hd)
  clear hd HP7 HX7 HL7
  go_wp2_with fail
  have hsl := sum_lt U0
  obtain ⟨s0, hs0⟩ : ∃ s0, sum U0 = s0 := ⟨_, rfl⟩
  rw [hs0] at hsl ⊢
  refine (rfour_c s0 hsl _).mono ?_
  rintro e w9 ⟨rfl, hd⟩
  have HP9 := blk_to HP8 hd
  have HX9 := Dk.below_to HX8 (Nat.le_refl _) hd
  have HL9 := Lib.hid (HL8.out.on hd)
  clear hd HP8 HX8 HL8
  go_wp2_with fail
  have hfs := fourS_size s0
  obtain ⟨F, hF⟩ : ∃ F, fourS s0 = F := ⟨_, rfl⟩
  rw [hF] at hfs ⊢
  clear hF hs0 hsl hU0 hs60
  go_loopg [11] 4 (fun kq v0 wr => ∃ (i : Nat) (q : Pg), v0 = .int .i64 (i : Int) ∧ kq + i = 4 ∧ Hid (wr.heap[B + 1]? = some (Obj.cells (pa q) 26 (0, 0))) ∧ Hid (Below W.heap.size W wr) ∧ Hid (Laid wr))
  case atStart => exact ⟨0, p, rfl, rfl, HP9, HX9, HL9⟩
  case round =>
    clear HP9 HX9 HL9
    obtain ⟨i, q, rfl, hk, HP, HX, HL⟩ := hrel
    cases gk with
    | zero =>
      have hi : i = 4 := by omega
      subst hi
      clear hk
      generalize wr = w10 at *
      have HP10 := HP
      have HX10 := HX
      have HL10 := HL
      clear HP HX HL
      obtain ⟨T, hT⟩ : ∃ T, slotOf q = T := ⟨_, rfl⟩
      obtain ⟨f, hf⟩ : ∃ f, slotBad q = f := ⟨_, rfl⟩
      have HT := Lib.hid hT
      have HF := Lib.hid hf
      clear hT hf
      go_wp2_with (first | (refine wl_loadB (B + 1) q HP10.out rfl _ rfl rfl ?_))
      refine (read_u q _).mono ?_
      rintro e w11 ⟨⟨E, rfl, he⟩, hd⟩
      rw [HF.out] at he
      rw [HT.out]
      have HP11 := blk_to HP10 hd
      have HX11 := Dk.below_to HX10 (Nat.le_refl _) hd
      have HL11 := Lib.hid (HL10.out.on hd)
      have HE11 := Lib.hid he
      clear he hd HP10 HX10 HL10
      have hd : Below w11.heap.size w11 (w11.alloc (Obj.cells T.a 35 (0, 0))) := (Below.refl _ _).alloc (Nat.le_refl _) _
      have HP12 := blk_to HP11 hd
      have HX12 := Dk.below_to HX11 (Nat.le_refl _) hd
      have HL12 := Lib.hid (HL11.out.on hd)
      have HE12 := Lib.hid (HE11.out.on hd)
      have HU12 := Lib.hid (heap_alloc_last w11 (Obj.cells T.a 35 (0, 0)))
      clear hd HP11 HX11 HL11 HE11
      go_wp2_with (first
        | (refine wl_allocS rfl rfl ?_)
        | (refine wl_storeSn 0 0 0 0 T.g T.x T.y T.z rfl _ _ rfl rfl rfl ?_)
        | (refine wl_loadB (B + 1) q HP12.out rfl _ rfl rfl ?_))
      obtain ⟨U, hU⟩ : ∃ U, w11.heap.size = U := ⟨_, rfl⟩
      rw [hU] at HU12
      (try simp only [hU])
      generalize (w11.alloc (Obj.cells T.a 35 (0, 0))) = w12 at *
      clear hU
      refine (rread_c q _).mono ?_
      rintro e w13 ⟨rfl, hd⟩
      have HP13 := blk_to HP12 hd
      have HX13 := Dk.below_to HX12 (Nat.le_refl _) hd
      have HL13 := Lib.hid (HL12.out.on hd)
      have HE13 := Lib.hid (HE12.out.on hd)
      have HU13 := blk_to HU12 hd
      rw [HT.out, HF.out]
      clear hd HP12 HX12 HL12 HE12 HU12
      have hd : Below w13.heap.size w13 (w13.alloc (Obj.cells T.a 24 (0, 0))) := (Below.refl _ _).alloc (Nat.le_refl _) _
      have HP14 := blk_to HP13 hd
      have HX14 := Dk.below_to HX13 (Nat.le_refl _) hd
      have HL14 := Lib.hid (HL13.out.on hd)
      have HE14 := Lib.hid (HE13.out.on hd)
      have HU14 := blk_to HU13 hd
      have HV14 := Lib.hid (heap_alloc_last w13 (Obj.cells T.a 24 (0, 0)))
      clear hd HP13 HX13 HL13 HE13 HU13
      go_wp2_with (first
        | (refine wl_allocQ rfl rfl ?_)
        | (refine wl_storeQn 0 0 0 0 T.g T.x T.y T.z rfl _ _ rfl rfl rfl ?_))
      obtain ⟨V, hV⟩ : ∃ V, w13.heap.size = V := ⟨_, rfl⟩
      rw [hV] at HV14
      (try simp only [hV])
      generalize (w13.alloc (Obj.cells T.a 24 (0, 0))) = w14 at *
      clear hV
      have HD := Lib.hid (show Below w14.heap.size w14 w14.drew from (Below.refl _ _).drew)
      have hU := fun {w' : World} (k : Below w14.heap.size w14 w') => (blk_to HU14 k).out
      have hV := fun {w' : World} (k : Below w14.heap.size w14 w') => (blk_to HV14 k).out
      have hE := fun {w' : World} (k : Below w14.heap.size w14 w') => (HE14.out.on k)
      have hL := fun {w' : World} (k : Below w14.heap.size w14 w') => (HL14.out.on k)
      have hqq := eqR_self T.g T.x T.y T.z
      have hff : (f == f) = true := beq_self_eq_true f
      refine start_ (n := 11) (S := fun w' => w'.heap[U]? = some (Obj.cells (slA T.g T.x T.y T.z) 35 (0, 0)) ∧ w'.heap[V]? = some (Obj.cells (slA T.g T.x T.y T.z) 24 (0, 0))) (ds := []) #[false, false, false, false, false, false, false, false, false, false, false] (by kernel_rfl) rfl rfl ⟨hU HD.out, hV HD.out⟩ (fun hHeld => ?_)
      refine pure_ (i := 0) (N := some 65) (v := ?_) (a' := ?_) #[true, false, false, false, false, false, false, false, false, false, false] rfl rfl (by kernel_rfl) (fun _ _ _ h => h) (Or.inl ⟨by rfl, ?_⟩) ?_ ?_
      rotate_left
      · intro w'
        go_simp
        with_reducible rfl
      rotate_left
      · simp only [Act.put, List.setIfInBounds_toArray, List.set_cons_zero, List.set_cons_succ, i64_w, i32_w]
        rfl
      refine pure_ (i := 2) (N := some 67) (v := ?_) (a' := ?_) #[true, false, true, false, false, false, false, false, false, false, false] rfl rfl (by kernel_rfl) (fun _ _ _ h => h) (Or.inl ⟨by rfl, ?_⟩) ?_ ?_
      rotate_left
      · intro w'
        go_simp
        with_reducible rfl
      rotate_left
      · simp only [Act.put, List.setIfInBounds_toArray, List.set_cons_zero, List.set_cons_succ, i64_w, i32_w]
        rfl
      refine one_ (i := 1) (N := some 66) #[true, true, true, false, false, false, false, false, false, false, false] rfl rfl (by kernel_rfl) (by decide) (fun K hK => ?_)
      refine goes_ Tryd.func12 (by kernel_rfl) rfl #[E] (by rfl) rfl rfl (by simp only [List.map_toArray, List.map_cons, List.map_nil]; rfl) ?_
      with_reducible refine (code_c _ f _ (Lib.hid (hE HD.out)) (Lib.hid (hL HD.out))).mono ?_
      rintro e v20 ⟨rfl, hd⟩
      refine ⟨_, rfl, ?_⟩
      have Hv20 := Lib.hid (HD.out.trans (hd.mono HD.out.size))
      clear hd
      refine hK.out _ _ ⟨hU Hv20.out, hV Hv20.out⟩ (fun hHeld => ?_)
      clear hK K
      refine norm_ (a' := ?_) ?_ ?_
      rotate_left
      · show Act.put _ (some 66) _ = _
        simp only [Act.put, List.setIfInBounds_toArray, List.set_cons_zero, List.set_cons_succ, i64_w, i32_w]
        rfl
      refine pure_ (i := 3) (N := some 68) (v := ?_) (a' := ?_) #[true, true, true, true, false, false, false, false, false, false, false] rfl rfl (by kernel_rfl) (fun _ _ _ h => h) (Or.inl ⟨by rfl, ?_⟩) ?_ ?_
      rotate_left
      · intro w'
        go_simp
        with_reducible rfl
      rotate_left
      · simp only [Act.put, List.setIfInBounds_toArray, List.set_cons_zero, List.set_cons_succ, i64_w, i32_w]
        rfl
      refine pure_ (i := 4) (N := some 69) (v := ?_) (a' := ?_) #[true, true, true, true, true, false, false, false, false, false, false] rfl rfl (by kernel_rfl) (fun _ _ _ h => h) (Or.inl ⟨by rfl, ?_⟩) ?_ ?_
      rotate_left
      · intro w'
        go_simp
        with_reducible rfl
      rotate_left
      · simp only [Act.put, List.setIfInBounds_toArray, List.set_cons_zero, List.set_cons_succ, i64_w, i32_w]
        rfl
      refine take_ (i := 5) (N := some 70) (v := ?_) (a' := ?_) #[true, true, true, true, true, true, false, false, false, false, false] rfl rfl (by kernel_rfl) (fun _ _ _ h => h) (Or.inl ⟨by rfl, ?_⟩) hHeld ?_ ?_
      rotate_left
      · rintro w' ⟨s0, s1⟩
        refine exec_loadS (x := .tmp 12) ?_ ?_  s0
        · rfl
        · rfl
      rotate_left
      · simp only [Act.put, List.setIfInBounds_toArray, List.set_cons_zero, List.set_cons_succ, i64_w, i32_w]
        rfl
      refine take_ (i := 7) (N := some 72) (v := ?_) (a' := ?_) #[true, true, true, true, true, true, false, true, false, false, false] rfl rfl (by kernel_rfl) (fun _ _ _ h => h) (Or.inl ⟨by rfl, ?_⟩) hHeld ?_ ?_
      rotate_left
      · rintro w' ⟨s0, s1⟩
        refine exec_loadQ (x := .tmp 14) ?_ ?_  s1
        · rfl
        · rfl
      rotate_left
      · simp only [Act.put, List.setIfInBounds_toArray, List.set_cons_zero, List.set_cons_succ, i64_w, i32_w]
        rfl
      refine one_ (i := 6) (N := some 71) #[true, true, true, true, true, true, true, true, false, false, false] rfl rfl (by kernel_rfl) (by decide) (fun K hK => ?_)
      refine goes_ Tryd.func14 (by kernel_rfl) rfl #[.agg (slA T.g T.x T.y T.z)] (by rfl) rfl rfl (by simp only [List.map_toArray, List.map_cons, List.map_nil]; rfl) ?_
      with_reducible refine (plain_c T.g T.x T.y T.z _).mono ?_
      rintro e v21 ⟨rfl, hd⟩
      refine ⟨_, rfl, ?_⟩
      have Hv21 := Lib.hid (Hv20.out.trans (hd.mono Hv20.out.size))
      clear hd
      refine hK.out _ _ ⟨hU Hv21.out, hV Hv21.out⟩ (fun hHeld => ?_)
      clear hK K
      refine norm_ (a' := ?_) ?_ ?_
      rotate_left
      · show Act.put _ (some 71) _ = _
        simp only [Act.put, List.setIfInBounds_toArray, List.set_cons_zero, List.set_cons_succ, i64_w, i32_w]
        rfl
      refine pure_ (i := 8) (N := some 73) (v := ?_) (a' := ?_) #[true, true, true, true, true, true, true, true, true, false, false] rfl rfl (by kernel_rfl) (fun _ _ _ h => h) (Or.inl ⟨by rfl, ?_⟩) ?_ ?_
      rotate_left
      · intro w'
        refine exec_eqR (x := .tmp 71) (y := .tmp 72) ?_ ?_ ?_  hqq
        · rfl
        · rfl
        · rfl
      rotate_left
      · simp only [Act.put, List.setIfInBounds_toArray, List.set_cons_zero, List.set_cons_succ, i64_w, i32_w]
        rfl
      refine pure_ (i := 9) (N := some 74) (v := ?_) (a' := ?_) #[true, true, true, true, true, true, true, true, true, true, false] rfl rfl (by kernel_rfl) (fun _ _ _ h => h) (Or.inl ⟨by rfl, ?_⟩) ?_ ?_
      rotate_left
      · intro w'
        go_simp
        with_reducible rfl
      rotate_left
      · simp only [Act.put, List.setIfInBounds_toArray, List.set_cons_zero, List.set_cons_succ, i64_w, i32_w]
        rfl
      refine pure_ (i := 10) (N := some 6) (v := ?_) (a' := ?_) #[true, true, true, true, true, true, true, true, true, true, true] rfl rfl (by kernel_rfl) (fun _ _ _ h => h) (Or.inl ⟨by rfl, ?_⟩) ?_ ?_
      rotate_left
      · intro w'
        go_simp
        with_reducible rfl
      rotate_left
      · simp only [Act.put, List.setIfInBounds_toArray, List.set_cons_zero, List.set_cons_succ, i64_w, i32_w]
        rfl
      refine done_ (by kernel_rfl) ?_
      go_wp2_with fail
      go_ret
      exact ⟨rfl, HX14.out.trans (Hv21.out.mono HX14.out.size)⟩
    | succ k1 =>
      have hi4 : i < 4 := by omega
      have hlt : i < F.size := by omega
      have c1 : decide ((i : Int) < 4) = true := decide_eq_true (by omega)
      have c1' : decide (i < 4) = true := decide_eq_true hi4
      have p1 : (0 ≤ (i : Int)) = True := eq_true (by omega)
      have p2 : ((i : Int) < (F.size : Int)) = True := eq_true (by omega)
      have p3 : (0 ≤ 60 + (i : Int)) = True := eq_true (by omega)
      have p4 : (60 + (i : Int) < 64) = True := eq_true (by omega)
      have q5 : IntKind.i64.wrap ((i : Int) + 1) = (i : Int) + 1 := IntWalk.i64_in _ (by omega)
      have q6 : IntKind.i64.wrap (60 + (i : Int)) = 60 + (i : Int) := IntWalk.i64_in _ (by omega)
      have n6 : (60 + (i : Int)).toNat = 60 + i := by omega
      obtain ⟨b0, hb0⟩ : ∃ b0 : UInt8, q.1[60 + i]? = some b0 := ⟨_, List.getElem?_eq_getElem (by rw [q.2]; omega)⟩
      have hcell : wr.cell? ⟨B + 1, 60 + i, none⟩ = some (.int .u8 ((b0.toNat : Nat) : Int)) := by
        rw [Err.cell_of_blk HP.out]
        unfold pa
        rw [List.getElem?_toArray, List.getElem?_map, hb0]
        rfl
      have hfz : wr.frozen? ⟨B + 1, 60 + i, none⟩ = false := by simp [World.frozen?, HP.out]
      clear hb0
      go_wp2_with fail
      obtain ⟨y2, hy2⟩ : ∃ y2 : UInt8, y2 = F[i]'hlt := ⟨_, rfl⟩
      have hm : Mod (· = B + 1) wr (wr.setCell ⟨B + 1, 60 + i, none⟩ (.int .u8 (((F[i]'hlt).toNat : Nat) : Int))) := (Mod.refl (· = B + 1) wr).set ⟨B + 1, 60 + i, none⟩ _ (.inl rfl)
      have HP' := Lib.hid (show (wr.setCell ⟨B + 1, 60 + i, none⟩ (.int .u8 (((F[i]'hlt).toNat : Nat) : Int))).heap[B + 1]? = some (Obj.cells (pa (pset q (60 + i) (F[i]'hlt))) 26 (0, 0)) from by
        rw [← pa_set]
        exact set1 HP.out (60 + i) _)
      have hX0 := HX.out.size
      have hBr : B + 1 < wr.heap.size := Err.lt_of_block HP.out
      have hW : W.heap.size = B := HBW.out
      have hbl : Below 1 wr (wr.setCell ⟨B + 1, 60 + i, none⟩ (.int .u8 (((F[i]'hlt).toNat : Nat) : Int))) := hm.below (by omega) (fun j hj (e : j = B + 1) => by omega)
      have HX' := Lib.hid (HX.out.trans (hm.below (by omega) (fun j hj (e : j = B + 1) => by omega)))
      have HL' := Lib.hid (show Laid (wr.setCell ⟨B + 1, 60 + i, none⟩ (.int .u8 (((F[i]'hlt).toNat : Nat) : Int))) from (hbl.cell (p := ⟨0, 0, none⟩) (by decide)).trans HL.out)
      go_roundg k1
      case measure => exact Nat.lt_succ_self _
      case rel => exact ⟨i + 1, _, by simp, by omega, HP', HX', HL'⟩
set_option maxHeartbeats 16000000 in
set_option maxRecDepth 100000 in
theorem case_tf (g x y z : Int) (p : Pg) (W : World) (b1 : g < 4294967296) (b2 : 0 ≤ z) (b3 : z < 4294967296) (hr : Hid (rightB g x y z = true)) (hg : Hid (Laid W)) : Calls Tryd.prog 4 #[.agg (slA g x y z), pv p, .bool false] W fun e w' => e = .returned (.bool true) ∧ Below W.heap.size W w' := by
  have HRt := hr
  go_enter Tryd.func4, Tryd.ntmps4
  have hpv := pv_eq p
  go_wp2_with fail
  clear hpv
  obtain ⟨HA1, HP1, HX1⟩ := alloc2 W (Obj.cells (slA g x y z) 24 (0, 0)) (Obj.cells (pa p) 26 (0, 0))
  have HL1 := Lib.hid (hg.out.on HX1.out)
  obtain ⟨B, hB⟩ : ∃ B, W.heap.size = B := ⟨_, rfl⟩
  rw [hB] at HA1 HP1
  (try rw [alloc_size])
  simp only [hB]
  have HBW := Lib.hid hB
  clear hB
  generalize ((W.alloc (Obj.cells (slA g x y z) 24 (0, 0))).alloc (Obj.cells (pa p) 26 (0, 0))) = w1 at *
  refine (awake_c _ HL1).mono ?_
  rintro e w2 ⟨rfl, hd⟩
  have HA2 := blk_to HA1 hd
  have HP2 := blk_to HP1 hd
  have HX2 := Dk.below_to HX1 (Nat.le_refl _) hd
  have HL2 := Lib.hid (HL1.out.on hd)
  clear hd HA1 HP1 HX1 HL1
  go_wp2_with (first | (refine wl_loadQ B g x y z HA2.out rfl _ rfl rfl ?_))
  refine (of_c g x y z _).mono ?_
  rintro e w3 ⟨rfl, hd⟩
  have HA3 := blk_to HA2 hd
  have HP3 := blk_to HP2 hd
  have HX3 := Dk.below_to HX2 (Nat.le_refl _) hd
  have HL3 := Lib.hid (HL2.out.on hd)
  clear hd HA2 HP2 HX2 HL2
  go_wp2_with fail
  refine (lay_ok g x y z _ (rightB_rt HRt.out b1 b2 b3)).mono ?_
  rintro e w4 ⟨rfl, hd⟩
  have HA4 := blk_to HA3 hd
  have HP4 := blk_to HP3 hd
  have HX4 := Dk.below_to HX3 (Nat.le_refl _) hd
  have HL4 := Lib.hid (HL3.out.on hd)
  obtain ⟨Y, hY⟩ : ∃ Y, layP g x y z = Y := ⟨_, rfl⟩
  have HY := Lib.hid hY
  rw [hY]
  clear hY
  clear hd HA3 HP3 HX3 HL3
  have hd : Below w4.heap.size w4 (w4.alloc (Obj.cells (pa Y) 27 (0, 0))) := (Below.refl _ _).alloc (Nat.le_refl _) _
  have HA5 := blk_to HA4 hd
  have HP5 := blk_to HP4 hd
  have HX5 := Dk.below_to HX4 (Nat.le_refl _) hd
  have HL5 := Lib.hid (HL4.out.on hd)
  have HQ5 := Lib.hid (heap_alloc_last w4 (Obj.cells (pa Y) 27 (0, 0)))
  clear hd HA4 HP4 HX4 HL4
  go_wp2_with (first
    | (refine wl_alloc30 rfl rfl ?_)
    | (refine wl_store30n pz Y rfl _ _ rfl rfl rfl ?_)
    | (refine wl_loadQ B g x y z HA5.out rfl _ rfl rfl ?_))
  obtain ⟨Q, hQ⟩ : ∃ Q, w4.heap.size = Q := ⟨_, rfl⟩
  rw [hQ] at HQ5
  (try simp only [hQ])
  generalize (w4.alloc (Obj.cells (pa Y) 27 (0, 0))) = w5 at *
  clear hQ
  refine (rright_c g x y z true _ HRt).mono ?_
  rintro e w6 ⟨rfl, hd⟩
  have HA6 := blk_to HA5 hd
  have HP6 := blk_to HP5 hd
  have HX6 := Dk.below_to HX5 (Nat.le_refl _) hd
  have HL6 := Lib.hid (HL5.out.on hd)
  have HQ6 := blk_to HQ5 hd
  clear hd HA5 HP5 HX5 HL5 HQ5
  go_wp2_with fail
  have HD := Lib.hid (show Below w6.heap.size w6 w6.drew from (Below.refl _ _).drew)
  have hQ := fun {w' : World} (k : Below w6.heap.size w6 w') => (blk_to HQ6 k).out
  have hA := fun {w' : World} (k : Below w6.heap.size w6 w') => (blk_to HA6 k).out
  have hL := fun {w' : World} (k : Below w6.heap.size w6 w') => HL6.out.on k
  have hnn : (Y.1 != Y.1) = false := by simp
  refine start_ (n := 14) (S := fun w' => w'.heap[Q]? = some (Obj.cells (pa Y) 27 (0, 0)) ∧ w'.heap[B]? = some (Obj.cells (slA g x y z) 24 (0, 0))) (ds := []) #[false, false, false, false, false, false, false, false, false, false, false, false, false, false] (by kernel_rfl) rfl rfl ⟨hQ HD.out, hA HD.out⟩ (fun hHeld => ?_)
  refine pure_ (i := 0) (N := some 26) (v := ?_) (a' := ?_) #[true, false, false, false, false, false, false, false, false, false, false, false, false, false] rfl rfl (by kernel_rfl) (fun _ _ _ h => h) (Or.inl ⟨by rfl, ?_⟩) ?_ ?_
  rotate_left
  · intro w'
    go_simp
    with_reducible rfl
  rotate_left
  · simp only [Act.put, List.setIfInBounds_toArray, List.set_cons_zero, List.set_cons_succ, i64_w, i32_w]
    rfl
  refine pure_ (i := 1) (N := some 27) (v := ?_) (a' := ?_) #[true, true, false, false, false, false, false, false, false, false, false, false, false, false] rfl rfl (by kernel_rfl) (fun _ _ _ h => h) (Or.inl ⟨by rfl, ?_⟩) ?_ ?_
  rotate_left
  · intro w'
    go_simp
    with_reducible rfl
  rotate_left
  · simp only [Act.put, List.setIfInBounds_toArray, List.set_cons_zero, List.set_cons_succ, i64_w, i32_w]
    rfl
  refine one_ (i := 2) (N := some 28) #[true, true, true, false, false, false, false, false, false, false, false, false, false, false] rfl rfl (by kernel_rfl) (by decide) (fun K hK => ?_)
  refine goes_ Tryd.func12 (by kernel_rfl) rfl #[.nilIface] (by rfl) rfl rfl (by simp only [List.map_toArray, List.map_cons, List.map_nil]; rfl) ?_
  with_reducible refine (code_nil _).mono ?_
  rintro e v20 ⟨rfl, hd⟩
  refine ⟨_, rfl, ?_⟩
  have Hv20 := Lib.hid (HD.out.trans (hd.mono HD.out.size))
  clear hd
  refine hK.out _ _ ⟨hQ Hv20.out, hA Hv20.out⟩ (fun hHeld => ?_)
  clear hK K
  refine norm_ (a' := ?_) ?_ ?_
  rotate_left
  · show Act.put _ (some 28) _ = _
    simp only [Act.put, List.setIfInBounds_toArray, List.set_cons_zero, List.set_cons_succ, i64_w, i32_w]
    rfl
  refine pure_ (i := 3) (N := some 29) (v := ?_) (a' := ?_) #[true, true, true, true, false, false, false, false, false, false, false, false, false, false] rfl rfl (by kernel_rfl) (fun _ _ _ h => h) (Or.inl ⟨by rfl, ?_⟩) ?_ ?_
  rotate_left
  · intro w'
    go_simp
    with_reducible rfl
  rotate_left
  · simp only [Act.put, List.setIfInBounds_toArray, List.set_cons_zero, List.set_cons_succ, i64_w, i32_w]
    rfl
  refine pure_ (i := 4) (N := some 30) (v := ?_) (a' := ?_) #[true, true, true, true, true, false, false, false, false, false, false, false, false, false] rfl rfl (by kernel_rfl) (fun _ _ _ h => h) (Or.inl ⟨by rfl, ?_⟩) ?_ ?_
  rotate_left
  · intro w'
    go_simp
    with_reducible rfl
  rotate_left
  · simp only [Act.put, List.setIfInBounds_toArray, List.set_cons_zero, List.set_cons_succ, i64_w, i32_w]
    rfl
  refine pure_ (i := 5) (N := some 31) (v := ?_) (a' := ?_) #[true, true, true, true, true, true, false, false, false, false, false, false, false, false] rfl rfl (by kernel_rfl) (fun _ _ _ h => h) (Or.inl ⟨by rfl, ?_⟩) ?_ ?_
  rotate_left
  · intro w'
    go_simp
    with_reducible rfl
  rotate_left
  · simp only [Act.put, List.setIfInBounds_toArray, List.set_cons_zero, List.set_cons_succ, i64_w, i32_w]
    rfl
  refine pure_ (i := 6) (N := some 32) (v := ?_) (a' := ?_) #[true, true, true, true, true, true, true, false, false, false, false, false, false, false] rfl rfl (by kernel_rfl) (fun _ _ _ h => h) (Or.inl ⟨by rfl, ?_⟩) ?_ ?_
  rotate_left
  · intro w'
    go_simp
    with_reducible rfl
  rotate_left
  · simp only [Act.put, List.setIfInBounds_toArray, List.set_cons_zero, List.set_cons_succ, i64_w, i32_w]
    rfl
  refine pure_ (i := 7) (N := some 33) (v := ?_) (a' := ?_) #[true, true, true, true, true, true, true, true, false, false, false, false, false, false] rfl rfl (by kernel_rfl) (fun _ _ _ h => h) (Or.inl ⟨by rfl, ?_⟩) ?_ ?_
  rotate_left
  · intro w'
    go_simp
    with_reducible rfl
  rotate_left
  · simp only [Act.put, List.setIfInBounds_toArray, List.set_cons_zero, List.set_cons_succ, i64_w, i32_w]
    rfl
  refine take_ (i := 8) (N := some 34) (v := ?_) (a' := ?_) #[true, true, true, true, true, true, true, true, true, false, false, false, false, false] rfl rfl (by kernel_rfl) (fun _ _ _ h => h) (Or.inl ⟨by rfl, ?_⟩) hHeld ?_ ?_
  rotate_left
  · rintro w' ⟨s0, s1⟩
    refine exec_load30 (x := .tmp 7) ?_ ?_  s0
    · rfl
    · rfl
  rotate_left
  · simp only [Act.put, List.setIfInBounds_toArray, List.set_cons_zero, List.set_cons_succ, i64_w, i32_w]
    rfl
  refine take_ (i := 9) (N := some 35) (v := ?_) (a' := ?_) #[true, true, true, true, true, true, true, true, true, true, false, false, false, false] rfl rfl (by kernel_rfl) (fun _ _ _ h => h) (Or.inl ⟨by rfl, ?_⟩) hHeld ?_ ?_
  rotate_left
  · rintro w' ⟨s0, s1⟩
    refine exec_loadQ (x := .tmp 3) ?_ ?_  s1
    · rfl
    · rfl
  rotate_left
  · simp only [Act.put, List.setIfInBounds_toArray, List.set_cons_zero, List.set_cons_succ, i64_w, i32_w]
    rfl
  refine one_ (i := 10) (N := some 36) #[true, true, true, true, true, true, true, true, true, true, true, false, false, false] rfl rfl (by kernel_rfl) (by decide) (fun K hK => ?_)
  refine goes_ Tryd.func16 (by kernel_rfl) rfl #[.agg (slA g x y z)] (by rfl) rfl rfl (by simp only [List.map_toArray, List.map_cons, List.map_nil]; rfl) ?_
  with_reducible refine (rlay_y g x y z Y _ (rightB_rt HRt.out b1 b2 b3) HY).mono ?_
  rintro e v21 ⟨rfl, hd⟩
  refine ⟨_, rfl, ?_⟩
  have Hv21 := Lib.hid (Hv20.out.trans (hd.mono Hv20.out.size))
  clear hd
  refine hK.out _ _ ⟨hQ Hv21.out, hA Hv21.out⟩ (fun hHeld => ?_)
  clear hK K
  refine norm_ (a' := ?_) ?_ ?_
  rotate_left
  · show Act.put _ (some 36) _ = _
    simp only [Act.put, List.setIfInBounds_toArray, List.set_cons_zero, List.set_cons_succ, i64_w, i32_w]
    rfl
  refine pure_ (i := 11) (N := some 37) (v := ?_) (a' := ?_) #[true, true, true, true, true, true, true, true, true, true, true, true, false, false] rfl rfl (by kernel_rfl) (fun _ _ _ h => h) (Or.inl ⟨by rfl, ?_⟩) ?_ ?_
  rotate_left
  · intro w'
    refine exec_neq30 (x := .tmp 34) (y := .tmp 36) ?_ ?_ ?_  hnn
    · rfl
    · rfl
    · rfl
  rotate_left
  · simp only [Act.put, List.setIfInBounds_toArray, List.set_cons_zero, List.set_cons_succ, i64_w, i32_w]
    rfl
  refine pure_ (i := 12) (N := some 38) (v := ?_) (a' := ?_) #[true, true, true, true, true, true, true, true, true, true, true, true, true, false] rfl rfl (by kernel_rfl) (fun _ _ _ h => h) (Or.inl ⟨by rfl, ?_⟩) ?_ ?_
  rotate_left
  · intro w'
    go_simp
    with_reducible rfl
  rotate_left
  · simp only [Act.put, List.setIfInBounds_toArray, List.set_cons_zero, List.set_cons_succ, i64_w, i32_w]
    rfl
  refine pure_ (i := 13) (N := some 39) (v := ?_) (a' := ?_) #[true, true, true, true, true, true, true, true, true, true, true, true, true, true] rfl rfl (by kernel_rfl) (fun _ _ _ h => h) (Or.inl ⟨by rfl, ?_⟩) ?_ ?_
  rotate_left
  · intro w'
    go_simp
    with_reducible rfl
  rotate_left
  · simp only [Act.put, List.setIfInBounds_toArray, List.set_cons_zero, List.set_cons_succ, i64_w, i32_w]
    rfl
  refine done_ (by kernel_rfl) ?_
  have hd := Hv21.out
  have HP7 := blk_to HP6 hd
  have HX7 := Dk.below_to HX6 (Nat.le_refl _) hd
  have HL7 := Lib.hid (HL6.out.on hd)
  clear HD hQ hA hL
  clear hd HP6 HX6 HL6
  generalize v21 = w7 at *
  obtain ⟨T, hT⟩ : ∃ T, slotOf p = T := ⟨_, rfl⟩
  obtain ⟨f, hf⟩ : ∃ f, slotBad p = f := ⟨_, rfl⟩
  have HT := Lib.hid hT
  have HF := Lib.hid hf
  clear hT hf
  go_wp2_with (first | (refine wl_loadB (B + 1) p HP7.out rfl _ rfl rfl ?_))
  refine (read_u p _).mono ?_
  rintro e w8 ⟨⟨E, rfl, he⟩, hd⟩
  rw [HF.out] at he
  rw [HT.out]
  have HP8 := blk_to HP7 hd
  have HX8 := Dk.below_to HX7 (Nat.le_refl _) hd
  have HL8 := Lib.hid (HL7.out.on hd)
  have HE8 := Lib.hid he
  clear he hd HP7 HX7 HL7
  have hd : Below w8.heap.size w8 (w8.alloc (Obj.cells T.a 35 (0, 0))) := (Below.refl _ _).alloc (Nat.le_refl _) _
  have HP9 := blk_to HP8 hd
  have HX9 := Dk.below_to HX8 (Nat.le_refl _) hd
  have HL9 := Lib.hid (HL8.out.on hd)
  have HE9 := Lib.hid (HE8.out.on hd)
  have HU9 := Lib.hid (heap_alloc_last w8 (Obj.cells T.a 35 (0, 0)))
  clear hd HP8 HX8 HL8 HE8
  go_wp2_with (first
    | (refine wl_allocS rfl rfl ?_)
    | (refine wl_storeSn 0 0 0 0 T.g T.x T.y T.z rfl _ _ rfl rfl rfl ?_)
    | (refine wl_loadB (B + 1) p HP9.out rfl _ rfl rfl ?_))
  obtain ⟨U, hU⟩ : ∃ U, w8.heap.size = U := ⟨_, rfl⟩
  rw [hU] at HU9
  (try simp only [hU])
  generalize (w8.alloc (Obj.cells T.a 35 (0, 0))) = w9 at *
  clear hU
  refine (rread_c p _).mono ?_
  rintro e w10 ⟨rfl, hd⟩
  have HP10 := blk_to HP9 hd
  have HX10 := Dk.below_to HX9 (Nat.le_refl _) hd
  have HL10 := Lib.hid (HL9.out.on hd)
  have HE10 := Lib.hid (HE9.out.on hd)
  have HU10 := blk_to HU9 hd
  rw [HT.out, HF.out]
  clear hd HP9 HX9 HL9 HE9 HU9
  have hd : Below w10.heap.size w10 (w10.alloc (Obj.cells T.a 24 (0, 0))) := (Below.refl _ _).alloc (Nat.le_refl _) _
  have HP11 := blk_to HP10 hd
  have HX11 := Dk.below_to HX10 (Nat.le_refl _) hd
  have HL11 := Lib.hid (HL10.out.on hd)
  have HE11 := Lib.hid (HE10.out.on hd)
  have HU11 := blk_to HU10 hd
  have HV11 := Lib.hid (heap_alloc_last w10 (Obj.cells T.a 24 (0, 0)))
  clear hd HP10 HX10 HL10 HE10 HU10
  go_wp2_with (first
    | (refine wl_allocQ rfl rfl ?_)
    | (refine wl_storeQn 0 0 0 0 T.g T.x T.y T.z rfl _ _ rfl rfl rfl ?_))
  obtain ⟨V, hV⟩ : ∃ V, w10.heap.size = V := ⟨_, rfl⟩
  rw [hV] at HV11
  (try simp only [hV])
  generalize (w10.alloc (Obj.cells T.a 24 (0, 0))) = w11 at *
  clear hV
  have HD := Lib.hid (show Below w11.heap.size w11 w11.drew from (Below.refl _ _).drew)
  have hU := fun {w' : World} (k : Below w11.heap.size w11 w') => (blk_to HU11 k).out
  have hV := fun {w' : World} (k : Below w11.heap.size w11 w') => (blk_to HV11 k).out
  have hE := fun {w' : World} (k : Below w11.heap.size w11 w') => (HE11.out.on k)
  have hL := fun {w' : World} (k : Below w11.heap.size w11 w') => (HL11.out.on k)
  have hqq := eqR_self T.g T.x T.y T.z
  have hff : (f == f) = true := beq_self_eq_true f
  refine start_ (n := 11) (S := fun w' => w'.heap[U]? = some (Obj.cells (slA T.g T.x T.y T.z) 35 (0, 0)) ∧ w'.heap[V]? = some (Obj.cells (slA T.g T.x T.y T.z) 24 (0, 0))) (ds := []) #[false, false, false, false, false, false, false, false, false, false, false] (by kernel_rfl) rfl rfl ⟨hU HD.out, hV HD.out⟩ (fun hHeld => ?_)
  refine pure_ (i := 0) (N := some 65) (v := ?_) (a' := ?_) #[true, false, false, false, false, false, false, false, false, false, false] rfl rfl (by kernel_rfl) (fun _ _ _ h => h) (Or.inl ⟨by rfl, ?_⟩) ?_ ?_
  rotate_left
  · intro w'
    go_simp
    with_reducible rfl
  rotate_left
  · simp only [Act.put, List.setIfInBounds_toArray, List.set_cons_zero, List.set_cons_succ, i64_w, i32_w]
    rfl
  refine pure_ (i := 2) (N := some 67) (v := ?_) (a' := ?_) #[true, false, true, false, false, false, false, false, false, false, false] rfl rfl (by kernel_rfl) (fun _ _ _ h => h) (Or.inl ⟨by rfl, ?_⟩) ?_ ?_
  rotate_left
  · intro w'
    go_simp
    with_reducible rfl
  rotate_left
  · simp only [Act.put, List.setIfInBounds_toArray, List.set_cons_zero, List.set_cons_succ, i64_w, i32_w]
    rfl
  refine one_ (i := 1) (N := some 66) #[true, true, true, false, false, false, false, false, false, false, false] rfl rfl (by kernel_rfl) (by decide) (fun K hK => ?_)
  refine goes_ Tryd.func12 (by kernel_rfl) rfl #[E] (by rfl) rfl rfl (by simp only [List.map_toArray, List.map_cons, List.map_nil]; rfl) ?_
  with_reducible refine (code_c _ f _ (Lib.hid (hE HD.out)) (Lib.hid (hL HD.out))).mono ?_
  rintro e v20 ⟨rfl, hd⟩
  refine ⟨_, rfl, ?_⟩
  have Hv20 := Lib.hid (HD.out.trans (hd.mono HD.out.size))
  clear hd
  refine hK.out _ _ ⟨hU Hv20.out, hV Hv20.out⟩ (fun hHeld => ?_)
  clear hK K
  refine norm_ (a' := ?_) ?_ ?_
  rotate_left
  · show Act.put _ (some 66) _ = _
    simp only [Act.put, List.setIfInBounds_toArray, List.set_cons_zero, List.set_cons_succ, i64_w, i32_w]
    rfl
  refine pure_ (i := 3) (N := some 68) (v := ?_) (a' := ?_) #[true, true, true, true, false, false, false, false, false, false, false] rfl rfl (by kernel_rfl) (fun _ _ _ h => h) (Or.inl ⟨by rfl, ?_⟩) ?_ ?_
  rotate_left
  · intro w'
    go_simp
    with_reducible rfl
  rotate_left
  · simp only [Act.put, List.setIfInBounds_toArray, List.set_cons_zero, List.set_cons_succ, i64_w, i32_w]
    rfl
  refine pure_ (i := 4) (N := some 69) (v := ?_) (a' := ?_) #[true, true, true, true, true, false, false, false, false, false, false] rfl rfl (by kernel_rfl) (fun _ _ _ h => h) (Or.inl ⟨by rfl, ?_⟩) ?_ ?_
  rotate_left
  · intro w'
    go_simp
    with_reducible rfl
  rotate_left
  · simp only [Act.put, List.setIfInBounds_toArray, List.set_cons_zero, List.set_cons_succ, i64_w, i32_w]
    rfl
  refine take_ (i := 5) (N := some 70) (v := ?_) (a' := ?_) #[true, true, true, true, true, true, false, false, false, false, false] rfl rfl (by kernel_rfl) (fun _ _ _ h => h) (Or.inl ⟨by rfl, ?_⟩) hHeld ?_ ?_
  rotate_left
  · rintro w' ⟨s0, s1⟩
    refine exec_loadS (x := .tmp 12) ?_ ?_  s0
    · rfl
    · rfl
  rotate_left
  · simp only [Act.put, List.setIfInBounds_toArray, List.set_cons_zero, List.set_cons_succ, i64_w, i32_w]
    rfl
  refine take_ (i := 7) (N := some 72) (v := ?_) (a' := ?_) #[true, true, true, true, true, true, false, true, false, false, false] rfl rfl (by kernel_rfl) (fun _ _ _ h => h) (Or.inl ⟨by rfl, ?_⟩) hHeld ?_ ?_
  rotate_left
  · rintro w' ⟨s0, s1⟩
    refine exec_loadQ (x := .tmp 14) ?_ ?_  s1
    · rfl
    · rfl
  rotate_left
  · simp only [Act.put, List.setIfInBounds_toArray, List.set_cons_zero, List.set_cons_succ, i64_w, i32_w]
    rfl
  refine one_ (i := 6) (N := some 71) #[true, true, true, true, true, true, true, true, false, false, false] rfl rfl (by kernel_rfl) (by decide) (fun K hK => ?_)
  refine goes_ Tryd.func14 (by kernel_rfl) rfl #[.agg (slA T.g T.x T.y T.z)] (by rfl) rfl rfl (by simp only [List.map_toArray, List.map_cons, List.map_nil]; rfl) ?_
  with_reducible refine (plain_c T.g T.x T.y T.z _).mono ?_
  rintro e v21 ⟨rfl, hd⟩
  refine ⟨_, rfl, ?_⟩
  have Hv21 := Lib.hid (Hv20.out.trans (hd.mono Hv20.out.size))
  clear hd
  refine hK.out _ _ ⟨hU Hv21.out, hV Hv21.out⟩ (fun hHeld => ?_)
  clear hK K
  refine norm_ (a' := ?_) ?_ ?_
  rotate_left
  · show Act.put _ (some 71) _ = _
    simp only [Act.put, List.setIfInBounds_toArray, List.set_cons_zero, List.set_cons_succ, i64_w, i32_w]
    rfl
  refine pure_ (i := 8) (N := some 73) (v := ?_) (a' := ?_) #[true, true, true, true, true, true, true, true, true, false, false] rfl rfl (by kernel_rfl) (fun _ _ _ h => h) (Or.inl ⟨by rfl, ?_⟩) ?_ ?_
  rotate_left
  · intro w'
    refine exec_eqR (x := .tmp 71) (y := .tmp 72) ?_ ?_ ?_  hqq
    · rfl
    · rfl
    · rfl
  rotate_left
  · simp only [Act.put, List.setIfInBounds_toArray, List.set_cons_zero, List.set_cons_succ, i64_w, i32_w]
    rfl
  refine pure_ (i := 9) (N := some 74) (v := ?_) (a' := ?_) #[true, true, true, true, true, true, true, true, true, true, false] rfl rfl (by kernel_rfl) (fun _ _ _ h => h) (Or.inl ⟨by rfl, ?_⟩) ?_ ?_
  rotate_left
  · intro w'
    go_simp
    with_reducible rfl
  rotate_left
  · simp only [Act.put, List.setIfInBounds_toArray, List.set_cons_zero, List.set_cons_succ, i64_w, i32_w]
    rfl
  refine pure_ (i := 10) (N := some 6) (v := ?_) (a' := ?_) #[true, true, true, true, true, true, true, true, true, true, true] rfl rfl (by kernel_rfl) (fun _ _ _ h => h) (Or.inl ⟨by rfl, ?_⟩) ?_ ?_
  rotate_left
  · intro w'
    go_simp
    with_reducible rfl
  rotate_left
  · simp only [Act.put, List.setIfInBounds_toArray, List.set_cons_zero, List.set_cons_succ, i64_w, i32_w]
    rfl
  refine done_ (by kernel_rfl) ?_
  go_wp2_with fail
  go_ret
  exact ⟨rfl, HX11.out.trans (Hv21.out.mono HX11.out.size)⟩
set_option maxHeartbeats 16000000 in
set_option maxRecDepth 100000 in
theorem case_ft (g x y z : Int) (p : Pg) (W : World) (b1 : g < 4294967296) (b2 : 0 ≤ z) (b3 : z < 4294967296) (hr : Hid (rightB g x y z = false)) (hg : Hid (Laid W)) : Calls Tryd.prog 4 #[.agg (slA g x y z), pv p, .bool true] W fun e w' => e = .returned (.bool true) ∧ Below W.heap.size W w' := by
  have HRt := hr
  go_enter Tryd.func4, Tryd.ntmps4
  have hpv := pv_eq p
  go_wp2_with fail
  clear hpv
  obtain ⟨HA1, HP1, HX1⟩ := alloc2 W (Obj.cells (slA g x y z) 24 (0, 0)) (Obj.cells (pa p) 26 (0, 0))
  have HL1 := Lib.hid (hg.out.on HX1.out)
  obtain ⟨B, hB⟩ : ∃ B, W.heap.size = B := ⟨_, rfl⟩
  rw [hB] at HA1 HP1
  (try rw [alloc_size])
  simp only [hB]
  have HBW := Lib.hid hB
  clear hB
  generalize ((W.alloc (Obj.cells (slA g x y z) 24 (0, 0))).alloc (Obj.cells (pa p) 26 (0, 0))) = w1 at *
  refine (awake_c _ HL1).mono ?_
  rintro e w2 ⟨rfl, hd⟩
  have HA2 := blk_to HA1 hd
  have HP2 := blk_to HP1 hd
  have HX2 := Dk.below_to HX1 (Nat.le_refl _) hd
  have HL2 := Lib.hid (HL1.out.on hd)
  clear hd HA1 HP1 HX1 HL1
  go_wp2_with (first | (refine wl_loadQ B g x y z HA2.out rfl _ rfl rfl ?_))
  refine (of_c g x y z _).mono ?_
  rintro e w3 ⟨rfl, hd⟩
  have HA3 := blk_to HA2 hd
  have HP3 := blk_to HP2 hd
  have HX3 := Dk.below_to HX2 (Nat.le_refl _) hd
  have HL3 := Lib.hid (HL2.out.on hd)
  clear hd HA2 HP2 HX2 HL2
  go_wp2_with fail
  refine (lay_no g x y z _ HRt).mono ?_
  rintro e w4 ⟨⟨T0, u0, rfl, he⟩, hd⟩
  have HA4 := blk_to HA3 hd
  have HP4 := blk_to HP3 hd
  have HX4 := Dk.below_to HX3 (Nat.le_refl _) hd
  have HL4 := Lib.hid (HL3.out.on hd)
  have HZ4 := Lib.hid he
  clear he hd HA3 HP3 HX3 HL3
  have hd : Below w4.heap.size w4 (w4.alloc (Obj.cells (pa pz) 27 (0, 0))) := (Below.refl _ _).alloc (Nat.le_refl _) _
  have HA5 := blk_to HA4 hd
  have HP5 := blk_to HP4 hd
  have HX5 := Dk.below_to HX4 (Nat.le_refl _) hd
  have HL5 := Lib.hid (HL4.out.on hd)
  have HZ5 := Lib.hid (HZ4.out.on hd)
  have HQ5 := Lib.hid (heap_alloc_last w4 (Obj.cells (pa pz) 27 (0, 0)))
  clear hd HA4 HP4 HX4 HL4 HZ4
  go_wp2_with (first
    | (refine wl_alloc30 rfl rfl ?_)
    | (refine wl_store30n pz pz rfl _ _ rfl rfl rfl ?_)
    | (refine wl_loadQ B g x y z HA5.out rfl _ rfl rfl ?_))
  obtain ⟨Q, hQ⟩ : ∃ Q, w4.heap.size = Q := ⟨_, rfl⟩
  rw [hQ] at HQ5
  (try simp only [hQ])
  generalize (w4.alloc (Obj.cells (pa pz) 27 (0, 0))) = w5 at *
  clear hQ
  refine (rright_c g x y z false _ HRt).mono ?_
  rintro e w6 ⟨rfl, hd⟩
  have HA6 := blk_to HA5 hd
  have HP6 := blk_to HP5 hd
  have HX6 := Dk.below_to HX5 (Nat.le_refl _) hd
  have HL6 := Lib.hid (HL5.out.on hd)
  have HZ6 := Lib.hid (HZ5.out.on hd)
  have HQ6 := blk_to HQ5 hd
  clear hd HA5 HP5 HX5 HL5 HZ5 HQ5
  go_wp2_with fail
  have HD := Lib.hid (show Below w6.heap.size w6 w6.drew from (Below.refl _ _).drew)
  have hQ := fun {w' : World} (k : Below w6.heap.size w6 w') => (blk_to HQ6 k).out
  have hA := fun {w' : World} (k : Below w6.heap.size w6 w') => (blk_to HA6 k).out
  have hL := fun {w' : World} (k : Below w6.heap.size w6 w') => HL6.out.on k
  have hZ := fun {w' : World} (k : Below w6.heap.size w6 w') => HZ6.out.on k
  refine start_ (n := 14) (S := fun w' => True) (ds := []) #[false, false, false, false, false, false, false, false, false, false, false, false, false, false] (by kernel_rfl) rfl rfl trivial (fun hHeld => ?_)
  refine pure_ (i := 0) (N := some 26) (v := ?_) (a' := ?_) #[true, false, false, false, false, false, false, false, false, false, false, false, false, false] rfl rfl (by kernel_rfl) (fun _ _ _ h => h) (Or.inl ⟨by rfl, ?_⟩) ?_ ?_
  rotate_left
  · intro w'
    go_simp
    with_reducible rfl
  rotate_left
  · simp only [Act.put, List.setIfInBounds_toArray, List.set_cons_zero, List.set_cons_succ, i64_w, i32_w]
    rfl
  refine pure_ (i := 1) (N := some 27) (v := ?_) (a' := ?_) #[true, true, false, false, false, false, false, false, false, false, false, false, false, false] rfl rfl (by kernel_rfl) (fun _ _ _ h => h) (Or.inl ⟨by rfl, ?_⟩) ?_ ?_
  rotate_left
  · intro w'
    go_simp
    with_reducible rfl
  rotate_left
  · simp only [Act.put, List.setIfInBounds_toArray, List.set_cons_zero, List.set_cons_succ, i64_w, i32_w]
    rfl
  refine one_ (i := 2) (N := some 28) #[true, true, true, false, false, false, false, false, false, false, false, false, false, false] rfl rfl (by kernel_rfl) (by decide) (fun K hK => ?_)
  refine goes_ Tryd.func12 (by kernel_rfl) rfl #[.iface T0 u0] (by rfl) rfl rfl (by simp only [List.map_toArray, List.map_cons, List.map_nil]; rfl) ?_
  with_reducible refine (code_c _ 1 _ (Lib.hid (hZ HD.out)) (Lib.hid (hL HD.out))).mono ?_
  rintro e v20 ⟨rfl, hd⟩
  refine ⟨_, rfl, ?_⟩
  have Hv20 := Lib.hid (HD.out.trans (hd.mono HD.out.size))
  clear hd
  refine hK.out _ _ trivial (fun hHeld => ?_)
  clear hK K
  refine norm_ (a' := ?_) ?_ ?_
  rotate_left
  · show Act.put _ (some 28) _ = _
    simp only [Act.put, List.setIfInBounds_toArray, List.set_cons_zero, List.set_cons_succ, i64_w, i32_w]
    rfl
  refine pure_ (i := 3) (N := some 29) (v := ?_) (a' := ?_) #[true, true, true, true, false, false, false, false, false, false, false, false, false, false] rfl rfl (by kernel_rfl) (fun _ _ _ h => h) (Or.inl ⟨by rfl, ?_⟩) ?_ ?_
  rotate_left
  · intro w'
    go_simp
    with_reducible rfl
  rotate_left
  · simp only [Act.put, List.setIfInBounds_toArray, List.set_cons_zero, List.set_cons_succ, i64_w, i32_w]
    rfl
  refine pure_ (i := 4) (N := some 30) (v := ?_) (a' := ?_) #[true, true, true, true, true, false, false, false, false, false, false, false, false, false] rfl rfl (by kernel_rfl) (fun _ _ _ h => h) (Or.inl ⟨by rfl, ?_⟩) ?_ ?_
  rotate_left
  · intro w'
    go_simp
    with_reducible rfl
  rotate_left
  · simp only [Act.put, List.setIfInBounds_toArray, List.set_cons_zero, List.set_cons_succ, i64_w, i32_w]
    rfl
  refine pure_ (i := 5) (N := some 31) (v := ?_) (a' := ?_) #[true, true, true, true, true, true, false, false, false, false, false, false, false, false] rfl rfl (by kernel_rfl) (fun _ _ _ h => h) (Or.inl ⟨by rfl, ?_⟩) ?_ ?_
  rotate_left
  · intro w'
    go_simp
    with_reducible rfl
  rotate_left
  · simp only [Act.put, List.setIfInBounds_toArray, List.set_cons_zero, List.set_cons_succ, i64_w, i32_w]
    rfl
  refine pure_ (i := 6) (N := some 32) (v := ?_) (a' := ?_) #[true, true, true, true, true, true, true, false, false, false, false, false, false, false] rfl rfl (by kernel_rfl) (fun _ _ _ h => h) (Or.inl ⟨by rfl, ?_⟩) ?_ ?_
  rotate_left
  · intro w'
    go_simp
    with_reducible rfl
  rotate_left
  · simp only [Act.put, List.setIfInBounds_toArray, List.set_cons_zero, List.set_cons_succ, i64_w, i32_w]
    rfl
  refine pure_ (i := 7) (N := some 33) (v := ?_) (a' := ?_) #[true, true, true, true, true, true, true, true, false, false, false, false, false, false] rfl rfl (by kernel_rfl) (fun _ _ _ h => h) (Or.inl ⟨by rfl, ?_⟩) ?_ ?_
  rotate_left
  · intro w'
    go_simp
    with_reducible rfl
  rotate_left
  · simp only [Act.put, List.setIfInBounds_toArray, List.set_cons_zero, List.set_cons_succ, i64_w, i32_w]
    rfl
  refine pure_ (i := 8) (N := some 34) (v := undef) (a' := ?_) #[true, true, true, true, true, true, true, true, true, false, false, false, false, false] rfl rfl (by kernel_rfl) (fun _ _ _ h => h) (Or.inr ⟨by rfl, rfl⟩) ?_ ?_
  rotate_left
  · simp only [Act.put, List.setIfInBounds_toArray, List.set_cons_zero, List.set_cons_succ, i64_w, i32_w]
    rfl
  refine pure_ (i := 9) (N := some 35) (v := undef) (a' := ?_) #[true, true, true, true, true, true, true, true, true, true, false, false, false, false] rfl rfl (by kernel_rfl) (fun _ _ _ h => h) (Or.inr ⟨by rfl, rfl⟩) ?_ ?_
  rotate_left
  · simp only [Act.put, List.setIfInBounds_toArray, List.set_cons_zero, List.set_cons_succ, i64_w, i32_w]
    rfl
  refine pure_ (i := 10) (N := some 36) (v := undef) (a' := ?_) #[true, true, true, true, true, true, true, true, true, true, true, false, false, false] rfl rfl (by kernel_rfl) (fun _ _ _ h => h) (Or.inr ⟨by rfl, rfl⟩) ?_ ?_
  rotate_left
  · simp only [Act.put, List.setIfInBounds_toArray, List.set_cons_zero, List.set_cons_succ, i64_w, i32_w]
    rfl
  refine pure_ (i := 11) (N := some 37) (v := undef) (a' := ?_) #[true, true, true, true, true, true, true, true, true, true, true, true, false, false] rfl rfl (by kernel_rfl) (fun _ _ _ h => h) (Or.inr ⟨by rfl, rfl⟩) ?_ ?_
  rotate_left
  · simp only [Act.put, List.setIfInBounds_toArray, List.set_cons_zero, List.set_cons_succ, i64_w, i32_w]
    rfl
  refine pure_ (i := 12) (N := some 38) (v := ?_) (a' := ?_) #[true, true, true, true, true, true, true, true, true, true, true, true, true, false] rfl rfl (by kernel_rfl) (fun _ _ _ h => h) (Or.inl ⟨by rfl, ?_⟩) ?_ ?_
  rotate_left
  · intro w'
    go_simp
    with_reducible rfl
  rotate_left
  · simp only [Act.put, List.setIfInBounds_toArray, List.set_cons_zero, List.set_cons_succ, i64_w, i32_w]
    rfl
  refine pure_ (i := 13) (N := some 39) (v := ?_) (a' := ?_) #[true, true, true, true, true, true, true, true, true, true, true, true, true, true] rfl rfl (by kernel_rfl) (fun _ _ _ h => h) (Or.inl ⟨by rfl, ?_⟩) ?_ ?_
  rotate_left
  · intro w'
    go_simp
    with_reducible rfl
  rotate_left
  · simp only [Act.put, List.setIfInBounds_toArray, List.set_cons_zero, List.set_cons_succ, i64_w, i32_w]
    rfl
  refine done_ (by kernel_rfl) ?_
  have hd := Hv20.out
  have HP7 := blk_to HP6 hd
  have HX7 := Dk.below_to HX6 (Nat.le_refl _) hd
  have HL7 := Lib.hid (HL6.out.on hd)
  clear HD hQ hA hL hZ
  clear hd HP6 HX6 HL6
  generalize v20 = w7 at *
  go_wp2_with (first | (refine wl_convB (B + 1) p 0 60 64 HP7.out (by decide) rfl _ rfl rfl ?_))
  have hs60 : (sub p 0 60).size = 60 := sub_size _ _ _ (by decide)
  obtain ⟨U0, hU0⟩ : ∃ U0, sub p 0 60 = U0 := ⟨_, rfl⟩
  rw [hU0] at hs60
  (try rw [hU0])
  refine (RSm.refsum_c U0 (by omega) _).mono ?_
  rintro e w8 ⟨rfl, hd⟩
  have HP8 := blk_to HP7 hd
  have HX8 := Dk.below_to HX7 (Nat.le_refl _) hd
  have HL8 := Lib.hid (HL7.out.on hd)
  clear hd HP7 HX7 HL7
  go_wp2_with fail
  have hsl := sum_lt U0
  obtain ⟨s0, hs0⟩ : ∃ s0, sum U0 = s0 := ⟨_, rfl⟩
  rw [hs0] at hsl ⊢
  refine (rfour_c s0 hsl _).mono ?_
  rintro e w9 ⟨rfl, hd⟩
  have HP9 := blk_to HP8 hd
  have HX9 := Dk.below_to HX8 (Nat.le_refl _) hd
  have HL9 := Lib.hid (HL8.out.on hd)
  clear hd HP8 HX8 HL8
  go_wp2_with fail
  have hfs := fourS_size s0
  obtain ⟨F, hF⟩ : ∃ F, fourS s0 = F := ⟨_, rfl⟩
  rw [hF] at hfs ⊢
  clear hF hs0 hsl hU0 hs60
  go_loopg [11] 4 (fun kq v0 wr => ∃ (i : Nat) (q : Pg), v0 = .int .i64 (i : Int) ∧ kq + i = 4 ∧ Hid (wr.heap[B + 1]? = some (Obj.cells (pa q) 26 (0, 0))) ∧ Hid (Below W.heap.size W wr) ∧ Hid (Laid wr))
  case atStart => exact ⟨0, p, rfl, rfl, HP9, HX9, HL9⟩
  case round =>
    clear HP9 HX9 HL9
    obtain ⟨i, q, rfl, hk, HP, HX, HL⟩ := hrel
    cases gk with
    | zero =>
      have hi : i = 4 := by omega
      subst hi
      clear hk
      generalize wr = w10 at *
      have HP10 := HP
      have HX10 := HX
      have HL10 := HL
      clear HP HX HL
      obtain ⟨T, hT⟩ : ∃ T, slotOf q = T := ⟨_, rfl⟩
      obtain ⟨f, hf⟩ : ∃ f, slotBad q = f := ⟨_, rfl⟩
      have HT := Lib.hid hT
      have HF := Lib.hid hf
      clear hT hf
      go_wp2_with (first | (refine wl_loadB (B + 1) q HP10.out rfl _ rfl rfl ?_))
      refine (read_u q _).mono ?_
      rintro e w11 ⟨⟨E, rfl, he⟩, hd⟩
      rw [HF.out] at he
      rw [HT.out]
      have HP11 := blk_to HP10 hd
      have HX11 := Dk.below_to HX10 (Nat.le_refl _) hd
      have HL11 := Lib.hid (HL10.out.on hd)
      have HE11 := Lib.hid he
      clear he hd HP10 HX10 HL10
      have hd : Below w11.heap.size w11 (w11.alloc (Obj.cells T.a 35 (0, 0))) := (Below.refl _ _).alloc (Nat.le_refl _) _
      have HP12 := blk_to HP11 hd
      have HX12 := Dk.below_to HX11 (Nat.le_refl _) hd
      have HL12 := Lib.hid (HL11.out.on hd)
      have HE12 := Lib.hid (HE11.out.on hd)
      have HU12 := Lib.hid (heap_alloc_last w11 (Obj.cells T.a 35 (0, 0)))
      clear hd HP11 HX11 HL11 HE11
      go_wp2_with (first
        | (refine wl_allocS rfl rfl ?_)
        | (refine wl_storeSn 0 0 0 0 T.g T.x T.y T.z rfl _ _ rfl rfl rfl ?_)
        | (refine wl_loadB (B + 1) q HP12.out rfl _ rfl rfl ?_))
      obtain ⟨U, hU⟩ : ∃ U, w11.heap.size = U := ⟨_, rfl⟩
      rw [hU] at HU12
      (try simp only [hU])
      generalize (w11.alloc (Obj.cells T.a 35 (0, 0))) = w12 at *
      clear hU
      refine (rread_c q _).mono ?_
      rintro e w13 ⟨rfl, hd⟩
      have HP13 := blk_to HP12 hd
      have HX13 := Dk.below_to HX12 (Nat.le_refl _) hd
      have HL13 := Lib.hid (HL12.out.on hd)
      have HE13 := Lib.hid (HE12.out.on hd)
      have HU13 := blk_to HU12 hd
      rw [HT.out, HF.out]
      clear hd HP12 HX12 HL12 HE12 HU12
      have hd : Below w13.heap.size w13 (w13.alloc (Obj.cells T.a 24 (0, 0))) := (Below.refl _ _).alloc (Nat.le_refl _) _
      have HP14 := blk_to HP13 hd
      have HX14 := Dk.below_to HX13 (Nat.le_refl _) hd
      have HL14 := Lib.hid (HL13.out.on hd)
      have HE14 := Lib.hid (HE13.out.on hd)
      have HU14 := blk_to HU13 hd
      have HV14 := Lib.hid (heap_alloc_last w13 (Obj.cells T.a 24 (0, 0)))
      clear hd HP13 HX13 HL13 HE13 HU13
      go_wp2_with (first
        | (refine wl_allocQ rfl rfl ?_)
        | (refine wl_storeQn 0 0 0 0 T.g T.x T.y T.z rfl _ _ rfl rfl rfl ?_))
      obtain ⟨V, hV⟩ : ∃ V, w13.heap.size = V := ⟨_, rfl⟩
      rw [hV] at HV14
      (try simp only [hV])
      generalize (w13.alloc (Obj.cells T.a 24 (0, 0))) = w14 at *
      clear hV
      have HD := Lib.hid (show Below w14.heap.size w14 w14.drew from (Below.refl _ _).drew)
      have hU := fun {w' : World} (k : Below w14.heap.size w14 w') => (blk_to HU14 k).out
      have hV := fun {w' : World} (k : Below w14.heap.size w14 w') => (blk_to HV14 k).out
      have hE := fun {w' : World} (k : Below w14.heap.size w14 w') => (HE14.out.on k)
      have hL := fun {w' : World} (k : Below w14.heap.size w14 w') => (HL14.out.on k)
      have hqq := eqR_self T.g T.x T.y T.z
      have hff : (f == f) = true := beq_self_eq_true f
      refine start_ (n := 11) (S := fun w' => w'.heap[U]? = some (Obj.cells (slA T.g T.x T.y T.z) 35 (0, 0)) ∧ w'.heap[V]? = some (Obj.cells (slA T.g T.x T.y T.z) 24 (0, 0))) (ds := []) #[false, false, false, false, false, false, false, false, false, false, false] (by kernel_rfl) rfl rfl ⟨hU HD.out, hV HD.out⟩ (fun hHeld => ?_)
      refine pure_ (i := 0) (N := some 65) (v := ?_) (a' := ?_) #[true, false, false, false, false, false, false, false, false, false, false] rfl rfl (by kernel_rfl) (fun _ _ _ h => h) (Or.inl ⟨by rfl, ?_⟩) ?_ ?_
      rotate_left
      · intro w'
        go_simp
        with_reducible rfl
      rotate_left
      · simp only [Act.put, List.setIfInBounds_toArray, List.set_cons_zero, List.set_cons_succ, i64_w, i32_w]
        rfl
      refine pure_ (i := 2) (N := some 67) (v := ?_) (a' := ?_) #[true, false, true, false, false, false, false, false, false, false, false] rfl rfl (by kernel_rfl) (fun _ _ _ h => h) (Or.inl ⟨by rfl, ?_⟩) ?_ ?_
      rotate_left
      · intro w'
        go_simp
        with_reducible rfl
      rotate_left
      · simp only [Act.put, List.setIfInBounds_toArray, List.set_cons_zero, List.set_cons_succ, i64_w, i32_w]
        rfl
      refine one_ (i := 1) (N := some 66) #[true, true, true, false, false, false, false, false, false, false, false] rfl rfl (by kernel_rfl) (by decide) (fun K hK => ?_)
      refine goes_ Tryd.func12 (by kernel_rfl) rfl #[E] (by rfl) rfl rfl (by simp only [List.map_toArray, List.map_cons, List.map_nil]; rfl) ?_
      with_reducible refine (code_c _ f _ (Lib.hid (hE HD.out)) (Lib.hid (hL HD.out))).mono ?_
      rintro e v20 ⟨rfl, hd⟩
      refine ⟨_, rfl, ?_⟩
      have Hv20 := Lib.hid (HD.out.trans (hd.mono HD.out.size))
      clear hd
      refine hK.out _ _ ⟨hU Hv20.out, hV Hv20.out⟩ (fun hHeld => ?_)
      clear hK K
      refine norm_ (a' := ?_) ?_ ?_
      rotate_left
      · show Act.put _ (some 66) _ = _
        simp only [Act.put, List.setIfInBounds_toArray, List.set_cons_zero, List.set_cons_succ, i64_w, i32_w]
        rfl
      refine pure_ (i := 3) (N := some 68) (v := ?_) (a' := ?_) #[true, true, true, true, false, false, false, false, false, false, false] rfl rfl (by kernel_rfl) (fun _ _ _ h => h) (Or.inl ⟨by rfl, ?_⟩) ?_ ?_
      rotate_left
      · intro w'
        go_simp
        with_reducible rfl
      rotate_left
      · simp only [Act.put, List.setIfInBounds_toArray, List.set_cons_zero, List.set_cons_succ, i64_w, i32_w]
        rfl
      refine pure_ (i := 4) (N := some 69) (v := ?_) (a' := ?_) #[true, true, true, true, true, false, false, false, false, false, false] rfl rfl (by kernel_rfl) (fun _ _ _ h => h) (Or.inl ⟨by rfl, ?_⟩) ?_ ?_
      rotate_left
      · intro w'
        go_simp
        with_reducible rfl
      rotate_left
      · simp only [Act.put, List.setIfInBounds_toArray, List.set_cons_zero, List.set_cons_succ, i64_w, i32_w]
        rfl
      refine take_ (i := 5) (N := some 70) (v := ?_) (a' := ?_) #[true, true, true, true, true, true, false, false, false, false, false] rfl rfl (by kernel_rfl) (fun _ _ _ h => h) (Or.inl ⟨by rfl, ?_⟩) hHeld ?_ ?_
      rotate_left
      · rintro w' ⟨s0, s1⟩
        refine exec_loadS (x := .tmp 12) ?_ ?_  s0
        · rfl
        · rfl
      rotate_left
      · simp only [Act.put, List.setIfInBounds_toArray, List.set_cons_zero, List.set_cons_succ, i64_w, i32_w]
        rfl
      refine take_ (i := 7) (N := some 72) (v := ?_) (a' := ?_) #[true, true, true, true, true, true, false, true, false, false, false] rfl rfl (by kernel_rfl) (fun _ _ _ h => h) (Or.inl ⟨by rfl, ?_⟩) hHeld ?_ ?_
      rotate_left
      · rintro w' ⟨s0, s1⟩
        refine exec_loadQ (x := .tmp 14) ?_ ?_  s1
        · rfl
        · rfl
      rotate_left
      · simp only [Act.put, List.setIfInBounds_toArray, List.set_cons_zero, List.set_cons_succ, i64_w, i32_w]
        rfl
      refine one_ (i := 6) (N := some 71) #[true, true, true, true, true, true, true, true, false, false, false] rfl rfl (by kernel_rfl) (by decide) (fun K hK => ?_)
      refine goes_ Tryd.func14 (by kernel_rfl) rfl #[.agg (slA T.g T.x T.y T.z)] (by rfl) rfl rfl (by simp only [List.map_toArray, List.map_cons, List.map_nil]; rfl) ?_
      with_reducible refine (plain_c T.g T.x T.y T.z _).mono ?_
      rintro e v21 ⟨rfl, hd⟩
      refine ⟨_, rfl, ?_⟩
      have Hv21 := Lib.hid (Hv20.out.trans (hd.mono Hv20.out.size))
      clear hd
      refine hK.out _ _ ⟨hU Hv21.out, hV Hv21.out⟩ (fun hHeld => ?_)
      clear hK K
      refine norm_ (a' := ?_) ?_ ?_
      rotate_left
      · show Act.put _ (some 71) _ = _
        simp only [Act.put, List.setIfInBounds_toArray, List.set_cons_zero, List.set_cons_succ, i64_w, i32_w]
        rfl
      refine pure_ (i := 8) (N := some 73) (v := ?_) (a' := ?_) #[true, true, true, true, true, true, true, true, true, false, false] rfl rfl (by kernel_rfl) (fun _ _ _ h => h) (Or.inl ⟨by rfl, ?_⟩) ?_ ?_
      rotate_left
      · intro w'
        refine exec_eqR (x := .tmp 71) (y := .tmp 72) ?_ ?_ ?_  hqq
        · rfl
        · rfl
        · rfl
      rotate_left
      · simp only [Act.put, List.setIfInBounds_toArray, List.set_cons_zero, List.set_cons_succ, i64_w, i32_w]
        rfl
      refine pure_ (i := 9) (N := some 74) (v := ?_) (a' := ?_) #[true, true, true, true, true, true, true, true, true, true, false] rfl rfl (by kernel_rfl) (fun _ _ _ h => h) (Or.inl ⟨by rfl, ?_⟩) ?_ ?_
      rotate_left
      · intro w'
        go_simp
        with_reducible rfl
      rotate_left
      · simp only [Act.put, List.setIfInBounds_toArray, List.set_cons_zero, List.set_cons_succ, i64_w, i32_w]
        rfl
      refine pure_ (i := 10) (N := some 6) (v := ?_) (a' := ?_) #[true, true, true, true, true, true, true, true, true, true, true] rfl rfl (by kernel_rfl) (fun _ _ _ h => h) (Or.inl ⟨by rfl, ?_⟩) ?_ ?_
      rotate_left
      · intro w'
        go_simp
        with_reducible rfl
      rotate_left
      · simp only [Act.put, List.setIfInBounds_toArray, List.set_cons_zero, List.set_cons_succ, i64_w, i32_w]
        rfl
      refine done_ (by kernel_rfl) ?_
      go_wp2_with fail
      go_ret
      exact ⟨rfl, HX14.out.trans (Hv21.out.mono HX14.out.size)⟩
    | succ k1 =>
      have hi4 : i < 4 := by omega
      have hlt : i < F.size := by omega
      have c1 : decide ((i : Int) < 4) = true := decide_eq_true (by omega)
      have c1' : decide (i < 4) = true := decide_eq_true hi4
      have p1 : (0 ≤ (i : Int)) = True := eq_true (by omega)
      have p2 : ((i : Int) < (F.size : Int)) = True := eq_true (by omega)
      have p3 : (0 ≤ 60 + (i : Int)) = True := eq_true (by omega)
      have p4 : (60 + (i : Int) < 64) = True := eq_true (by omega)
      have q5 : IntKind.i64.wrap ((i : Int) + 1) = (i : Int) + 1 := IntWalk.i64_in _ (by omega)
      have q6 : IntKind.i64.wrap (60 + (i : Int)) = 60 + (i : Int) := IntWalk.i64_in _ (by omega)
      have n6 : (60 + (i : Int)).toNat = 60 + i := by omega
      obtain ⟨b0, hb0⟩ : ∃ b0 : UInt8, q.1[60 + i]? = some b0 := ⟨_, List.getElem?_eq_getElem (by rw [q.2]; omega)⟩
      have hcell : wr.cell? ⟨B + 1, 60 + i, none⟩ = some (.int .u8 ((b0.toNat : Nat) : Int)) := by
        rw [Err.cell_of_blk HP.out]
        unfold pa
        rw [List.getElem?_toArray, List.getElem?_map, hb0]
        rfl
      have hfz : wr.frozen? ⟨B + 1, 60 + i, none⟩ = false := by simp [World.frozen?, HP.out]
      clear hb0
      go_wp2_with fail
      obtain ⟨y2, hy2⟩ : ∃ y2 : UInt8, y2 = F[i]'hlt := ⟨_, rfl⟩
      have hm : Mod (· = B + 1) wr (wr.setCell ⟨B + 1, 60 + i, none⟩ (.int .u8 (((F[i]'hlt).toNat : Nat) : Int))) := (Mod.refl (· = B + 1) wr).set ⟨B + 1, 60 + i, none⟩ _ (.inl rfl)
      have HP' := Lib.hid (show (wr.setCell ⟨B + 1, 60 + i, none⟩ (.int .u8 (((F[i]'hlt).toNat : Nat) : Int))).heap[B + 1]? = some (Obj.cells (pa (pset q (60 + i) (F[i]'hlt))) 26 (0, 0)) from by
        rw [← pa_set]
        exact set1 HP.out (60 + i) _)
      have hX0 := HX.out.size
      have hBr : B + 1 < wr.heap.size := Err.lt_of_block HP.out
      have hW : W.heap.size = B := HBW.out
      have hbl : Below 1 wr (wr.setCell ⟨B + 1, 60 + i, none⟩ (.int .u8 (((F[i]'hlt).toNat : Nat) : Int))) := hm.below (by omega) (fun j hj (e : j = B + 1) => by omega)
      have HX' := Lib.hid (HX.out.trans (hm.below (by omega) (fun j hj (e : j = B + 1) => by omega)))
      have HL' := Lib.hid (show Laid (wr.setCell ⟨B + 1, 60 + i, none⟩ (.int .u8 (((F[i]'hlt).toNat : Nat) : Int))) from (hbl.cell (p := ⟨0, 0, none⟩) (by decide)).trans HL.out)
      go_roundg k1
      case measure => exact Nat.lt_succ_self _
      case rel => exact ⟨i + 1, _, by simp, by omega, HP', HX', HL'⟩
set_option maxHeartbeats 16000000 in
set_option maxRecDepth 100000 in
theorem case_ff (g x y z : Int) (p : Pg) (W : World) (b1 : g < 4294967296) (b2 : 0 ≤ z) (b3 : z < 4294967296) (hr : Hid (rightB g x y z = false)) (hg : Hid (Laid W)) : Calls Tryd.prog 4 #[.agg (slA g x y z), pv p, .bool false] W fun e w' => e = .returned (.bool true) ∧ Below W.heap.size W w' := by
  have HRt := hr
  go_enter Tryd.func4, Tryd.ntmps4
  have hpv := pv_eq p
  go_wp2_with fail
  clear hpv
  obtain ⟨HA1, HP1, HX1⟩ := alloc2 W (Obj.cells (slA g x y z) 24 (0, 0)) (Obj.cells (pa p) 26 (0, 0))
  have HL1 := Lib.hid (hg.out.on HX1.out)
  obtain ⟨B, hB⟩ : ∃ B, W.heap.size = B := ⟨_, rfl⟩
  rw [hB] at HA1 HP1
  (try rw [alloc_size])
  simp only [hB]
  have HBW := Lib.hid hB
  clear hB
  generalize ((W.alloc (Obj.cells (slA g x y z) 24 (0, 0))).alloc (Obj.cells (pa p) 26 (0, 0))) = w1 at *
  refine (awake_c _ HL1).mono ?_
  rintro e w2 ⟨rfl, hd⟩
  have HA2 := blk_to HA1 hd
  have HP2 := blk_to HP1 hd
  have HX2 := Dk.below_to HX1 (Nat.le_refl _) hd
  have HL2 := Lib.hid (HL1.out.on hd)
  clear hd HA1 HP1 HX1 HL1
  go_wp2_with (first | (refine wl_loadQ B g x y z HA2.out rfl _ rfl rfl ?_))
  refine (of_c g x y z _).mono ?_
  rintro e w3 ⟨rfl, hd⟩
  have HA3 := blk_to HA2 hd
  have HP3 := blk_to HP2 hd
  have HX3 := Dk.below_to HX2 (Nat.le_refl _) hd
  have HL3 := Lib.hid (HL2.out.on hd)
  clear hd HA2 HP2 HX2 HL2
  go_wp2_with fail
  refine (lay_no g x y z _ HRt).mono ?_
  rintro e w4 ⟨⟨T0, u0, rfl, he⟩, hd⟩
  have HA4 := blk_to HA3 hd
  have HP4 := blk_to HP3 hd
  have HX4 := Dk.below_to HX3 (Nat.le_refl _) hd
  have HL4 := Lib.hid (HL3.out.on hd)
  have HZ4 := Lib.hid he
  clear he hd HA3 HP3 HX3 HL3
  have hd : Below w4.heap.size w4 (w4.alloc (Obj.cells (pa pz) 27 (0, 0))) := (Below.refl _ _).alloc (Nat.le_refl _) _
  have HA5 := blk_to HA4 hd
  have HP5 := blk_to HP4 hd
  have HX5 := Dk.below_to HX4 (Nat.le_refl _) hd
  have HL5 := Lib.hid (HL4.out.on hd)
  have HZ5 := Lib.hid (HZ4.out.on hd)
  have HQ5 := Lib.hid (heap_alloc_last w4 (Obj.cells (pa pz) 27 (0, 0)))
  clear hd HA4 HP4 HX4 HL4 HZ4
  go_wp2_with (first
    | (refine wl_alloc30 rfl rfl ?_)
    | (refine wl_store30n pz pz rfl _ _ rfl rfl rfl ?_)
    | (refine wl_loadQ B g x y z HA5.out rfl _ rfl rfl ?_))
  obtain ⟨Q, hQ⟩ : ∃ Q, w4.heap.size = Q := ⟨_, rfl⟩
  rw [hQ] at HQ5
  (try simp only [hQ])
  generalize (w4.alloc (Obj.cells (pa pz) 27 (0, 0))) = w5 at *
  clear hQ
  refine (rright_c g x y z false _ HRt).mono ?_
  rintro e w6 ⟨rfl, hd⟩
  have HA6 := blk_to HA5 hd
  have HP6 := blk_to HP5 hd
  have HX6 := Dk.below_to HX5 (Nat.le_refl _) hd
  have HL6 := Lib.hid (HL5.out.on hd)
  have HZ6 := Lib.hid (HZ5.out.on hd)
  have HQ6 := blk_to HQ5 hd
  clear hd HA5 HP5 HX5 HL5 HZ5 HQ5
  go_wp2_with fail
  have HD := Lib.hid (show Below w6.heap.size w6 w6.drew from (Below.refl _ _).drew)
  have hQ := fun {w' : World} (k : Below w6.heap.size w6 w') => (blk_to HQ6 k).out
  have hA := fun {w' : World} (k : Below w6.heap.size w6 w') => (blk_to HA6 k).out
  have hL := fun {w' : World} (k : Below w6.heap.size w6 w') => HL6.out.on k
  have hZ := fun {w' : World} (k : Below w6.heap.size w6 w') => HZ6.out.on k
  refine start_ (n := 14) (S := fun w' => True) (ds := []) #[false, false, false, false, false, false, false, false, false, false, false, false, false, false] (by kernel_rfl) rfl rfl trivial (fun hHeld => ?_)
  refine pure_ (i := 0) (N := some 26) (v := ?_) (a' := ?_) #[true, false, false, false, false, false, false, false, false, false, false, false, false, false] rfl rfl (by kernel_rfl) (fun _ _ _ h => h) (Or.inl ⟨by rfl, ?_⟩) ?_ ?_
  rotate_left
  · intro w'
    go_simp
    with_reducible rfl
  rotate_left
  · simp only [Act.put, List.setIfInBounds_toArray, List.set_cons_zero, List.set_cons_succ, i64_w, i32_w]
    rfl
  refine pure_ (i := 1) (N := some 27) (v := ?_) (a' := ?_) #[true, true, false, false, false, false, false, false, false, false, false, false, false, false] rfl rfl (by kernel_rfl) (fun _ _ _ h => h) (Or.inl ⟨by rfl, ?_⟩) ?_ ?_
  rotate_left
  · intro w'
    go_simp
    with_reducible rfl
  rotate_left
  · simp only [Act.put, List.setIfInBounds_toArray, List.set_cons_zero, List.set_cons_succ, i64_w, i32_w]
    rfl
  refine one_ (i := 2) (N := some 28) #[true, true, true, false, false, false, false, false, false, false, false, false, false, false] rfl rfl (by kernel_rfl) (by decide) (fun K hK => ?_)
  refine goes_ Tryd.func12 (by kernel_rfl) rfl #[.iface T0 u0] (by rfl) rfl rfl (by simp only [List.map_toArray, List.map_cons, List.map_nil]; rfl) ?_
  with_reducible refine (code_c _ 1 _ (Lib.hid (hZ HD.out)) (Lib.hid (hL HD.out))).mono ?_
  rintro e v20 ⟨rfl, hd⟩
  refine ⟨_, rfl, ?_⟩
  have Hv20 := Lib.hid (HD.out.trans (hd.mono HD.out.size))
  clear hd
  refine hK.out _ _ trivial (fun hHeld => ?_)
  clear hK K
  refine norm_ (a' := ?_) ?_ ?_
  rotate_left
  · show Act.put _ (some 28) _ = _
    simp only [Act.put, List.setIfInBounds_toArray, List.set_cons_zero, List.set_cons_succ, i64_w, i32_w]
    rfl
  refine pure_ (i := 3) (N := some 29) (v := ?_) (a' := ?_) #[true, true, true, true, false, false, false, false, false, false, false, false, false, false] rfl rfl (by kernel_rfl) (fun _ _ _ h => h) (Or.inl ⟨by rfl, ?_⟩) ?_ ?_
  rotate_left
  · intro w'
    go_simp
    with_reducible rfl
  rotate_left
  · simp only [Act.put, List.setIfInBounds_toArray, List.set_cons_zero, List.set_cons_succ, i64_w, i32_w]
    rfl
  refine pure_ (i := 4) (N := some 30) (v := ?_) (a' := ?_) #[true, true, true, true, true, false, false, false, false, false, false, false, false, false] rfl rfl (by kernel_rfl) (fun _ _ _ h => h) (Or.inl ⟨by rfl, ?_⟩) ?_ ?_
  rotate_left
  · intro w'
    go_simp
    with_reducible rfl
  rotate_left
  · simp only [Act.put, List.setIfInBounds_toArray, List.set_cons_zero, List.set_cons_succ, i64_w, i32_w]
    rfl
  refine pure_ (i := 5) (N := some 31) (v := ?_) (a' := ?_) #[true, true, true, true, true, true, false, false, false, false, false, false, false, false] rfl rfl (by kernel_rfl) (fun _ _ _ h => h) (Or.inl ⟨by rfl, ?_⟩) ?_ ?_
  rotate_left
  · intro w'
    go_simp
    with_reducible rfl
  rotate_left
  · simp only [Act.put, List.setIfInBounds_toArray, List.set_cons_zero, List.set_cons_succ, i64_w, i32_w]
    rfl
  refine pure_ (i := 6) (N := some 32) (v := ?_) (a' := ?_) #[true, true, true, true, true, true, true, false, false, false, false, false, false, false] rfl rfl (by kernel_rfl) (fun _ _ _ h => h) (Or.inl ⟨by rfl, ?_⟩) ?_ ?_
  rotate_left
  · intro w'
    go_simp
    with_reducible rfl
  rotate_left
  · simp only [Act.put, List.setIfInBounds_toArray, List.set_cons_zero, List.set_cons_succ, i64_w, i32_w]
    rfl
  refine pure_ (i := 7) (N := some 33) (v := ?_) (a' := ?_) #[true, true, true, true, true, true, true, true, false, false, false, false, false, false] rfl rfl (by kernel_rfl) (fun _ _ _ h => h) (Or.inl ⟨by rfl, ?_⟩) ?_ ?_
  rotate_left
  · intro w'
    go_simp
    with_reducible rfl
  rotate_left
  · simp only [Act.put, List.setIfInBounds_toArray, List.set_cons_zero, List.set_cons_succ, i64_w, i32_w]
    rfl
  refine pure_ (i := 8) (N := some 34) (v := undef) (a' := ?_) #[true, true, true, true, true, true, true, true, true, false, false, false, false, false] rfl rfl (by kernel_rfl) (fun _ _ _ h => h) (Or.inr ⟨by rfl, rfl⟩) ?_ ?_
  rotate_left
  · simp only [Act.put, List.setIfInBounds_toArray, List.set_cons_zero, List.set_cons_succ, i64_w, i32_w]
    rfl
  refine pure_ (i := 9) (N := some 35) (v := undef) (a' := ?_) #[true, true, true, true, true, true, true, true, true, true, false, false, false, false] rfl rfl (by kernel_rfl) (fun _ _ _ h => h) (Or.inr ⟨by rfl, rfl⟩) ?_ ?_
  rotate_left
  · simp only [Act.put, List.setIfInBounds_toArray, List.set_cons_zero, List.set_cons_succ, i64_w, i32_w]
    rfl
  refine pure_ (i := 10) (N := some 36) (v := undef) (a' := ?_) #[true, true, true, true, true, true, true, true, true, true, true, false, false, false] rfl rfl (by kernel_rfl) (fun _ _ _ h => h) (Or.inr ⟨by rfl, rfl⟩) ?_ ?_
  rotate_left
  · simp only [Act.put, List.setIfInBounds_toArray, List.set_cons_zero, List.set_cons_succ, i64_w, i32_w]
    rfl
  refine pure_ (i := 11) (N := some 37) (v := undef) (a' := ?_) #[true, true, true, true, true, true, true, true, true, true, true, true, false, false] rfl rfl (by kernel_rfl) (fun _ _ _ h => h) (Or.inr ⟨by rfl, rfl⟩) ?_ ?_
  rotate_left
  · simp only [Act.put, List.setIfInBounds_toArray, List.set_cons_zero, List.set_cons_succ, i64_w, i32_w]
    rfl
  refine pure_ (i := 12) (N := some 38) (v := ?_) (a' := ?_) #[true, true, true, true, true, true, true, true, true, true, true, true, true, false] rfl rfl (by kernel_rfl) (fun _ _ _ h => h) (Or.inl ⟨by rfl, ?_⟩) ?_ ?_
  rotate_left
  · intro w'
    go_simp
    with_reducible rfl
  rotate_left
  · simp only [Act.put, List.setIfInBounds_toArray, List.set_cons_zero, List.set_cons_succ, i64_w, i32_w]
    rfl
  refine pure_ (i := 13) (N := some 39) (v := ?_) (a' := ?_) #[true, true, true, true, true, true, true, true, true, true, true, true, true, true] rfl rfl (by kernel_rfl) (fun _ _ _ h => h) (Or.inl ⟨by rfl, ?_⟩) ?_ ?_
  rotate_left
  · intro w'
    go_simp
    with_reducible rfl
  rotate_left
  · simp only [Act.put, List.setIfInBounds_toArray, List.set_cons_zero, List.set_cons_succ, i64_w, i32_w]
    rfl
  refine done_ (by kernel_rfl) ?_
  have hd := Hv20.out
  have HP7 := blk_to HP6 hd
  have HX7 := Dk.below_to HX6 (Nat.le_refl _) hd
  have HL7 := Lib.hid (HL6.out.on hd)
  clear HD hQ hA hL hZ
  clear hd HP6 HX6 HL6
  generalize v20 = w7 at *
  obtain ⟨T, hT⟩ : ∃ T, slotOf p = T := ⟨_, rfl⟩
  obtain ⟨f, hf⟩ : ∃ f, slotBad p = f := ⟨_, rfl⟩
  have HT := Lib.hid hT
  have HF := Lib.hid hf
  clear hT hf
  go_wp2_with (first | (refine wl_loadB (B + 1) p HP7.out rfl _ rfl rfl ?_))
  refine (read_u p _).mono ?_
  rintro e w8 ⟨⟨E, rfl, he⟩, hd⟩
  rw [HF.out] at he
  rw [HT.out]
  have HP8 := blk_to HP7 hd
  have HX8 := Dk.below_to HX7 (Nat.le_refl _) hd
  have HL8 := Lib.hid (HL7.out.on hd)
  have HE8 := Lib.hid he
  clear he hd HP7 HX7 HL7
  have hd : Below w8.heap.size w8 (w8.alloc (Obj.cells T.a 35 (0, 0))) := (Below.refl _ _).alloc (Nat.le_refl _) _
  have HP9 := blk_to HP8 hd
  have HX9 := Dk.below_to HX8 (Nat.le_refl _) hd
  have HL9 := Lib.hid (HL8.out.on hd)
  have HE9 := Lib.hid (HE8.out.on hd)
  have HU9 := Lib.hid (heap_alloc_last w8 (Obj.cells T.a 35 (0, 0)))
  clear hd HP8 HX8 HL8 HE8
  go_wp2_with (first
    | (refine wl_allocS rfl rfl ?_)
    | (refine wl_storeSn 0 0 0 0 T.g T.x T.y T.z rfl _ _ rfl rfl rfl ?_)
    | (refine wl_loadB (B + 1) p HP9.out rfl _ rfl rfl ?_))
  obtain ⟨U, hU⟩ : ∃ U, w8.heap.size = U := ⟨_, rfl⟩
  rw [hU] at HU9
  (try simp only [hU])
  generalize (w8.alloc (Obj.cells T.a 35 (0, 0))) = w9 at *
  clear hU
  refine (rread_c p _).mono ?_
  rintro e w10 ⟨rfl, hd⟩
  have HP10 := blk_to HP9 hd
  have HX10 := Dk.below_to HX9 (Nat.le_refl _) hd
  have HL10 := Lib.hid (HL9.out.on hd)
  have HE10 := Lib.hid (HE9.out.on hd)
  have HU10 := blk_to HU9 hd
  rw [HT.out, HF.out]
  clear hd HP9 HX9 HL9 HE9 HU9
  have hd : Below w10.heap.size w10 (w10.alloc (Obj.cells T.a 24 (0, 0))) := (Below.refl _ _).alloc (Nat.le_refl _) _
  have HP11 := blk_to HP10 hd
  have HX11 := Dk.below_to HX10 (Nat.le_refl _) hd
  have HL11 := Lib.hid (HL10.out.on hd)
  have HE11 := Lib.hid (HE10.out.on hd)
  have HU11 := blk_to HU10 hd
  have HV11 := Lib.hid (heap_alloc_last w10 (Obj.cells T.a 24 (0, 0)))
  clear hd HP10 HX10 HL10 HE10 HU10
  go_wp2_with (first
    | (refine wl_allocQ rfl rfl ?_)
    | (refine wl_storeQn 0 0 0 0 T.g T.x T.y T.z rfl _ _ rfl rfl rfl ?_))
  obtain ⟨V, hV⟩ : ∃ V, w10.heap.size = V := ⟨_, rfl⟩
  rw [hV] at HV11
  (try simp only [hV])
  generalize (w10.alloc (Obj.cells T.a 24 (0, 0))) = w11 at *
  clear hV
  have HD := Lib.hid (show Below w11.heap.size w11 w11.drew from (Below.refl _ _).drew)
  have hU := fun {w' : World} (k : Below w11.heap.size w11 w') => (blk_to HU11 k).out
  have hV := fun {w' : World} (k : Below w11.heap.size w11 w') => (blk_to HV11 k).out
  have hE := fun {w' : World} (k : Below w11.heap.size w11 w') => (HE11.out.on k)
  have hL := fun {w' : World} (k : Below w11.heap.size w11 w') => (HL11.out.on k)
  have hqq := eqR_self T.g T.x T.y T.z
  have hff : (f == f) = true := beq_self_eq_true f
  refine start_ (n := 11) (S := fun w' => w'.heap[U]? = some (Obj.cells (slA T.g T.x T.y T.z) 35 (0, 0)) ∧ w'.heap[V]? = some (Obj.cells (slA T.g T.x T.y T.z) 24 (0, 0))) (ds := []) #[false, false, false, false, false, false, false, false, false, false, false] (by kernel_rfl) rfl rfl ⟨hU HD.out, hV HD.out⟩ (fun hHeld => ?_)
  refine pure_ (i := 0) (N := some 65) (v := ?_) (a' := ?_) #[true, false, false, false, false, false, false, false, false, false, false] rfl rfl (by kernel_rfl) (fun _ _ _ h => h) (Or.inl ⟨by rfl, ?_⟩) ?_ ?_
  rotate_left
  · intro w'
    go_simp
    with_reducible rfl
  rotate_left
  · simp only [Act.put, List.setIfInBounds_toArray, List.set_cons_zero, List.set_cons_succ, i64_w, i32_w]
    rfl
  refine pure_ (i := 2) (N := some 67) (v := ?_) (a' := ?_) #[true, false, true, false, false, false, false, false, false, false, false] rfl rfl (by kernel_rfl) (fun _ _ _ h => h) (Or.inl ⟨by rfl, ?_⟩) ?_ ?_
  rotate_left
  · intro w'
    go_simp
    with_reducible rfl
  rotate_left
  · simp only [Act.put, List.setIfInBounds_toArray, List.set_cons_zero, List.set_cons_succ, i64_w, i32_w]
    rfl
  refine one_ (i := 1) (N := some 66) #[true, true, true, false, false, false, false, false, false, false, false] rfl rfl (by kernel_rfl) (by decide) (fun K hK => ?_)
  refine goes_ Tryd.func12 (by kernel_rfl) rfl #[E] (by rfl) rfl rfl (by simp only [List.map_toArray, List.map_cons, List.map_nil]; rfl) ?_
  with_reducible refine (code_c _ f _ (Lib.hid (hE HD.out)) (Lib.hid (hL HD.out))).mono ?_
  rintro e v20 ⟨rfl, hd⟩
  refine ⟨_, rfl, ?_⟩
  have Hv20 := Lib.hid (HD.out.trans (hd.mono HD.out.size))
  clear hd
  refine hK.out _ _ ⟨hU Hv20.out, hV Hv20.out⟩ (fun hHeld => ?_)
  clear hK K
  refine norm_ (a' := ?_) ?_ ?_
  rotate_left
  · show Act.put _ (some 66) _ = _
    simp only [Act.put, List.setIfInBounds_toArray, List.set_cons_zero, List.set_cons_succ, i64_w, i32_w]
    rfl
  refine pure_ (i := 3) (N := some 68) (v := ?_) (a' := ?_) #[true, true, true, true, false, false, false, false, false, false, false] rfl rfl (by kernel_rfl) (fun _ _ _ h => h) (Or.inl ⟨by rfl, ?_⟩) ?_ ?_
  rotate_left
  · intro w'
    go_simp
    with_reducible rfl
  rotate_left
  · simp only [Act.put, List.setIfInBounds_toArray, List.set_cons_zero, List.set_cons_succ, i64_w, i32_w]
    rfl
  refine pure_ (i := 4) (N := some 69) (v := ?_) (a' := ?_) #[true, true, true, true, true, false, false, false, false, false, false] rfl rfl (by kernel_rfl) (fun _ _ _ h => h) (Or.inl ⟨by rfl, ?_⟩) ?_ ?_
  rotate_left
  · intro w'
    go_simp
    with_reducible rfl
  rotate_left
  · simp only [Act.put, List.setIfInBounds_toArray, List.set_cons_zero, List.set_cons_succ, i64_w, i32_w]
    rfl
  refine take_ (i := 5) (N := some 70) (v := ?_) (a' := ?_) #[true, true, true, true, true, true, false, false, false, false, false] rfl rfl (by kernel_rfl) (fun _ _ _ h => h) (Or.inl ⟨by rfl, ?_⟩) hHeld ?_ ?_
  rotate_left
  · rintro w' ⟨s0, s1⟩
    refine exec_loadS (x := .tmp 12) ?_ ?_  s0
    · rfl
    · rfl
  rotate_left
  · simp only [Act.put, List.setIfInBounds_toArray, List.set_cons_zero, List.set_cons_succ, i64_w, i32_w]
    rfl
  refine take_ (i := 7) (N := some 72) (v := ?_) (a' := ?_) #[true, true, true, true, true, true, false, true, false, false, false] rfl rfl (by kernel_rfl) (fun _ _ _ h => h) (Or.inl ⟨by rfl, ?_⟩) hHeld ?_ ?_
  rotate_left
  · rintro w' ⟨s0, s1⟩
    refine exec_loadQ (x := .tmp 14) ?_ ?_  s1
    · rfl
    · rfl
  rotate_left
  · simp only [Act.put, List.setIfInBounds_toArray, List.set_cons_zero, List.set_cons_succ, i64_w, i32_w]
    rfl
  refine one_ (i := 6) (N := some 71) #[true, true, true, true, true, true, true, true, false, false, false] rfl rfl (by kernel_rfl) (by decide) (fun K hK => ?_)
  refine goes_ Tryd.func14 (by kernel_rfl) rfl #[.agg (slA T.g T.x T.y T.z)] (by rfl) rfl rfl (by simp only [List.map_toArray, List.map_cons, List.map_nil]; rfl) ?_
  with_reducible refine (plain_c T.g T.x T.y T.z _).mono ?_
  rintro e v21 ⟨rfl, hd⟩
  refine ⟨_, rfl, ?_⟩
  have Hv21 := Lib.hid (Hv20.out.trans (hd.mono Hv20.out.size))
  clear hd
  refine hK.out _ _ ⟨hU Hv21.out, hV Hv21.out⟩ (fun hHeld => ?_)
  clear hK K
  refine norm_ (a' := ?_) ?_ ?_
  rotate_left
  · show Act.put _ (some 71) _ = _
    simp only [Act.put, List.setIfInBounds_toArray, List.set_cons_zero, List.set_cons_succ, i64_w, i32_w]
    rfl
  refine pure_ (i := 8) (N := some 73) (v := ?_) (a' := ?_) #[true, true, true, true, true, true, true, true, true, false, false] rfl rfl (by kernel_rfl) (fun _ _ _ h => h) (Or.inl ⟨by rfl, ?_⟩) ?_ ?_
  rotate_left
  · intro w'
    refine exec_eqR (x := .tmp 71) (y := .tmp 72) ?_ ?_ ?_  hqq
    · rfl
    · rfl
    · rfl
  rotate_left
  · simp only [Act.put, List.setIfInBounds_toArray, List.set_cons_zero, List.set_cons_succ, i64_w, i32_w]
    rfl
  refine pure_ (i := 9) (N := some 74) (v := ?_) (a' := ?_) #[true, true, true, true, true, true, true, true, true, true, false] rfl rfl (by kernel_rfl) (fun _ _ _ h => h) (Or.inl ⟨by rfl, ?_⟩) ?_ ?_
  rotate_left
  · intro w'
    go_simp
    with_reducible rfl
  rotate_left
  · simp only [Act.put, List.setIfInBounds_toArray, List.set_cons_zero, List.set_cons_succ, i64_w, i32_w]
    rfl
  refine pure_ (i := 10) (N := some 6) (v := ?_) (a' := ?_) #[true, true, true, true, true, true, true, true, true, true, true] rfl rfl (by kernel_rfl) (fun _ _ _ h => h) (Or.inl ⟨by rfl, ?_⟩) ?_ ?_
  rotate_left
  · intro w'
    go_simp
    with_reducible rfl
  rotate_left
  · simp only [Act.put, List.setIfInBounds_toArray, List.set_cons_zero, List.set_cons_succ, i64_w, i32_w]
    rfl
  refine done_ (by kernel_rfl) ?_
  go_wp2_with fail
  go_ret
  exact ⟨rfl, HX11.out.trans (Hv21.out.mono HX11.out.size)⟩
theorem walk (g x y z : Int) (p : Pg) (m : Bool) (W : World) (h1 : Wf g x y z) (hg : Hid (Laid W)) : Calls Tryd.prog 4 #[.agg (slA g x y z), pv p, .bool m] W fun e w' => e = .returned (.bool true) ∧ Below W.heap.size W w' := by
  have b1 := h1.bounds
  cases hr : rightB g x y z with
  | true => cases m with
    | true => exact case_tt g x y z p W b1.1.2 b1.2.2.2.1 b1.2.2.2.2 (Lib.hid hr) hg
    | false => exact case_tf g x y z p W b1.1.2 b1.2.2.2.1 b1.2.2.2.2 (Lib.hid hr) hg
  | false => cases m with
    | true => exact case_ft g x y z p W b1.1.2 b1.2.2.2.1 b1.2.2.2.2 (Lib.hid hr) hg
    | false => exact case_ff g x y z p W b1.1.2 b1.2.2.2.1 b1.2.2.2.2 (Lib.hid hr) hg
end Go.Proofs.YtkgiifcbimpcoaaDoor.RowSlotPlays
