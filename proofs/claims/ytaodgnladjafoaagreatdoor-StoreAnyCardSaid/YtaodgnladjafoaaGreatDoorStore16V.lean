/- Words that the proof uses. -/
import Derived.Test.YtaodgnladjafoaaGreatDoorStore11V
set_option linter.unusedVariables false
set_option linter.unusedSimpArgs false
namespace Go.Proofs.YtaodgnladjafoaaGreatDoor.Sto
open Go.RowKit Go.Proofs.YtaodgnladjafoaaGreatDoorW.PrintWords Go.Proofs.YtaodgnladjafoaaGreatDoorW.PrintLast Go.Proofs.YtaodgnladjafoaaGreatDoorW.PrintMore Go.Proofs.YtaodgnladjafoaaGreatDoor.Md Go.Proofs.YtaodgnladjafoaaGreatDoor.Mni Go.Proofs.YtaodgnladjafoaaGreatDoor.QStoreLasts
open Go.Proofs.YtaodgnladjafoaaGreatDoor.Dk (Dsk IsD Ft mayN rd)
open Go.Proofs.YtaodgnladjafoaaGreatDoor.Slt (Sl switched switch_ok best_c BestAt bestOf slA slotOf pick slotOf_lay slotOf_none)
open Go.Proofs.YtaodgnladjafoaaGreatDoor.Err (Laid IsErr code_nil code_c Chain at_some at_nil)
theorem slotOf_rt (p : Dk.Pg) (h : 0 < (slotOf p).g) : (slotOf p).Rt := by
  by_cases hx : ∃ s : Sl, s.Rt ∧ s.lay = p
  · obtain ⟨s, h1, h2⟩ := hx
    rw [slotOf_lay h1 h2]
    exact h1
  · rw [slotOf_none (fun s h1 h2 => hx ⟨s, h1, h2⟩)] at h
    exact absurd h (by decide)
theorem bestOf_rt (d : Dsk) : ∀ n, 0 < (bestOf d n).g → (bestOf d n).Rt
  | 0, h => absurd h (by show ¬ (0 : Int) < 0; decide)
  | n + 1, h => by
    have h : 0 < (pick (bestOf d n) (slotOf (rd d (n : Int)))).g := h
    show (pick (bestOf d n) (slotOf (rd d (n : Int)))).Rt
    unfold pick at h ⊢
    split
    · rw [if_pos (by assumption)] at h
      exact slotOf_rt _ h
    · rw [if_neg (by assumption)] at h
      exact bestOf_rt d n h
set_option maxHeartbeats 4000000 in
set_option maxRecDepth 100000 in
theorem Open_any (w : World) (R M : Nat) (v : Value) (d : Dsk) (h : Hid (IsD w R M v d)) (hsz : 8 ≤ d.size) (hsz2 : d.size ≤ 2048) (hm0 : mayN d 0 = 0) (hm1 : mayN d 1 = 0) (hdn : Hid (d.down = false)) (hl : d.soft.length ≤ 9000) :
    Calls Tryz.prog 14 #[.pointer (some ⟨R, 0, none⟩)] w fun e w' => Below w.heap.size w w' ∧ ((∃ Z, e = .returned (.tuple #[.pointer (some ⟨Z, 0, none⟩), .nilIface]) ∧ 0 < (bestOf d 2).g ∧ ∃ H o m, rightM m d.size = true ∧ IsS w' ⟨Z, R, M, H, v, .slice none 0 0⟩ o m (sO d (bestOf d 2))) ∨ (∃ T u, e = .returned (.tuple #[.pointer none, .iface T u]) ∧ ∃ n, IsErr w' (.iface T u) n ∧ n ≠ 0 ∧ (¬ 0 < (bestOf d 2).g → n = 3))) := by
  have hrt := bestOf_rt d 2
  obtain ⟨⟨g, u1, u2, u3⟩, hbe⟩ : ∃ q, bestOf d 2 = q := ⟨_, rfl⟩
  rw [hbe] at hrt ⊢
  have hbe := Lib.hid hbe
  go_enter Tryz.func14, Tryz.ntmps14
  go_wp2_with fail
  refine (made_ok w R M v d h hsz).mono ?_
  rintro e w1 ⟨Z, H, hZ, hH, rfl, hd, hi⟩
  have H1 := Lib.hid hi
  have HB1 := Lib.hid hd
  have HZH := Lib.hid (And.intro hZ hH)
  clear hd hi h hZ hH
  go_wp2_with fail
  refine (best_c w1 R M v d (Lib.hid H1.out.dsk) (by omega)).mono ?_
  rintro e w2 ⟨hd, h2, h3, _⟩
  rw [hbe.out] at h2 h3
  have H2 := Lib.hid (H1.out.on hd)
  have HB2 := below_to HB1 (Nat.le_refl _) hd
  by_cases hg0 : 0 < g
  rotate_left
  · obtain ⟨T, u, rfl, he⟩ := h3 hm0 hm1 hg0
    have HE2 := Lib.hid he
    have HG := Lib.hid hg0
    clear he hd h2 h3 H1 HB1 hm0 hm1 hg0 hrt
    go_wp2_with (first | (refine Slt.wl_allocS rfl rfl ?_) | (refine Slt.wl_storeSn 0 0 0 0 0 0 0 0 rfl _ _ rfl rfl (by rfl) ?_))
    have hd3 : Below w2.heap.size w2 (w2.alloc (Obj.cells (slA 0 0 0 0) 62 (0, 0))) := (Below.refl _ _).alloc (Nat.le_refl _) _
    go_ret2
    exact ⟨HB2.out.trans (hd3.mono HB2.out.size), .inr ⟨T, u, rfl, 3, HE2.out.on hd3, by decide, fun _ => rfl⟩⟩
  have e2 := h2 hm0 hm1 hg0
  subst e2
  have hy : u2 ≤ 16384 := (hrt hg0).y1
  have hx0 : 0 ≤ u1 := (hrt hg0).x0
  have hG := Lib.hid hg0
  clear hd h2 h3 H1 HB1 hm0 hm1 hrt hg0
  go_upto_region 7 with (first | (refine Slt.wl_allocS rfl rfl ?_) | (refine Slt.wl_storeSn 0 0 0 0 g u1 u2 u3 rfl _ _ rfl rfl (by rfl) ?_))
  have hd3 : Below w2.heap.size w2 (w2.alloc (Obj.cells (slA g u1 u2 u3) 62 (0, 0))) := (Below.refl _ _).alloc (Nat.le_refl _) _
  have HX3 := Lib.hid (heap_alloc_last w2 (Obj.cells (slA g u1 u2 u3) 62 (0, 0)))
  have H3 := Lib.hid (H2.out.on hd3)
  have HB3 := below_to HB2 (Nat.le_refl _) hd3
  obtain ⟨X, hX⟩ : ∃ X, w2.heap.size = X := ⟨_, rfl⟩
  have HXZ0 := Err.lt_of_block H2.out.blk
  have HXZ := Lib.hid (show ¬ (X = Z) by have : Z < w2.heap.size := HXZ0; omega)
  rw [hX] at HX3
  simp only [hX]
  generalize (w2.alloc (Obj.cells (slA g u1 u2 u3) 62 (0, 0))) = w3 at *
  clear hX hd3 H2 HB2 HXZ0
  go_wp2_with (first | (refine Kd.event_run rfl (exec_loadX (g := g) (u1 := u1) (u2 := u2) (u3 := u3) rfl rfl HX3.out) ?_))
  by_cases hv : Blb.rightV u1 u2 d.size = true
  rotate_left
  · refine (Blb.get_wrong w3 R M v d u1 u2 u3 (Lib.hid H3.out.dsk) (Lib.hid (Bool.not_eq_true _ ▸ hv)) (by omega) hsz2).mono ?_
    rintro e w4 ⟨⟨T, u, rfl, he⟩, hd⟩
    have HE4 := Lib.hid he
    have HB4 := below_to HB3 (Nat.le_refl _) hd
    clear he hd HX3 H3 HB3
    go_wp2_with fail
    go_ret2
    exact ⟨HB4.out, .inr ⟨T, u, rfl, 1, HE4.out, by decide, fun n => absurd hG.out (Int.not_lt.2 n)⟩⟩
  have hv1 : 0 < Blb.pagesV u2 ∧ 0 ≤ u1 ∧ u1 ≤ d.size - Blb.pagesV u2 := rightV_iff.1 hv
  obtain ⟨n, hn⟩ : ∃ n : Nat, Blb.pagesV u2 = (n : Int) := ⟨(Blb.pagesV u2).toNat, by omega⟩
  obtain ⟨t, ht⟩ : ∃ t, strOfNums ((Blb.gs d u1 n).take u2.toNat) = t := ⟨_, rfl⟩
  have hts : t.size ≤ 16384 := by
    rw [← ht, strOfNums_size]
    have := List.length_take_le u2.toNat (Blb.gs d u1 n)
    omega
  refine (Blb.get_ok w3 R M v d u1 u2 u3 n t (Lib.hid H3.out.dsk) hdn (Lib.hid hn) (by omega) hx0 (by omega) hsz2 hl (Lib.hid ht)).mono ?_
  rintro e w4 ⟨h1, h2, hd⟩
  by_cases hsum : AdM.sum t = u3
  rotate_left
  · obtain ⟨T, u, rfl, he⟩ := h2 hsum
    have HE4 := Lib.hid he
    have HB4 := below_to HB3 (Nat.le_refl _) hd
    clear he hd HX3 H3 HB3 h1 h2 hsum
    go_wp2_with fail
    go_ret2
    exact ⟨HB4.out, .inr ⟨T, u, rfl, 12, HE4.out, by decide, fun n => absurd hG.out (Int.not_lt.2 n)⟩⟩
  have e4 := h1 hsum
  subst e4
  have H4 := Lib.hid (H3.out.on hd)
  have HB4 := below_to HB3 (Nat.le_refl _) hd
  have HX4 := blk_to HX3 hd
  clear hd h1 h2 H3 HB3 HX3 hv hv1 hn ht hsum
  go_upto_region 10 with fail
  have hdd : Below w4.heap.size w4 (World.drew w4) := (Below.refl _ _).drew
  have H5 := Lib.hid (H4.out.on hdd)
  have HB5 := below_to HB4 (Nat.le_refl _) hdd
  have HX5 := blk_to HX4 hdd
  have HBZ := Lib.hid H5.out.blk
  have c1 : (World.drew w4).cell? ⟨Z, 1, none⟩ = some (.int .u32 0) := H5.out.cs.2.1
  have f1 : (World.drew w4).frozen? ⟨Z, 1, none⟩ = false := by simp [World.frozen?, HBZ.out]
  have HZl := Lib.hid (show Z < (World.drew w4).heap.size from Err.lt_of_block HBZ.out)
  clear hdd H4 HB4 HX4
  refine start_ (n := 12) (S := fun w' => w'.cell? ⟨X, 0, none⟩ = some (.int .u32 g) ∧ w'.heap[X]? = some (Obj.cells (slA g u1 u2 u3) 62 (0, 0))) (ds := [11]) #[false, false, false, false, false, false, false, false, false, false, false, false] (by kernel_rfl) rfl rfl ⟨(Err.cell_of_blk HX5.out 0), HX5.out⟩ (fun hHeld => ?_)
  refine pure_ (i := 0) (N := some 34) (v := ?_) (a' := ?_) #[true, false, false, false, false, false, false, false, false, false, false, false] rfl rfl (by kernel_rfl) (fun _ _ _ h => h) (Or.inl ⟨by rfl, ?_⟩) ?_ ?_
  rotate_left
  · intro w'
    go_simp
    with_reducible rfl
  rotate_left
  · simp only [Act.put, List.setIfInBounds_toArray, List.set_cons_zero, List.set_cons_succ, i64_w, i32_w]
    rfl
  refine pure_ (i := 1) (N := some 35) (v := ?_) (a' := ?_) #[true, true, false, false, false, false, false, false, false, false, false, false] rfl rfl (by kernel_rfl) (fun _ _ _ h => h) (Or.inl ⟨by rfl, ?_⟩) ?_ ?_
  rotate_left
  · intro w'
    go_simp
    with_reducible rfl
  rotate_left
  · simp only [Act.put, List.setIfInBounds_toArray, List.set_cons_zero, List.set_cons_succ, i64_w, i32_w]
    rfl
  refine pure_ (i := 2) (N := some 36) (v := ?_) (a' := ?_) #[true, true, true, false, false, false, false, false, false, false, false, false] rfl rfl (by kernel_rfl) (fun _ _ _ h => h) (Or.inl ⟨by rfl, ?_⟩) ?_ ?_
  rotate_left
  · intro w'
    go_simp
    with_reducible rfl
  rotate_left
  · simp only [Act.put, List.setIfInBounds_toArray, List.set_cons_zero, List.set_cons_succ, i64_w, i32_w]
    rfl
  refine pure_ (i := 4) (N := some 38) (v := ?_) (a' := ?_) #[true, true, true, false, true, false, false, false, false, false, false, false] rfl rfl (by kernel_rfl) (fun _ _ _ h => h) (Or.inl ⟨by rfl, ?_⟩) ?_ ?_
  rotate_left
  · intro w'
    go_simp
    with_reducible rfl
  rotate_left
  · simp only [Act.put, List.setIfInBounds_toArray, List.set_cons_zero, List.set_cons_succ, i64_w, i32_w]
    rfl
  refine take_ (i := 3) (N := some 37) (v := ?_) (a' := ?_) #[true, true, true, true, true, false, false, false, false, false, false, false] rfl rfl (by kernel_rfl) (fun _ _ _ h => h) (Or.inl ⟨by rfl, ?_⟩) hHeld ?_ ?_
  rotate_left
  · rintro w' ⟨s0, s1⟩
    go_simp
    with_reducible rfl
  rotate_left
  · simp only [Act.put, List.setIfInBounds_toArray, List.set_cons_zero, List.set_cons_succ, i64_w, i32_w]
    rfl
  refine pure_ (i := 6) (N := some 40) (v := ?_) (a' := ?_) #[true, true, true, true, true, false, true, false, false, false, false, false] rfl rfl (by kernel_rfl) (fun _ _ _ h => h) (Or.inl ⟨by rfl, ?_⟩) ?_ ?_
  rotate_left
  · intro w'
    go_simp
    with_reducible rfl
  rotate_left
  · simp only [Act.put, List.setIfInBounds_toArray, List.set_cons_zero, List.set_cons_succ, i64_w, i32_w]
    rfl
  refine pure_ (i := 7) (N := some 41) (v := ?_) (a' := ?_) #[true, true, true, true, true, false, true, true, false, false, false, false] rfl rfl (by kernel_rfl) (fun _ _ _ h => h) (Or.inl ⟨by rfl, ?_⟩) ?_ ?_
  rotate_left
  · intro w'
    go_simp
    with_reducible rfl
  rotate_left
  · simp only [Act.put, List.setIfInBounds_toArray, List.set_cons_zero, List.set_cons_succ, i64_w, i32_w]
    rfl
  refine take_ (i := 5) (N := some 39) (v := ?_) (a' := ?_) #[true, true, true, true, true, true, true, true, false, false, false, false] rfl rfl (by kernel_rfl) (fun _ _ _ h => h) (Or.inl ⟨by rfl, ?_⟩) hHeld ?_ ?_
  rotate_left
  · rintro w' ⟨s0, s1⟩
    refine (exec_loadX (x := .tmp 38) ?_ ?_  s1).trans ?_
    · rfl
    · rfl
    · with_reducible rfl
  rotate_left
  · simp only [Act.put, List.setIfInBounds_toArray, List.set_cons_zero, List.set_cons_succ, i64_w, i32_w]
    rfl
  refine one_ (i := 8) (N := none) #[true, true, true, true, true, true, true, true, true, false, false, false] rfl rfl (by kernel_rfl) (by decide) (fun K hK => ?_)
  generalize World.drew w4 = w5 at *
  refine skip_ (w1 := ?_) (by rfl) rfl ?_ ?_
  rotate_left
  · go_simp
    rfl
  have m8 := Lib.hid (mod_cellZ w5 Z 1 (.int .u32 g))
  have HB8 := Lib.hid (blk_setZ HBZ.out 1 (.int .u32 g))
  have HX8 := Lib.hid (m8.out.blk HX5.out HXZ.out)
  generalize (w5.setCell ⟨Z, 1, none⟩ (.int .u32 g)) = w8 at *
  clear c1 f1
  refine hK.out _ _ ⟨(Err.cell_of_blk HX8.out 0), HX8.out⟩ (fun hHeld => ?_)
  clear hK K
  refine pure_ (i := 9) (N := some 42) (v := ?_) (a' := ?_) #[true, true, true, true, true, true, true, true, true, true, false, false] rfl rfl (by kernel_rfl) (fun _ _ _ h => h) (Or.inl ⟨by rfl, ?_⟩) ?_ ?_
  rotate_left
  · intro w'
    go_simp
    with_reducible rfl
  rotate_left
  · simp only [Act.put, List.setIfInBounds_toArray, List.set_cons_zero, List.set_cons_succ, i64_w, i32_w]
    rfl
  refine pure_ (i := 10) (N := some 43) (v := ?_) (a' := ?_) #[true, true, true, true, true, true, true, true, true, true, true, false] rfl rfl (by kernel_rfl) (fun _ _ _ h => h) (Or.inl ⟨by rfl, ?_⟩) ?_ ?_
  rotate_left
  · intro w'
    go_simp
    with_reducible rfl
  rotate_left
  · simp only [Act.put, List.setIfInBounds_toArray, List.set_cons_zero, List.set_cons_succ, i64_w, i32_w]
    rfl
  refine last_ (i := 11) (N := none) #[true, true, true, true, true, true, true, true, true, true, true, true] rfl rfl (by kernel_rfl) (by decide) (fun K hK => ?_)
  obtain ⟨w9, he9, hb9, hm9⟩ := st_off szRf (off := 6) (vs := Array.toList (ra ⟨u1, u2, u3⟩)) HB8.out rfl (Nat.le_of_ble_eq_true rfl) (one_r _)
  refine skip_ (by rfl) rfl (he9 rfl rfl rfl) ?_
  have HB9 := Lib.hid hb9
  have m9 := Lib.hid (m8.out.tr hm9)
  clear he9 hb9 hm9
  refine hK.out _ _ ?_
  clear hK K
  refine done_ (by kernel_rfl) ?_
  clear hHeld HX5 HX8 HB8 HBZ m8
  have hd9 := H5.out.dsk.mod m9.out (fun i hi e => (H5.out.n2 i hi).1 e)
  have HD9 := Lib.hid hd9
  have hB9 := HB5.out.trans (m9.out.below HB5.out.size (fun i hi (e : i = Z) => by have := HZH.out.1; omega))
  have HBb9 := Lib.hid hB9
  clear hd9 hB9
  go_wp2_with fail
  refine (Dk.size_c w9 R M v d HD9).mono ?_
  rintro e w10 ⟨rfl, hd⟩
  have HB10 := blk_to HB9 hd
  have m10 := Lib.hid (m9.out.on_below hd (Nat.le_refl _))
  have HBb10 := below_to HBb9 (Nat.le_refl _) hd
  clear hd HB9 m9 HBb9 HD9
  go_wp2_with fail
  refine (read_o t d.size w10 (by omega)).mono ?_
  rintro e w11 ⟨hd, ⟨m', o, _, _, hrm, rfl, hat, hown⟩ | ⟨_, T, x, rfl, hE⟩⟩
  · have HB11 := blk_to HB10 hd
    have m11 := Lib.hid (m10.out.on_below hd (Nat.le_refl _))
    have HBb11 := below_to HBb10 (Nat.le_refl _) hd
    have HO11 := Lib.hid (OwnM.of hown hat)
    have HZ10 := Lib.hid (Err.lt_of_block HB10.out)
    have HLt := Lib.hid (show ∀ i, Fs ⟨Z, R, M, H, v, .slice none 0 0⟩ i → i < w10.heap.size from fun i f => Nat.lt_of_lt_of_le (H5.out.lt i f) m10.out.size)
    have HRm := Lib.hid hrm
    clear hd hat hown HB10 m10 HBb10 hrm
    go_wp2_with (first | (refine wl_store_off szM Z 2 _ 82 (Loc.a o m').toList HB11.out rfl (Nat.le_of_ble_eq_true rfl) (one_m o m') rfl _ _ rfl rfl rfl ?_))
    go_ret2
    have k12 := mod_row w11 Z (((Array.toList ((((sa ⟨Z, R, M, H, v, .slice none 0 0⟩ oE emptyM (s0 d)).setIfInBounds 1 (.int .u32 g)).toList.take 6 ++ Array.toList (ra ⟨u1, u2, u3⟩) ++ ((sa ⟨Z, R, M, H, v, .slice none 0 0⟩ oE emptyM (s0 d)).setIfInBounds 1 (.int .u32 g)).toList.drop (6 + (Array.toList (ra ⟨u1, u2, u3⟩)).length)).toArray)).take 2 ++ (Loc.a o m').toList ++ (Array.toList ((((sa ⟨Z, R, M, H, v, .slice none 0 0⟩ oE emptyM (s0 d)).setIfInBounds 1 (.int .u32 g)).toList.take 6 ++ Array.toList (ra ⟨u1, u2, u3⟩) ++ ((sa ⟨Z, R, M, H, v, .slice none 0 0⟩ oE emptyM (s0 d)).setIfInBounds 1 (.int .u32 g)).toList.drop (6 + (Array.toList (ra ⟨u1, u2, u3⟩)).length)).toArray)).drop (2 + (Loc.a o m').toList.length)).toArray)
    have hb12 := setRow_heap w11 Z _ (((Array.toList ((((sa ⟨Z, R, M, H, v, .slice none 0 0⟩ oE emptyM (s0 d)).setIfInBounds 1 (.int .u32 g)).toList.take 6 ++ Array.toList (ra ⟨u1, u2, u3⟩) ++ ((sa ⟨Z, R, M, H, v, .slice none 0 0⟩ oE emptyM (s0 d)).setIfInBounds 1 (.int .u32 g)).toList.drop (6 + (Array.toList (ra ⟨u1, u2, u3⟩)).length)).toArray)).take 2 ++ (Loc.a o m').toList ++ (Array.toList ((((sa ⟨Z, R, M, H, v, .slice none 0 0⟩ oE emptyM (s0 d)).setIfInBounds 1 (.int .u32 g)).toList.take 6 ++ Array.toList (ra ⟨u1, u2, u3⟩) ++ ((sa ⟨Z, R, M, H, v, .slice none 0 0⟩ oE emptyM (s0 d)).setIfInBounds 1 (.int .u32 g)).toList.drop (6 + (Array.toList (ra ⟨u1, u2, u3⟩)).length)).toArray)).drop (2 + (Loc.a o m').toList.length)).toArray) _ _ HB11.out
    have z := H5.out.switchedM (g := g) (r := ⟨u1, u2, u3⟩) (o2 := o) (m2 := m') (m11.out.tr k12) hb12 (HO11.out.step (fun i hi hl => k12.block i hl (fun (e : i = Z) => by have := HZ10.out; omega))) HLt.out
    exact ⟨HBb11.out.trans (k12.below HBb11.out.size (fun i hi (e : i = Z) => by have := HZH.out.1; omega)), .inl ⟨Z, rfl, hG.out, H, o, m', HRm.out, z.1⟩⟩
  · have HB11 := blk_to HB10 hd
    have HBb11 := below_to HBb10 (Nat.le_refl _) hd
    have HE11 := Lib.hid hE
    clear hd HB10 m10 HBb10 hE
    go_wp2_with (first | (refine wl_store_off szM Z 2 _ 82 (Loc.a zeroL zeroM).toList HB11.out rfl (Nat.le_of_ble_eq_true rfl) (one_m zeroL zeroM) rfl _ _ rfl rfl rfl ?_))
    go_ret2
    have k12 := mod_row w11 Z (((Array.toList ((((sa ⟨Z, R, M, H, v, .slice none 0 0⟩ oE emptyM (s0 d)).setIfInBounds 1 (.int .u32 g)).toList.take 6 ++ Array.toList (ra ⟨u1, u2, u3⟩) ++ ((sa ⟨Z, R, M, H, v, .slice none 0 0⟩ oE emptyM (s0 d)).setIfInBounds 1 (.int .u32 g)).toList.drop (6 + (Array.toList (ra ⟨u1, u2, u3⟩)).length)).toArray)).take 2 ++ (Loc.a zeroL zeroM).toList ++ (Array.toList ((((sa ⟨Z, R, M, H, v, .slice none 0 0⟩ oE emptyM (s0 d)).setIfInBounds 1 (.int .u32 g)).toList.take 6 ++ Array.toList (ra ⟨u1, u2, u3⟩) ++ ((sa ⟨Z, R, M, H, v, .slice none 0 0⟩ oE emptyM (s0 d)).setIfInBounds 1 (.int .u32 g)).toList.drop (6 + (Array.toList (ra ⟨u1, u2, u3⟩)).length)).toArray)).drop (2 + (Loc.a zeroL zeroM).toList.length)).toArray)
    exact ⟨HBb11.out.trans (k12.below HBb11.out.size (fun i hi (e : i = Z) => by have := HZH.out.1; omega)), .inr ⟨T, x, rfl, 13, Dk.isErr_mod HE11.out k12 (fun b cs hb (e : b = Z) => by rw [e, HB11.out] at hb; simp at hb), by decide, fun n => absurd hG.out (Int.not_lt.2 n)⟩⟩
end Go.Proofs.YtaodgnladjafoaaGreatDoor.Sto
