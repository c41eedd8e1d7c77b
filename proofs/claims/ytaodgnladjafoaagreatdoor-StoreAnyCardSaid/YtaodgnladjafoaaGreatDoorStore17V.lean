/- Words that the proof uses. -/
import Derived.Test.YtaodgnladjafoaaGreatDoorStore16V
import Derived.Test.YtaodgnladjafoaaGreatDoorStore78V
set_option linter.unusedVariables false
set_option linter.unusedSimpArgs false
namespace Go.Proofs.YtaodgnladjafoaaGreatDoor.Sto
open Go.RowKit Go.Proofs.YtaodgnladjafoaaGreatDoorW.PrintWords Go.Proofs.YtaodgnladjafoaaGreatDoorW.PrintLast Go.Proofs.YtaodgnladjafoaaGreatDoorW.PrintMore Go.Proofs.YtaodgnladjafoaaGreatDoor.Md Go.Proofs.YtaodgnladjafoaaGreatDoor.Mni Go.Proofs.YtaodgnladjafoaaGreatDoor.QStoreLasts
open Go.Proofs.YtaodgnladjafoaaGreatDoor.Dk (Dsk IsD Ft mayN)
open Go.Proofs.YtaodgnladjafoaaGreatDoor.Slt (Sl switched switch_ok best_c BestAt bestOf slA)
open Go.Proofs.YtaodgnladjafoaaGreatDoor.Err (Laid IsErr code_nil code_c Chain at_some at_nil)
set_option maxHeartbeats 4000000 in
set_option maxRecDepth 100000 in
theorem Switch_ever (Z R M H : Nat) (v p : Value) (o : Mni.Loc) (m : Man) (s : St) (w : World) (h : Hid (IsS w ⟨Z, R, M, H, v, p⟩ o m s)) (hok : Ok m s) (hg1 : s.gen = 4294967295) :
    Calls Tryz.prog 12 #[.pointer (some ⟨Z, 0, none⟩), .agg eA] w fun e w' => ∃ T u, e = .returned (.iface T u) ∧ IsErr w' (.iface T u) 16 ∧ Below w.heap.size w w' := by
  have hs2 := rightM_sz hok.rt
  have t1 : (s.gen == 4294967295) = true := by rw [hg1]; rfl
  clear hg1
  have HP0 := h.out.lt
  go_enter Tryz.func12, Tryz.ntmps12
  go_upto_region 1 with fail
  have hd1 : Below w.heap.size w (w.alloc (Obj.cells eA 43 (0, 0))) := (Below.refl _ _).alloc (Nat.le_refl _) _
  have HP1 := Lib.hid (heap_alloc_last w (Obj.cells eA 43 (0, 0)))
  have H1 := Lib.hid (h.out.on hd1)
  have HB1 := Lib.hid hd1
  obtain ⟨P, hP⟩ : ∃ P, w.heap.size = P := ⟨_, rfl⟩
  have HW := Lib.hid hP
  rw [hP] at HP1 HP0
  try simp only [hP]
  generalize (w.alloc (Obj.cells eA 43 (0, 0))) = w1 at *
  have HPf0 := Lib.hid (show ¬ Fs ⟨Z, R, M, H, v, p⟩ P from fun f => Nat.lt_irrefl _ (HP0 P f))
  clear hd1 hP HP0 h
  go_upto_region 3 with fail
  have hdd : Below w1.heap.size w1 (World.drew w1) := (Below.refl _ _).drew
  have Hd := Lib.hid (H1.out.on hdd)
  have HBd := below_to HB1 (Nat.le_refl _) hdd
  have HPd := blk_to HP1 hdd
  clear hdd H1 HB1 HP1
  refine start_ (n := 12) (S := fun w' => w'.heap[P]? = some (Obj.cells eA 43 (0, 0)) ∧ w'.cell? ⟨Z, 0, none⟩ = some (.pointer (some ⟨R, 0, none⟩))) (ds := []) #[false, false, false, false, false, false, false, false, false, false, false, false] (by kernel_rfl) rfl rfl ⟨HPd.out, Hd.out.cs.1⟩ (fun hHeld => ?_)
  refine pure_ (i := 1) (N := some 15) (v := ?_) (a' := ?_) #[false, true, false, false, false, false, false, false, false, false, false, false] rfl rfl (by kernel_rfl) (fun _ _ _ h => h) (Or.inl ⟨by rfl, ?_⟩) ?_ ?_
  rotate_left
  · intro w'
    go_simp
    with_reducible rfl
  rotate_left
  · simp only [Act.put, List.setIfInBounds_toArray, List.set_cons_zero, List.set_cons_succ, i64_w, i32_w]
    rfl
  refine pure_ (i := 2) (N := some 16) (v := ?_) (a' := ?_) #[false, true, true, false, false, false, false, false, false, false, false, false] rfl rfl (by kernel_rfl) (fun _ _ _ h => h) (Or.inl ⟨by rfl, ?_⟩) ?_ ?_
  rotate_left
  · intro w'
    go_simp
    with_reducible rfl
  rotate_left
  · simp only [Act.put, List.setIfInBounds_toArray, List.set_cons_zero, List.set_cons_succ, i64_w, i32_w]
    rfl
  refine pure_ (i := 3) (N := some 17) (v := ?_) (a' := ?_) #[false, true, true, true, false, false, false, false, false, false, false, false] rfl rfl (by kernel_rfl) (fun _ _ _ h => h) (Or.inl ⟨by rfl, ?_⟩) ?_ ?_
  rotate_left
  · intro w'
    go_simp
    with_reducible rfl
  rotate_left
  · simp only [Act.put, List.setIfInBounds_toArray, List.set_cons_zero, List.set_cons_succ, i64_w, i32_w]
    rfl
  refine take_ (i := 0) (N := some 14) (v := ?_) (a' := ?_) #[true, true, true, true, false, false, false, false, false, false, false, false] rfl rfl (by kernel_rfl) (fun _ _ _ h => h) (Or.inl ⟨by rfl, ?_⟩) hHeld ?_ ?_
  rotate_left
  · rintro w' ⟨s0, s1⟩
    refine (exec_loadMe (x := .tmp 3) ?_ ?_  s0).trans ?_
    · rfl
    · rfl
    · with_reducible rfl
  rotate_left
  · simp only [Act.put, List.setIfInBounds_toArray, List.set_cons_zero, List.set_cons_succ, i64_w, i32_w]
    rfl
  refine take_ (i := 4) (N := some 18) (v := ?_) (a' := ?_) #[true, true, true, true, true, false, false, false, false, false, false, false] rfl rfl (by kernel_rfl) (fun _ _ _ h => h) (Or.inl ⟨by rfl, ?_⟩) hHeld ?_ ?_
  rotate_left
  · rintro w' ⟨s0, s1⟩
    go_simp
    with_reducible rfl
  rotate_left
  · simp only [Act.put, List.setIfInBounds_toArray, List.set_cons_zero, List.set_cons_succ, i64_w, i32_w]
    rfl
  refine one_ (i := 5) (N := some 19) #[true, true, true, true, true, true, false, false, false, false, false, false] rfl rfl (by kernel_rfl) (by decide) (fun K hK => ?_)
  refine goes_ Tryz.func39 (by kernel_rfl) rfl #[.pointer (some ⟨R, 0, none⟩)] (by rfl) rfl rfl (by simp only [List.map_toArray, List.map_cons, List.map_nil]; rfl) ?_
  with_reducible refine (Dk.size_c _ R M v s.d (Lib.hid Hd.out.dsk)).mono ?_
  rintro e w3 ⟨rfl, hd⟩
  refine ⟨_, rfl, ?_⟩
  have H3 := Lib.hid (Hd.out.on hd)
  have HB3 := below_to HBd (Nat.le_refl _) hd
  have HP3 := blk_to HPd hd
  clear hd
  refine hK.out _ _ ⟨HP3.out, H3.out.cs.1⟩ (fun hHeld => ?_)
  clear hK K
  refine norm_ (a' := ?_) ?_ ?_
  rotate_left
  · show Act.put _ (some 19) _ = _
    simp only [Act.put, List.setIfInBounds_toArray, List.set_cons_zero, List.set_cons_succ, i64_w, i32_w]
    rfl
  refine one_ (i := 6) (N := some 20) #[true, true, true, true, true, true, true, false, false, false, false, false] rfl rfl (by kernel_rfl) (by decide) (fun K hK => ?_)
  refine goes_ Tryz.func38 (by kernel_rfl) rfl #[.agg eA, .int .i64 s.d.size] (by rfl) rfl rfl (by simp only [List.map_toArray, List.map_cons, List.map_nil]; rfl) ?_
  with_reducible refine (lay_e s.d.size _ hs2).mono ?_
  rintro e w4 ⟨rfl, hd⟩
  refine ⟨_, rfl, ?_⟩
  have H4 := Lib.hid (H3.out.on hd)
  have HB4 := below_to HB3 (Nat.le_refl _) hd
  have HP4 := blk_to HP3 hd
  clear hd
  refine hK.out _ _ ⟨HP4.out, H4.out.cs.1⟩ (fun hHeld => ?_)
  clear hK K
  refine norm_ (a' := ?_) ?_ ?_
  rotate_left
  · show Act.put _ (some 20) _ = _
    simp only [Act.put, List.setIfInBounds_toArray, List.set_cons_zero, List.set_cons_succ, i64_w, i32_w]
    rfl
  refine pure_ (i := 7) (N := some 13) (v := ?_) (a' := ?_) #[true, true, true, true, true, true, true, true, false, false, false, false] rfl rfl (by kernel_rfl) (fun _ _ _ h => h) (Or.inl ⟨by rfl, ?_⟩) ?_ ?_
  rotate_left
  · intro w'
    go_simp
    with_reducible rfl
  rotate_left
  · simp only [Act.put, List.setIfInBounds_toArray, List.set_cons_zero, List.set_cons_succ, i64_w, i32_w]
    rfl
  refine pure_ (i := 8) (N := some 21) (v := ?_) (a' := ?_) #[true, true, true, true, true, true, true, true, true, false, false, false] rfl rfl (by kernel_rfl) (fun _ _ _ h => h) (Or.inl ⟨by rfl, ?_⟩) ?_ ?_
  rotate_left
  · intro w'
    go_simp
    with_reducible rfl
  rotate_left
  · simp only [Act.put, List.setIfInBounds_toArray, List.set_cons_zero, List.set_cons_succ, i64_w, i32_w]
    rfl
  refine pure_ (i := 9) (N := some 22) (v := ?_) (a' := ?_) #[true, true, true, true, true, true, true, true, true, true, false, false] rfl rfl (by kernel_rfl) (fun _ _ _ h => h) (Or.inl ⟨by rfl, ?_⟩) ?_ ?_
  rotate_left
  · intro w'
    go_simp
    with_reducible rfl
  rotate_left
  · simp only [Act.put, List.setIfInBounds_toArray, List.set_cons_zero, List.set_cons_succ, i64_w, i32_w]
    rfl
  refine pure_ (i := 10) (N := some 5) (v := ?_) (a' := ?_) #[true, true, true, true, true, true, true, true, true, true, true, false] rfl rfl (by kernel_rfl) (fun _ _ _ h => h) (Or.inl ⟨by rfl, ?_⟩) ?_ ?_
  rotate_left
  · intro w'
    go_simp
    with_reducible rfl
  rotate_left
  · simp only [Act.put, List.setIfInBounds_toArray, List.set_cons_zero, List.set_cons_succ, i64_w, i32_w]
    rfl
  refine pure_ (i := 11) (N := some 6) (v := ?_) (a' := ?_) #[true, true, true, true, true, true, true, true, true, true, true, true] rfl rfl (by kernel_rfl) (fun _ _ _ h => h) (Or.inl ⟨by rfl, ?_⟩) ?_ ?_
  rotate_left
  · intro w'
    go_simp
    with_reducible rfl
  rotate_left
  · simp only [Act.put, List.setIfInBounds_toArray, List.set_cons_zero, List.set_cons_succ, i64_w, i32_w]
    rfl
  refine done_ (by kernel_rfl) ?_
  clear hHeld Hd HBd HPd H3 HB3 HP3
  have c1 := H4.out.cs.2.1
  go_wp2_with fail
  clear c1
  refine (at_err _ _ 16 w4).mono ?_
  rintro e w5 ⟨T, x, rfl, he, hd⟩
  have HE5 := Lib.hid he
  have HB5 := below_to HB4 (Nat.le_refl _) hd
  clear he hd HB4
  go_wp2_with fail
  go_ret
  exact ⟨T, x, rfl, HE5.out, HB5.out⟩
theorem find_g (d : Dsk) (g : Int) (h8 : 8 ≤ d.size) : SpM.find (used emptyM { s0 d with gen := g }) ((1 : Nat) : Int) (used emptyM { s0 d with gen := g }).length 0 = (((2 : Nat) : Int), true) := by
  obtain ⟨n, hn⟩ : ∃ n : Nat, d.size = (n : Int) := ⟨d.size.toNat, by omega⟩
  have e : used emptyM { s0 d with gen := g } = used emptyM (s0 (d0 n)) := by
    show taken ((marks emptyM d.size).getD []) _ = taken ((marks emptyM (n : Int)).getD []) _
    rw [hn]
    rfl
  rw [e]
  exact find_0 n (by omega)
set_option maxHeartbeats 4000000 in
set_option maxRecDepth 100000 in
theorem Format_g (w : World) (R M : Nat) (v : Value) (d : Dsk) (h : Hid (IsD w R M v d)) (hsz : 8 ≤ d.size) (hsz2 : d.size ≤ 2048) (hm0 : mayN d 0 = 0) (hm1 : mayN d 1 = 0) (hdn : Hid (d.down = false)) (hb : Hid (d.budget = -1)) (hl : d.soft.length + 1 ≤ 9000) :
    Calls Tryz.prog 9 #[.pointer (some ⟨R, 0, none⟩)] w fun e w' => (((bestOf d 2).g < 4294967295 ∧ ∃ Z H, e = .returned (.tuple #[.pointer (some ⟨Z, 0, none⟩), .nilIface]) ∧ w.heap.size ≤ Z ∧ w.heap.size ≤ H ∧ IsS w' ⟨Z, R, M, H, .slice none 0 0, .slice none 0 0⟩ oE emptyM (swS { s0 d with gen := (bestOf d 2).g } 2)) ∨
      ((bestOf d 2).g = 4294967295 ∧ ∃ T u, e = .returned (.tuple #[.pointer none, .iface T u]) ∧ IsErr w' (.iface T u) 16)) ∧ Mod (Ft R M v) w w' := by
  have hrt := Slt.bestOf_nonneg d 2
  have hrt2 := bestOf_rt d 2
  have hf := find_g d (bestOf d 2).g hsz
  obtain ⟨q, hbe⟩ : ∃ q, bestOf d 2 = q := ⟨_, rfl⟩
  rw [hbe] at hrt hrt2 hf ⊢
  have hq1 : q.g ≤ 4294967295 := by
    by_cases e : 0 < q.g
    · have := (hrt2 e).g1
      omega
    · omega
  have hbe := Lib.hid hbe
  have HF := Lib.hid hf
  clear hrt2 hf
  have hok : Ok emptyM { s0 d with gen := q.g } := ⟨Nat.zero_le _, Nat.zero_le _, right_empty ⟨by show 2 ≤ d.size; omega, hsz2⟩, fun r hr => by
    have : r = zr := by simpa [s0, keys] using hr
    rw [this]; exact ⟨Int.le_refl _, by decide⟩, Nat.zero_le _⟩
  go_enter Tryz.func9, Tryz.ntmps9
  go_wp2_with fail
  refine (made_ok w R M v d h hsz).mono ?_
  rintro e w1 ⟨Z, H, hZ, hH, rfl, hd, hi⟩
  have H1 := Lib.hid hi
  have HB1 := Lib.hid hd
  have HZH := Lib.hid (And.intro hZ hH)
  clear hd hi h hZ hH
  go_wp2_with fail
  refine (best_c w1 R M v d (Lib.hid H1.out.dsk) (by omega)).mono ?_
  rintro e w2 ⟨hd, h1, h2, _⟩
  rw [hbe.out] at h1 h2
  have H2 := Lib.hid (H1.out.on hd)
  have HB2 := below_to HB1 (Nat.le_refl _) hd
  by_cases hq : 0 < q.g
  · have e2 := h1 hm0 hm1 hq
    subst e2
    clear hd h1 h2 H1 HB1 hm0 hm1 hq
    go_upto_region 7 with (first | (refine Slt.wl_allocS rfl rfl ?_) | (refine Slt.wl_storeSn 0 0 0 0 q.g q.x q.y q.z rfl _ _ rfl rfl (by rfl) ?_))
    have hd3 : Below w2.heap.size w2 (w2.alloc (Obj.cells (slA q.g q.x q.y q.z) 62 (0, 0))) := (Below.refl _ _).alloc (Nat.le_refl _) _
    have HX3 := Lib.hid (heap_alloc_last w2 (Obj.cells (slA q.g q.x q.y q.z) 62 (0, 0)))
    have H4 := Lib.hid (H2.out.on hd3)
    have HB4 := below_to HB2 (Nat.le_refl _) hd3
    obtain ⟨X, hX⟩ : ∃ X, w2.heap.size = X := ⟨_, rfl⟩
    rw [hX] at HX3
    simp only [hX]
    generalize (w2.alloc (Obj.cells (slA q.g q.x q.y q.z) 62 (0, 0))) = w4 at *
    have HX4 := HX3
    clear hX hd3 H2 HB2 HX3
    have cx := Err.cell_of_blk HX4.out 0
    have c1 : w4.cell? ⟨Z, 1, none⟩ = some (.int .u32 0) := H4.out.cs.2.1
    have hbz := H4.out.blk
    have f1 : w4.frozen? ⟨Z, 1, none⟩ = false := by simp [World.frozen?, hbz]
    have HZl := Lib.hid (Err.lt_of_block hbz)
    clear hbz
    go_upto_region 8 with fail
    have H5 := Lib.hid (H4.out.setGen q.g).1
    have HB5 := Lib.hid (HB4.out.trans ((mod_cellZ w4 Z 1 (.int .u32 q.g)).below HB4.out.size (fun i hi (e : i = Z) => by have := HZH.out.1; omega)))
    clear cx c1 f1 H4 HB4 HX4
    generalize (w4.setCell ⟨Z, 1, none⟩ (.int .u32 q.g)) = w5 at *
    have hs5 : ({ s0 d with gen := q.g } : St) = { s0 d with gen := q.g } := rfl
    rw [hs5] at H5
    clear hs5
    go_wp2_with (first | (refine wl_load_off aggM szM Z 2 (sa ⟨Z, R, M, H, v, .slice none 0 0⟩ oE emptyM { s0 d with gen := q.g }) 82 eA.toList H5.out.blk rfl (off_e _ _) rfl _ rfl rfl ?_))
    by_cases hg : q.g < 4294967295
    · refine (Switch_ok Z R M H v (.slice none 0 0) oE emptyM { s0 d with gen := q.g } 2 w5 H5 hok hrt hg (fun x hx => by cases hx) HF (by decide) (by show (2 : Int) + ((1 : Nat) : Int) ≤ d.size; omega) hdn hb hl).mono ?_
      rintro e w6 ⟨rfl, hi6, hs6⟩
      have H6 := Lib.hid hi6
      have HS6 := Lib.hid hs6
      clear hi6 hs6
      go_wp2_with fail
      go_ret2
      refine ⟨.inl ⟨hg, Z, H, rfl, HZH.out.1, HZH.out.2, H6.out⟩, ?_⟩
      refine (Mod.of_below HB5.out (Nat.le_refl _)).trans HS6.out.mod (fun i hi f => ?_)
      rcases f with e | e | e | e
      · have := HZH.out.1; have e : i = Z := e; omega
      · have := HZH.out.2; have e : i = H := e; omega
      · exact e
      · cases e
    · have hge : q.g = 4294967295 := by omega
      refine (Switch_ever Z R M H v (.slice none 0 0) oE emptyM { s0 d with gen := q.g } w5 H5 hok hge).mono ?_
      rintro e w6 ⟨T, u, rfl, he, hd⟩
      have HE6 := Lib.hid he
      have HB6 := below_to HB5 (Nat.le_refl _) hd
      clear he hd
      go_wp2_with fail
      go_ret2
      exact ⟨.inr ⟨hge, T, u, rfl, HE6.out⟩, Mod.of_below HB6.out (Nat.le_refl _)⟩
  · obtain ⟨T, u, rfl, he⟩ := h2 hm0 hm1 hq
    have HE2 := Lib.hid he
    have hq0 : q.g = 0 := by omega
    clear hd h1 h2 he H1 HB1 hm0 hm1 hq
    go_upto_region 5 with (first | (refine Slt.wl_allocS rfl rfl ?_) | (refine Slt.wl_storeSn 0 0 0 0 0 0 0 0 rfl _ _ rfl rfl (by rfl) ?_))
    have hd3 : Below w2.heap.size w2 (w2.alloc (Obj.cells (slA 0 0 0 0) 62 (0, 0))) := (Below.refl _ _).alloc (Nat.le_refl _) _
    have HX3 := Lib.hid (heap_alloc_last w2 (Obj.cells (slA 0 0 0 0) 62 (0, 0)))
    have H3 := Lib.hid (H2.out.on hd3)
    have HB3 := below_to HB2 (Nat.le_refl _) hd3
    have HE3 := Lib.hid (HE2.out.on hd3)
    obtain ⟨X, hX⟩ : ∃ X, w2.heap.size = X := ⟨_, rfl⟩
    rw [hX] at HX3
    simp only [hX]
    generalize (w2.alloc (Obj.cells (slA 0 0 0 0) 62 (0, 0))) = w3 at *
    clear hX hd3 H2 HB2 HE2
    obtain ⟨l, hch⟩ : ∃ l, Chain w3 (.iface T u) 3 l := HE3.out.elim (fun e => by cases e.1) id
    have HCh := Lib.hid hch
    clear hch HE3
    go_wp2_with fail
    refine (Err.fis_num (.iface T u) 3 3 l w3 HCh).mono ?_
    rintro e w4 ⟨rfl, hd⟩
    have H4 := Lib.hid (H3.out.on hd)
    have HB4 := below_to HB3 (Nat.le_refl _) hd
    have HX4 := blk_to HX3 hd
    clear hd H3 HB3 HX3 HCh
    have cx := Err.cell_of_blk HX4.out 0
    have c1 : w4.cell? ⟨Z, 1, none⟩ = some (.int .u32 0) := H4.out.cs.2.1
    have hbz := H4.out.blk
    have f1 : w4.frozen? ⟨Z, 1, none⟩ = false := by simp [World.frozen?, hbz]
    have HZl := Lib.hid (Err.lt_of_block hbz)
    clear hbz
    go_upto_region 8 with fail
    have H5 := Lib.hid (H4.out.setGen 0).1
    have HB5 := Lib.hid (HB4.out.trans ((mod_cellZ w4 Z 1 (.int .u32 0)).below HB4.out.size (fun i hi (e : i = Z) => by have := HZH.out.1; omega)))
    clear cx c1 f1 H4 HB4 HX4
    generalize (w4.setCell ⟨Z, 1, none⟩ (.int .u32 0)) = w5 at *
    have hs5 : ({ s0 d with gen := 0 } : St) = { s0 d with gen := q.g } := by rw [hq0]
    rw [hs5] at H5
    clear hs5
    go_wp2_with (first | (refine wl_load_off aggM szM Z 2 (sa ⟨Z, R, M, H, v, .slice none 0 0⟩ oE emptyM { s0 d with gen := q.g }) 82 eA.toList H5.out.blk rfl (off_e _ _) rfl _ rfl rfl ?_))
    by_cases hg : q.g < 4294967295
    · refine (Switch_ok Z R M H v (.slice none 0 0) oE emptyM { s0 d with gen := q.g } 2 w5 H5 hok hrt hg (fun x hx => by cases hx) HF (by decide) (by show (2 : Int) + ((1 : Nat) : Int) ≤ d.size; omega) hdn hb hl).mono ?_
      rintro e w6 ⟨rfl, hi6, hs6⟩
      have H6 := Lib.hid hi6
      have HS6 := Lib.hid hs6
      clear hi6 hs6
      go_wp2_with fail
      go_ret2
      refine ⟨.inl ⟨hg, Z, H, rfl, HZH.out.1, HZH.out.2, H6.out⟩, ?_⟩
      refine (Mod.of_below HB5.out (Nat.le_refl _)).trans HS6.out.mod (fun i hi f => ?_)
      rcases f with e | e | e | e
      · have := HZH.out.1; have e : i = Z := e; omega
      · have := HZH.out.2; have e : i = H := e; omega
      · exact e
      · cases e
    · have hge : q.g = 4294967295 := by omega
      refine (Switch_ever Z R M H v (.slice none 0 0) oE emptyM { s0 d with gen := q.g } w5 H5 hok hge).mono ?_
      rintro e w6 ⟨T, u, rfl, he, hd⟩
      have HE6 := Lib.hid he
      have HB6 := below_to HB5 (Nat.le_refl _) hd
      clear he hd
      go_wp2_with fail
      go_ret2
      exact ⟨.inr ⟨hge, T, u, rfl, HE6.out⟩, Mod.of_below HB6.out (Nat.le_refl _)⟩
end Go.Proofs.YtaodgnladjafoaaGreatDoor.Sto
