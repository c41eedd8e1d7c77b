/- Words that the proof uses. -/
import Derived.Test.YtaodgnladjafoaaGreatDoorStore2V
import Derived.Test.YtaodgnladjafoaaGreatDoorHeld2V
set_option linter.unusedVariables false
set_option linter.unusedSimpArgs false
namespace Go.Proofs.YtaodgnladjafoaaGreatDoor.Sto
open Go.RowKit Go.Proofs.YtaodgnladjafoaaGreatDoorW.PrintWords Go.Proofs.YtaodgnladjafoaaGreatDoorW.PrintLast Go.Proofs.YtaodgnladjafoaaGreatDoorW.PrintMore Go.Proofs.YtaodgnladjafoaaGreatDoor.Md Go.Proofs.YtaodgnladjafoaaGreatDoor.Mni Go.Proofs.YtaodgnladjafoaaGreatDoor.QStoreLasts
open Go.Proofs.YtaodgnladjafoaaGreatDoor.Dk (Dsk IsD Ft)
open Go.Proofs.YtaodgnladjafoaaGreatDoor.Err (Laid IsErr code_nil code_c Chain at_some at_nil)
theorem Gen_c (Z R M H : Nat) (v p : Value) (o : Mni.Loc) (m : Man) (s : St) (w : World) (h : Hid (IsS w ⟨Z, R, M, H, v, p⟩ o m s)) :
    Calls Tryz.prog 15 #[.pointer (some ⟨Z, 0, none⟩)] w fun e w' => e = .returned (.int .u32 s.gen) ∧ Below w.heap.size w w' := by
  have c1 := h.out.cs.2.1
  go_enter Tryz.func15, Tryz.ntmps15
  go_wp2_with fail
  go_ret
  exact ⟨rfl, Below.refl _ _⟩
set_option maxHeartbeats 4000000 in
set_option maxRecDepth 100000 in
theorem Get_ok (Z R M H : Nat) (v p : Value) (o : Mni.Loc) (m : Man) (s : St) (r : Rf) (n : Nat) (t : ByteArray) (w : World) (h : Hid (IsS w ⟨Z, R, M, H, v, p⟩ o m s)) (hdn : Hid (s.d.down = false)) (hn : Hid (Blb.pagesV r.f1 = (n : Int))) (hn1 : 1 ≤ n) (hx0 : 0 ≤ r.f0) (hx1 : r.f0 + (n : Int) ≤ s.d.size) (hsz : s.d.size ≤ 2048) (hl : s.d.soft.length ≤ 9000) (ht : Hid (strOfNums ((Blb.gs s.d r.f0 n).take r.f1.toNat) = t)) (hsum : AdM.sum t = r.f2) :
    Calls Tryz.prog 23 #[.pointer (some ⟨Z, 0, none⟩), .agg (ra r)] w fun e w' => e = .returned (.tuple #[.string t, .nilIface]) ∧ Below w.heap.size w w' := by
  go_enter Tryz.func23, Tryz.ntmps23
  go_upto_region 1 with fail
  have hd1 : Below w.heap.size w (w.alloc (Obj.cells (ra r) 36 (0, 0))) := (Below.refl _ _).alloc (Nat.le_refl _) _
  have HK1 := Lib.hid (heap_alloc_last w (Obj.cells (ra r) 36 (0, 0)))
  have H1 := Lib.hid (h.out.on hd1)
  have HB1 := Lib.hid hd1
  obtain ⟨B, hB⟩ : ∃ B, w.heap.size = B := ⟨_, rfl⟩
  rw [hB] at HK1
  simp only [hB]
  generalize (w.alloc (Obj.cells (ra r) 36 (0, 0))) = w1 at *
  clear hd1 hB h
  go_upto_region 3 with fail
  have hdd : Below w1.heap.size w1 (World.drew w1) := (Below.refl _ _).drew
  have H2 := Lib.hid (H1.out.on hdd)
  have HB2 := below_to HB1 (Nat.le_refl _) hdd
  have HK2 := blk_to HK1 hdd
  clear hdd H1 HB1 HK1
  refine start_ (n := 10) (S := fun w' => w'.cell? ⟨Z, 0, none⟩ = some (.pointer (some ⟨R, 0, none⟩)) ∧ w'.heap[B]? = some (Obj.cells (ra r) 36 (0, 0))) (ds := []) #[false, false, false, false, false, false, false, false, false, false] (by kernel_rfl) rfl rfl ⟨H2.out.cs.1, HK2.out⟩ (fun hHeld => ?_)
  refine pure_ (i := 0) (N := some 10) (v := ?_) (a' := ?_) #[true, false, false, false, false, false, false, false, false, false] rfl rfl (by kernel_rfl) (fun _ _ _ h => h) (Or.inl ⟨by rfl, ?_⟩) ?_ ?_
  rotate_left
  · intro w'
    go_simp
    with_reducible rfl
  rotate_left
  · simp only [Act.put, List.setIfInBounds_toArray, List.set_cons_zero, List.set_cons_succ, i64_w, i32_w]
    rfl
  refine pure_ (i := 1) (N := some 11) (v := ?_) (a' := ?_) #[true, true, false, false, false, false, false, false, false, false] rfl rfl (by kernel_rfl) (fun _ _ _ h => h) (Or.inl ⟨by rfl, ?_⟩) ?_ ?_
  rotate_left
  · intro w'
    go_simp
    with_reducible rfl
  rotate_left
  · simp only [Act.put, List.setIfInBounds_toArray, List.set_cons_zero, List.set_cons_succ, i64_w, i32_w]
    rfl
  refine pure_ (i := 2) (N := some 12) (v := ?_) (a' := ?_) #[true, true, true, false, false, false, false, false, false, false] rfl rfl (by kernel_rfl) (fun _ _ _ h => h) (Or.inl ⟨by rfl, ?_⟩) ?_ ?_
  rotate_left
  · intro w'
    go_simp
    with_reducible rfl
  rotate_left
  · simp only [Act.put, List.setIfInBounds_toArray, List.set_cons_zero, List.set_cons_succ, i64_w, i32_w]
    rfl
  refine take_ (i := 3) (N := some 13) (v := ?_) (a' := ?_) #[true, true, true, true, false, false, false, false, false, false] rfl rfl (by kernel_rfl) (fun _ _ _ h => h) (Or.inl ⟨by rfl, ?_⟩) hHeld ?_ ?_
  rotate_left
  · rintro w' ⟨s0, s1⟩
    go_simp
    with_reducible rfl
  rotate_left
  · simp only [Act.put, List.setIfInBounds_toArray, List.set_cons_zero, List.set_cons_succ, i64_w, i32_w]
    rfl
  refine take_ (i := 4) (N := some 14) (v := ?_) (a' := ?_) #[true, true, true, true, true, false, false, false, false, false] rfl rfl (by kernel_rfl) (fun _ _ _ h => h) (Or.inl ⟨by rfl, ?_⟩) hHeld ?_ ?_
  rotate_left
  · rintro w' ⟨s0, s1⟩
    refine (exec_loadR (x := .tmp 3) ?_ ?_  s1).trans ?_
    · rfl
    · rfl
    · with_reducible rfl
  rotate_left
  · simp only [Act.put, List.setIfInBounds_toArray, List.set_cons_zero, List.set_cons_succ, i64_w, i32_w]
    rfl
  refine one_ (i := 5) (N := some 15) #[true, true, true, true, true, true, false, false, false, false] rfl rfl (by kernel_rfl) (by decide) (fun K hK => ?_)
  refine goes_ Tryz.func43 (by kernel_rfl) rfl #[.pointer (some ⟨R, 0, none⟩), .agg (Blb.refA r.f0 r.f1 r.f2)] (by rfl) rfl rfl (by simp only [List.map_toArray, List.map_cons, List.map_nil]; rfl) ?_
  with_reducible refine (Blb.get_ok _ R M v s.d r.f0 r.f1 r.f2 n t (Lib.hid H2.out.dsk) hdn hn hn1 hx0 hx1 hsz hl ht).mono ?_
  rintro e w3 ⟨h1, _, hd⟩
  rw [h1 hsum]
  refine ⟨_, rfl, ?_⟩
  have HB3 := below_to HB2 (Nat.le_refl _) hd
  have H3 := Lib.hid (H2.out.on hd)
  have HK3 := blk_to HK2 hd
  clear hd h1
  refine hK.out _ _ ⟨H3.out.cs.1, HK3.out⟩ (fun hHeld => ?_)
  clear hK K
  refine norm_ (a' := ?_) ?_ ?_
  rotate_left
  · show Act.put _ (some 15) _ = _
    simp only [Act.put, List.setIfInBounds_toArray, List.set_cons_zero, List.set_cons_succ, i64_w, i32_w]
    rfl
  refine pure_ (i := 6) (N := some 16) (v := ?_) (a' := ?_) #[true, true, true, true, true, true, true, false, false, false] rfl rfl (by kernel_rfl) (fun _ _ _ h => h) (Or.inl ⟨by rfl, ?_⟩) ?_ ?_
  rotate_left
  · intro w'
    go_simp
    with_reducible rfl
  rotate_left
  · simp only [Act.put, List.setIfInBounds_toArray, List.set_cons_zero, List.set_cons_succ, i64_w, i32_w]
    rfl
  refine pure_ (i := 7) (N := some 17) (v := ?_) (a' := ?_) #[true, true, true, true, true, true, true, true, false, false] rfl rfl (by kernel_rfl) (fun _ _ _ h => h) (Or.inl ⟨by rfl, ?_⟩) ?_ ?_
  rotate_left
  · intro w'
    go_simp
    with_reducible rfl
  rotate_left
  · simp only [Act.put, List.setIfInBounds_toArray, List.set_cons_zero, List.set_cons_succ, i64_w, i32_w]
    rfl
  refine pure_ (i := 8) (N := some 4) (v := ?_) (a' := ?_) #[true, true, true, true, true, true, true, true, true, false] rfl rfl (by kernel_rfl) (fun _ _ _ h => h) (Or.inl ⟨by rfl, ?_⟩) ?_ ?_
  rotate_left
  · intro w'
    go_simp
    with_reducible rfl
  rotate_left
  · simp only [Act.put, List.setIfInBounds_toArray, List.set_cons_zero, List.set_cons_succ, i64_w, i32_w]
    rfl
  refine pure_ (i := 9) (N := some 5) (v := ?_) (a' := ?_) #[true, true, true, true, true, true, true, true, true, true] rfl rfl (by kernel_rfl) (fun _ _ _ h => h) (Or.inl ⟨by rfl, ?_⟩) ?_ ?_
  rotate_left
  · intro w'
    go_simp
    with_reducible rfl
  rotate_left
  · simp only [Act.put, List.setIfInBounds_toArray, List.set_cons_zero, List.set_cons_succ, i64_w, i32_w]
    rfl
  refine done_ (by kernel_rfl) ?_
  clear hHeld H2 HB2 HK2
  go_wp2_with fail
  go_ret2
  exact ⟨rfl, HB3.out⟩
end Go.Proofs.YtaodgnladjafoaaGreatDoor.Sto
