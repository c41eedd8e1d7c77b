/- Put where no text may lie. -/
import Derived.Test.YtkkikhbenhkfcaaDoorBlobPlays1
set_option linter.unusedVariables false
set_option linter.unusedSimpArgs false
namespace Go.Proofs.YtkkikhbenhkfcaaDoor.Blb
open Go.Proofs.YtkkikhbenhkfcaaDoor.AdM (sum)
open Go.RowKit Go.Proofs.YtkkikhbenhkfcaaDoor.QBlobBack Go.Proofs.YtkkikhbenhkfcaaDoorW.PrintWords Go.Proofs.YtkkikhbenhkfcaaDoorW.PrintLast Go.Proofs.YtkkikhbenhkfcaaDoorW.PrintMore Go.Proofs.YtkkikhbenhkfcaaDoor.CdM Go.Proofs.YtkkikhbenhkfcaaDoor.Md Go.Proofs.YtkkikhbenhkfcaaDoor.Dk
open Go.Extern.Stop (cell)
open Go.Proofs.YtkkikhbenhkfcaaDoor.Err (Laid IsErr code_nil Chain at_some at_nil)
set_option maxHeartbeats 4000000 in
set_option maxRecDepth 100000 in
theorem put_size (w : World) (R : Nat) (x : Int) (s : ByteArray) (hs : s.size ≤ 20000) (hn : Hid (pagesV (s.size : Int) = 0)) :
    Calls Tryd.prog 9 #[.pointer (some ⟨R, 0, none⟩), .int .i64 x, .string s] w fun ev w' => (∃ T u, ev = .returned (.tuple #[.agg (refA 0 0 0), .iface T u]) ∧ IsErr w' (.iface T u) 15) ∧ Below w.heap.size w w' := by
  go_enter Tryd.func9, Tryd.ntmps9
  go_wp2_with fail
  have hb1 : Below w.heap.size w (w.alloc (Obj.cells #[.int .i64 0, .int .i64 0, .int .u32 0] 30 (0, 0))) := (Below.refl _ _).alloc (Nat.le_refl _) _
  have HK1 := Lib.hid (heap_alloc_last w (Obj.cells (refA 0 0 0) 30 (0, 0)))
  refine (sum_c s _ (by omega)).mono ?_
  rintro e w2 ⟨rfl, hd2⟩
  have HB2 := Lib.hid (hb1.trans (hd2.mono hb1.size))
  have HK2 := Lib.hid ((hd2.block w.heap.size (by simp)).trans HK1.out)
  obtain ⟨sm, hsm⟩ : ∃ sm, sum s = sm := ⟨_, rfl⟩
  rw [hsm]
  clear hd2 HK1 hb1 hsm
  go_wp2_with fail
  have hb3 : Below w2.heap.size w2 (w2.alloc (Obj.cells (refA x (s.size : Int) sm) 30 (0, 0))) := (Below.refl _ _).alloc (Nat.le_refl _) _
  have HB3 := Lib.hid (HB2.out.trans (hb3.mono HB2.out.size))
  have HZ3 := blk_to HK2 hb3
  obtain ⟨w3, hw3⟩ : ∃ w3, w2.alloc (Obj.cells (refA x (s.size : Int) sm) 30 (0, 0)) = w3 := ⟨_, rfl⟩
  rw [hw3] at HB3 HZ3
  rw [hw3]
  clear hb3 hw3 HB2 HK2
  refine (pages_c (s.size : Int) 0 hn _).mono ?_
  rintro e w4 ⟨rfl, hd⟩
  have HB4 := below_to HB3 (Nat.le_refl _) hd.below
  have HZ4 := blk_to HZ3 hd.below
  clear hd HB3 HZ3
  go_wp2_with fail
  refine (at_err _ _ 15 _).mono ?_
  rintro e w5 ⟨T, u, rfl, he, hd⟩
  have HE := Lib.hid he
  have HB5 := below_to HB4 (Nat.le_refl _) hd
  have HZ5 := blk_to HZ4 hd
  clear he hd HB4 HZ4
  obtain ⟨z0, z1, z2⟩ := ref_keep HZ5.out (Below.refl w5.heap.size w5)
  have f0 : w5.frozen? ⟨w.heap.size, 0, none⟩ = false := by simp [World.frozen?, HZ5.out]
  have f1 : w5.frozen? ⟨w.heap.size, 1, none⟩ = false := by simp [World.frozen?, HZ5.out]
  have f2 : w5.frozen? ⟨w.heap.size, 2, none⟩ = false := by simp [World.frozen?, HZ5.out]
  go_wp2_with fail
  (try simp only [Exit.inBlock, Exit.then])
  refine bodyPost_ret (v := .tuple #[.agg (refA 0 0 0), .iface T u]) ?_ rfl ?_
  · exact put_results _ _ w.heap.size 0 0 0 (.iface T u) rfl rfl (set3 HZ5.out _ _ _)
  have hM3 : Mod (· = w.heap.size) w5 (((w5.setCell ⟨w.heap.size, 0, none⟩ (.int .i64 0)).setCell ⟨w.heap.size, 1, none⟩ (.int .i64 0)).setCell ⟨w.heap.size, 2, none⟩ (.int .u32 0)) :=
    (((Mod.refl (· = w.heap.size) w5).set ⟨w.heap.size, 0, none⟩ _ (.inl rfl)).set ⟨w.heap.size, 1, none⟩ _ (.inl rfl)).set ⟨w.heap.size, 2, none⟩ _ (.inl rfl)
  exact ⟨⟨T, u, rfl, isErr_mod HE.out hM3 (fun b cs hb (e : b = w.heap.size) => by rw [e, HZ5.out] at hb; simp at hb)⟩, HB5.out.trans (hM3.below HB5.out.size (fun i hi (e : i = w.heap.size) => by omega))⟩
set_option maxHeartbeats 4000000 in
set_option maxRecDepth 100000 in
theorem put_arg (w : World) (R M : Nat) (v : Value) (d : Dsk) (x : Int) (s : ByteArray) (n : Nat) (h : Hid (IsD w R M v d)) (hs : s.size ≤ 20000) (hn : Hid (pagesV (s.size : Int) = (n : Int))) (hn1 : 1 ≤ n) (hr : Hid (rightV x (s.size : Int) d.size = false)) (hsz0 : 0 ≤ d.size) (hsz : d.size ≤ 2048) :
    Calls Tryd.prog 9 #[.pointer (some ⟨R, 0, none⟩), .int .i64 x, .string s] w fun ev w' => (∃ T u, ev = .returned (.tuple #[.agg (refA 0 0 0), .iface T u]) ∧ IsErr w' (.iface T u) 1) ∧ Below w.heap.size w w' := by
  have t1 : ((n : Int) == 0) = false := beq_eq_false_iff_ne.2 (by omega)
  have t1' : (n == 0) = false := beq_eq_false_iff_ne.2 (by omega)
  go_enter Tryd.func9, Tryd.ntmps9
  go_wp2_with fail
  have hb1 : Below w.heap.size w (w.alloc (Obj.cells #[.int .i64 0, .int .i64 0, .int .u32 0] 30 (0, 0))) := (Below.refl _ _).alloc (Nat.le_refl _) _
  have HK1 := Lib.hid (heap_alloc_last w (Obj.cells (refA 0 0 0) 30 (0, 0)))
  refine (sum_c s _ (by omega)).mono ?_
  rintro e w2 ⟨rfl, hd2⟩
  have HB2 := Lib.hid (hb1.trans (hd2.mono hb1.size))
  have HK2 := Lib.hid ((hd2.block w.heap.size (by simp)).trans HK1.out)
  obtain ⟨sm, hsm⟩ : ∃ sm, sum s = sm := ⟨_, rfl⟩
  rw [hsm]
  clear hd2 HK1 hb1 hsm
  go_wp2_with fail
  have hb3 : Below w2.heap.size w2 (w2.alloc (Obj.cells (refA x (s.size : Int) sm) 30 (0, 0))) := (Below.refl _ _).alloc (Nat.le_refl _) _
  have HB3 := Lib.hid (HB2.out.trans (hb3.mono HB2.out.size))
  have HZ3 := blk_to HK2 hb3
  have HK3 := Lib.hid (heap_alloc_last w2 (Obj.cells (refA x (s.size : Int) sm) 30 (0, 0)))
  obtain ⟨K, hK⟩ : ∃ K, w2.heap.size = K := ⟨_, rfl⟩
  obtain ⟨w3, hw3⟩ : ∃ w3, w2.alloc (Obj.cells (refA x (s.size : Int) sm) 30 (0, 0)) = w3 := ⟨_, rfl⟩
  rw [hw3] at HB3 HZ3 HK3
  rw [hK] at HK3
  rw [hw3]
  simp only [hK]
  clear hb3 hw3 HB2 HK2
  refine (pages_c (s.size : Int) (n : Int) hn _).mono ?_
  rintro e w4 ⟨rfl, hd⟩
  have HB4 := below_to HB3 (Nat.le_refl _) hd.below
  have HZ4 := blk_to HZ3 hd.below
  have HK4 := blk_to HK3 hd.below
  clear hd HB3 HZ3 HK3
  go_wp2_with fail
  have HD4 := Lib.hid (h.out.on HB4.out)
  have HBd := Lib.hid (show Below w4.heap.size w4 w4.drew from (Below.refl _ _).drew)
  have hS4 := ref_keep HK4.out HBd.out
  go_region_held3 (fun w' => w'.cell? ⟨K, 0, none⟩ = some (.int .i64 x) ∧ w'.cell? ⟨K, 1, none⟩ = some (.int .i64 (s.size : Int)) ∧ w'.cell? ⟨K, 2, none⟩ = some (.int .u32 sm))
    (first | with_reducible exact hS4 | with_reducible assumption)
    (first
      | (go_at_call 25
         refine (size_c _ R M v d (Lib.hid (HD4.out.on HBd.out))).mono ?_
         rintro e w5 ⟨rfl, hd5⟩
         have HB5 := Lib.hid (HBd.out.trans hd5)
         have hS5 := ref_keep HK4.out HB5.out
         clear hd5)
      | (go_at_call 17
         refine (right_c x (s.size : Int) sm d.size _ (by omega) (by omega)).mono ?_
         rintro e w6 ⟨rfl, hd6⟩
         rw [hr.out]
         have HB6 := Lib.hid (HB5.out.trans (hd6.mono HB5.out.size))
         have hS6 := ref_keep HK4.out HB6.out
         clear hd6))
  have HZ6 := blk_to HZ4 HB6.out
  have HBx := below_to HB4 (Nat.le_refl _) HB6.out
  clear hS4 hS5 hS6 HBd HB5 HB6 HD4 HB4 HK4 HZ4
  go_wp2_with fail
  refine (at_err _ _ 1 _).mono ?_
  rintro e w5 ⟨T, u, rfl, he, hd⟩
  have HE := Lib.hid he
  have HB5 := below_to HBx (Nat.le_refl _) hd
  have HZ5 := blk_to HZ6 hd
  clear he hd HBx HZ6
  obtain ⟨z0, z1, z2⟩ := ref_keep HZ5.out (Below.refl w5.heap.size w5)
  have f0 : w5.frozen? ⟨w.heap.size, 0, none⟩ = false := by simp [World.frozen?, HZ5.out]
  have f1 : w5.frozen? ⟨w.heap.size, 1, none⟩ = false := by simp [World.frozen?, HZ5.out]
  have f2 : w5.frozen? ⟨w.heap.size, 2, none⟩ = false := by simp [World.frozen?, HZ5.out]
  go_wp2_with fail
  (try simp only [Exit.inBlock, Exit.then])
  refine bodyPost_ret (v := .tuple #[.agg (refA 0 0 0), .iface T u]) ?_ rfl ?_
  · exact put_results _ _ w.heap.size 0 0 0 (.iface T u) rfl rfl (set3 HZ5.out _ _ _)
  have hM3 : Mod (· = w.heap.size) w5 (((w5.setCell ⟨w.heap.size, 0, none⟩ (.int .i64 0)).setCell ⟨w.heap.size, 1, none⟩ (.int .i64 0)).setCell ⟨w.heap.size, 2, none⟩ (.int .u32 0)) :=
    (((Mod.refl (· = w.heap.size) w5).set ⟨w.heap.size, 0, none⟩ _ (.inl rfl)).set ⟨w.heap.size, 1, none⟩ _ (.inl rfl)).set ⟨w.heap.size, 2, none⟩ _ (.inl rfl)
  exact ⟨⟨T, u, rfl, isErr_mod HE.out hM3 (fun b cs hb (e : b = w.heap.size) => by rw [e, HZ5.out] at hb; simp at hb)⟩, HB5.out.trans (hM3.below HB5.out.size (fun i hi (e : i = w.heap.size) => by omega))⟩
end Go.Proofs.YtkkikhbenhkfcaaDoor.Blb
