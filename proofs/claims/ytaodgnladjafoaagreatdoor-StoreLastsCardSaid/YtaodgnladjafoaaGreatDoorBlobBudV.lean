/- Words that the proof uses. -/
import Derived.Test.YtaodgnladjafoaaGreatDoorBlob23V
set_option linter.unusedVariables false
set_option linter.unusedSimpArgs false
namespace Go.Proofs.YtaodgnladjafoaaGreatDoor.Blb
open Go.Proofs.YtaodgnladjafoaaGreatDoor.AdM (sum)
open Go.RowKit Go.Proofs.YtaodgnladjafoaaGreatDoor.QStoreLasts Go.Proofs.YtaodgnladjafoaaGreatDoorW.PrintWords Go.Proofs.YtaodgnladjafoaaGreatDoorW.PrintLast Go.Proofs.YtaodgnladjafoaaGreatDoorW.PrintMore Go.Proofs.YtaodgnladjafoaaGreatDoor.CdM Go.Proofs.YtaodgnladjafoaaGreatDoor.Md Go.Proofs.YtaodgnladjafoaaGreatDoor.Dk
open Go.Extern.Stop (cell)
open Go.Proofs.YtaodgnladjafoaaGreatDoor.Err (Laid IsErr code_nil Chain at_some at_nil)
def bud (b : Int) (n : Nat) : Int := if b = -1 then -1 else b - (n : Int)
theorem bud_zero {b : Int} (h : -1 ≤ b) : bud b 0 = b := by
  unfold bud
  by_cases h1 : b = -1
  · rw [if_pos h1, h1]
  · rw [if_neg h1]; omega
theorem at_wrap (op path : ByteArray) (T : TypeId) (u : Value) (n : Int) (w : World) (he : Hid (IsErr w (.iface T u) n)) :
    Calls Tryz.prog 31 #[.string op, .string path, .iface T u] w fun ev w' => ∃ T2 u2, ev = .returned (.iface T2 u2) ∧ IsErr w' (.iface T2 u2) n ∧ Below w.heap.size w w' := by
  obtain ⟨l, hc⟩ : ∃ l, Chain w (.iface T u) n l := he.out.elim (fun e => by cases e.1) id
  have hB : Below w.heap.size w (w.alloc (.cells #[.string op, .string path, .iface T u] 113)) := (Below.refl _ _).alloc (Nat.le_refl _) _
  refine (at_some op path T u w).mono ?_
  rintro ev w' ⟨rfl, rfl⟩
  exact ⟨_, _, rfl, .inr ⟨_, .wrap _ op path _ n l (by show (w.heap.push _)[w.heap.size]? = _; simp) (hc.on hB)⟩, hB⟩
set_option maxHeartbeats 8000000 in
set_option maxRecDepth 100000 in
theorem put_b (w : World) (R M : Nat) (v : Value) (d : Dsk) (x : Int) (s : ByteArray) (n : Nat) (h : Hid (IsD w R M v d)) (hdn : Hid (d.down = false)) (hb0 : -1 ≤ d.budget) (hb1 : d.budget < 9223372036854775808) (hs : s.size ≤ 16384) (hn : Hid (pagesV (s.size : Int) = (n : Int))) (hn1 : 1 ≤ n) (hx0 : 0 ≤ x) (hx1 : x + (n : Int) ≤ d.size) (hsz : d.size ≤ 2048) (hl : d.soft.length + n ≤ 9000) :
    Calls Tryz.prog 37 #[.pointer (some ⟨R, 0, none⟩), .int .i64 x, .string s] w fun ev w' => ((d.budget = -1 ∨ (n : Int) ≤ d.budget) ∧ ev = .returned (.tuple #[.agg (refA x (s.size : Int) (sum s)), .nilIface]) ∧ ∃ v', Mod (Ft R M v) w w' ∧ IsD w' R M v' { d with soft := d.soft ++ pgs s x n, budget := bud d.budget n } ∧ (∀ i, Ft R M v' i → Ft R M v i ∨ w.heap.size ≤ i)) ∨
      (0 ≤ d.budget ∧ d.budget < (n : Int) ∧ (∃ T u, ev = .returned (.tuple #[.agg (refA 0 0 0), .iface T u]) ∧ IsErr w' (.iface T u) 10) ∧ ∃ v', Mod (Ft R M v) w w' ∧ IsD w' R M v' { d with soft := d.soft ++ pgs s x d.budget.toNat, budget := 0 } ∧ (∀ i, Ft R M v' i → Ft R M v i ∨ w.heap.size ≤ i)) := by
  have hp := pagesV_le (s.size : Int)
  rw [hn.out] at hp
  have t1 : ((n : Int) == 0) = false := beq_eq_false_iff_ne.2 (by omega)
  have t1' : (n == 0) = false := beq_eq_false_iff_ne.2 (by omega)
  have hright : rightV x (s.size : Int) d.size = true := by
    unfold rightV
    rw [hn.out, decide_eq_true (by omega), decide_eq_true hx0, decide_eq_true (by omega)]; rfl
  have HR := Lib.hid hright
  clear hright
  go_enter Tryz.func37, Tryz.ntmps37
  go_wp2_with fail
  have hb1 : Below w.heap.size w (w.alloc (Obj.cells #[.int .i64 0, .int .i64 0, .int .u32 0] 36 (0, 0))) := (Below.refl _ _).alloc (Nat.le_refl _) _
  have HK1 := Lib.hid (heap_alloc_last w (Obj.cells (refA 0 0 0) 36 (0, 0)))
  refine (sum_c s _ (by omega)).mono ?_
  rintro e w2 ⟨rfl, hd2⟩
  have HB2 := Lib.hid (hb1.trans (hd2.mono hb1.size))
  have HK2 := Lib.hid ((hd2.block w.heap.size (by simp)).trans HK1.out)
  obtain ⟨sm, hsm⟩ : ∃ sm, sum s = sm := ⟨_, rfl⟩
  have HSm := Lib.hid hsm
  rw [hsm]
  clear hd2 HK1 hb1 hsm
  go_wp2_with fail
  have hb3 : Below w2.heap.size w2 (w2.alloc (Obj.cells (refA x (s.size : Int) sm) 36 (0, 0))) := (Below.refl _ _).alloc (Nat.le_refl _) _
  have HK3 := Lib.hid (heap_alloc_last w2 (Obj.cells (refA x (s.size : Int) sm) 36 (0, 0)))
  have HB3 := Lib.hid (HB2.out.trans (hb3.mono HB2.out.size))
  have HZ3 := blk_to HK2 hb3
  have hne3 : w.heap.size ≠ w2.heap.size := by have := Err.lt_of_block HK2.out; omega
  obtain ⟨K, hK⟩ : ∃ K, w2.heap.size = K := ⟨_, rfl⟩
  obtain ⟨w3, hw3⟩ : ∃ w3, w2.alloc (Obj.cells (refA x (s.size : Int) sm) 36 (0, 0)) = w3 := ⟨_, rfl⟩
  rw [hw3] at HK3 HB3 HZ3
  rw [hK] at HK3 hne3
  have hKg : w.heap.size ≤ K := by rw [← hK]; exact HB2.out.size
  rw [hw3]
  simp only [hK]
  clear hb3 hw3 hK HB2 HK2
  refine (pages_c (s.size : Int) (n : Int) hn _).mono ?_
  rintro e w4 ⟨rfl, hd⟩
  have HK4 := blk_to HK3 hd.below
  have HB4 := below_to HB3 (Nat.le_refl _) hd.below
  have HZ4 := blk_to HZ3 hd.below
  clear hd HK3 HB3 HZ3
  go_wp2_with fail
  have HD4 := Lib.hid (h.out.on HB4.out)
  have HBd := Lib.hid (show Below w4.heap.size w4 w4.drew from (Below.refl _ _).drew)
  have hS4 := ref_keep HK4.out HBd.out
  go_region_held3 (fun w' => w'.cell? ⟨K, 0, none⟩ = some (.int .i64 x) ∧ w'.cell? ⟨K, 1, none⟩ = some (.int .i64 (s.size : Int)) ∧ w'.cell? ⟨K, 2, none⟩ = some (.int .u32 sm))
    (first | with_reducible exact hS4 | with_reducible assumption)
    (first
      | (go_at_call 39
         refine (size_c _ R M v d (Lib.hid (HD4.out.on HBd.out))).mono ?_
         rintro e w5 ⟨rfl, hd5⟩
         have HB5 := Lib.hid (HBd.out.trans hd5)
         have hS5 := ref_keep HK4.out HB5.out
         clear hd5)
      | (go_at_call 62
         refine (right_c x (s.size : Int) sm d.size _ (by omega) (by omega)).mono ?_
         rintro e w6 ⟨rfl, hd6⟩
         rw [HR.out]
         have HB6 := Lib.hid (HB5.out.trans (hd6.mono HB5.out.size))
         have hS6 := ref_keep HK4.out HB6.out
         clear hd6))
  have HK6 := blk_to HK4 HB6.out
  have HZ6 := blk_to HZ4 HB6.out
  have HBx := below_to HB4 (Nat.le_refl _) HB6.out
  clear hS4 hS5 hS6 HBd HB5 HB6 HD4 HB4 HK4 HZ4
  go_wp2_with fail
  refine (pages_c (s.size : Int) (n : Int) hn _).mono ?_
  rintro e w7 ⟨rfl, hd⟩
  have HK7 := blk_to HK6 hd.below
  have HZ7 := blk_to HZ6 hd.below
  have HB7 := below_to HBx (Nat.le_refl _) hd.below
  clear hd HK6 HZ6 HBx
  go_wp2_with fail
  have hpv : n * 64 ≤ s.size + 63 := by
    have := hn.out
    unfold pagesV at this
    rw [if_neg (by intro hlt; rw [if_pos hlt] at this; omega), if_neg (by omega)] at this
    omega
  have hd7 : IsD w7 R M v { d with soft := d.soft ++ pgs s x 0, budget := bud d.budget 0 } := by
    have e : d.soft ++ pgs s x 0 = d.soft := List.append_nil _
    rw [e, bud_zero hb0]; exact h.out.on HB7.out
  have hgo0 : d.budget = -1 ∨ ((0 : Nat) : Int) ≤ d.budget := by omega
  have hft := h.out.ft_lt
  go_loopg [38] n (fun kq v0 wr => ∃ (i : Nat) (v' : Value), v0 = .int .i64 (i : Int) ∧ kq + i = n ∧ Hid (Mod (Ft R M v) w wr) ∧ Hid (IsD wr R M v' { d with soft := d.soft ++ pgs s x i, budget := bud d.budget i }) ∧ Hid (d.budget = -1 ∨ (i : Int) ≤ d.budget) ∧ Hid (∀ j, Ft R M v' j → Ft R M v j ∨ w.heap.size ≤ j) ∧ Hid (∀ j, Ft R M v' j → j ≠ w.heap.size ∧ j ≠ K) ∧
    Hid (wr.heap[K]? = some (Obj.cells (refA x (s.size : Int) sm) 36 (0, 0))) ∧ Hid (wr.heap[w.heap.size]? = some (Obj.cells (refA 0 0 0) 36 (0, 0))))
  case atStart => exact ⟨0, v, rfl, by omega, Lib.hid (Mod.of_below HB7.out (Nat.le_refl _)), Lib.hid hd7, Lib.hid hgo0, Lib.hid (fun j hj => .inl hj), Lib.hid (fun j hj => by have := hft j hj; omega), HK7, HZ7⟩
  case round =>
    clear hd7 hgo0 HK7 HZ7 HB7 hft
    obtain ⟨i, v', rfl, hk, HM, HD, HG, HV, HN, HK, HZ⟩ := hrel
    cases gk with
    | zero =>
      have hin : i = n := by omega
      have c5 : decide ((i : Int) < (n : Int)) = false := decide_eq_false (by omega)
      have c5' : decide (i < n) = false := decide_eq_false (by omega)
      have HD2 := Lib.hid (show IsD wr R M v' { d with soft := d.soft ++ pgs s x n, budget := bud d.budget n } by rw [← hin]; exact HD.out)
      have HGn := Lib.hid (show d.budget = -1 ∨ (n : Int) ≤ d.budget by rw [← hin]; exact HG.out)
      clear hin hk HD
      obtain ⟨k0, k1, k2⟩ := ref_keep HK.out (Below.refl wr.heap.size wr)
      obtain ⟨z0, z1, z2⟩ := ref_keep HZ.out (Below.refl wr.heap.size wr)
      have f0 : wr.frozen? ⟨w.heap.size, 0, none⟩ = false := by simp [World.frozen?, HZ.out]
      have f1 : wr.frozen? ⟨w.heap.size, 1, none⟩ = false := by simp [World.frozen?, HZ.out]
      have f2 : wr.frozen? ⟨w.heap.size, 2, none⟩ = false := by simp [World.frozen?, HZ.out]
      go_wp2_with fail
      (try simp only [Exit.inBlock, Exit.then])
      refine bodyPost_ret (v := .tuple #[.agg (refA x (s.size : Int) sm), .nilIface]) ?_ rfl ?_
      · exact put_results _ _ w.heap.size x (s.size : Int) sm .nilIface rfl rfl (set3 HZ.out _ _ _)
      have hM3 : Mod (· = w.heap.size) wr (((wr.setCell ⟨w.heap.size, 0, none⟩ (.int .i64 x)).setCell ⟨w.heap.size, 1, none⟩ (.int .i64 (s.size : Int))).setCell ⟨w.heap.size, 2, none⟩ (.int .u32 sm)) :=
        (((Mod.refl (· = w.heap.size) wr).set ⟨w.heap.size, 0, none⟩ _ (.inl rfl)).set ⟨w.heap.size, 1, none⟩ _ (.inl rfl)).set ⟨w.heap.size, 2, none⟩ _ (.inl rfl)
      refine .inl ⟨HGn.out, by rw [HSm.out], v', HM.out.trans hM3 (fun i hi (e : i = w.heap.size) => by omega), HD2.out.mod hM3 (fun i hi (e : i = w.heap.size) => (HN.out i hi).1 e), HV.out⟩
    | succ k1 =>
      have hin : i < n := by omega
      have c5 : decide ((i : Int) < (n : Int)) = true := decide_eq_true (by omega)
      have c5' : decide (i < n) = true := decide_eq_true (by omega)
      have q5 : IntKind.i64.wrap ((i : Int) + 1) = (i : Int) + 1 := IntWalk.i64_in _ (by omega)
      obtain ⟨k64, hk64⟩ : ∃ k64, k64 = i * 64 := ⟨_, rfl⟩
      have e64 : IntKind.i64.wrap ((i : Int) * 64) = (k64 : Int) := by rw [IntWalk.i64_in _ (by omega)]; omega
      have p1 : (0 ≤ (k64 : Int)) = True := eq_true (by omega)
      have p2 : ((k64 : Int) ≤ (s.size : Int)) = True := eq_true (by omega)
      have e65 : IntKind.i64.wrap (x + (i : Int)) = x + (i : Int) := IntWalk.i64_in _ (by omega)
      have HPg := Lib.hid (show over pz (s.extract k64 s.size) = pgOf s i by unfold pgOf; rw [hk64])
      clear hk64
      go_wp2_with (first | (refine wl_alloc30 rfl rfl ?_))
      go_region_held3 (fun w' => True)
        (trivial)
        (first | (refine step_copy (by rfl) wr.heap.size pz (s.extract k64 s.size) (heap_alloc_last wr _) (.tmp 41) (.tmp 45) (by rfl) (by rfl) (by rfl) ?_))
      have hbn : Below wr.heap.size wr (wr.alloc (Obj.cells (pa pz) 100 (0, 0))).drew := ((Below.refl _ _).alloc (Nat.le_refl _) _).drew
      have hP9 := row_at (wr.alloc (Obj.cells (pa pz) 100 (0, 0))).drew wr.heap.size pz (over pz (s.extract k64 s.size)) (heap_alloc_last wr _)
      have hM9 := mod_row (wr.alloc (Obj.cells (pa pz) 100 (0, 0))).drew wr.heap.size (pa (over pz (s.extract k64 s.size)))
      have hb9 : Below wr.heap.size wr ((wr.alloc (Obj.cells (pa pz) 100 (0, 0))).drew.setRow wr.heap.size (pa (over pz (s.extract k64 s.size)))) := hbn.trans (hM9.below hbn.size (fun i hi (e : i = wr.heap.size) => by omega))
      rw [HPg.out] at hP9 hb9
      rw [HPg.out]
      have HM9 := Lib.hid (HM.out.on_below hb9 (Nat.le_refl _))
      have HD9 := Lib.hid (HD.out.on hb9)
      have HK9 := blk_to HK hb9
      have HZ9 := blk_to HZ hb9
      have hws : w.heap.size ≤ wr.heap.size := HM.out.size
      have HP9 := Lib.hid hP9
      have hb99 := hb9.size
      generalize (wr.alloc (Obj.cells (pa pz) 100 (0, 0))).drew.setRow wr.heap.size (pa (pgOf s i)) = w9 at HM9 HD9 HK9 HZ9 HP9 hb99 ⊢
      clear hbn hP9 hM9 hb9 HM HD HK HZ
      go_wp2_with (first | (refine wl_load30 wr.heap.size (pgOf s i) HP9.out rfl _ rfl rfl ?_))
      have hmay : mayN { d with soft := d.soft ++ pgs s x i, budget := bud d.budget i } (x + (i : Int)) = 0 := by
        show (if d.down then (11 : Int) else if x + (i : Int) < 0 ∨ d.size ≤ x + (i : Int) then 1 else 0) = 0
        rw [hdn.out, if_neg (by decide), if_neg (by omega)]
      by_cases hbz : bud d.budget i = 0
      · have hbi : d.budget = (i : Int) := by
          unfold bud at hbz
          by_cases h1 : d.budget = -1
          · rw [if_pos h1] at hbz; omega
          · rw [if_neg h1] at hbz; omega
        refine (write_spent w9 R M v' { d with soft := d.soft ++ pgs s x i, budget := bud d.budget i } (x + (i : Int)) (pgOf s i) HD9 hmay hbz).mono ?_
        rintro e w10 ⟨T, u, rfl, he, hd⟩
        have HE10 := Lib.hid he
        have HM10 := Lib.hid (HM9.out.on_below hd (Nat.le_refl _))
        have HD10 := Lib.hid (HD9.out.on hd)
        have HZ10 := blk_to HZ9 hd
        have HBi := Lib.hid hbi
        have HBz := Lib.hid hbz
        clear he hd hbi hbz hmay HM9 HD9 HZ9 HK9 HP9 HG
        go_wp2_with fail
        refine (at_wrap _ _ T u 10 w10 HE10).mono ?_
        rintro e w11 ⟨T2, u2, rfl, he, hd⟩
        have HE11 := Lib.hid he
        have HM11 := Lib.hid (HM10.out.on_below hd (Nat.le_refl _))
        have HD11 := Lib.hid (HD10.out.on hd)
        have HZ11 := blk_to HZ10 hd
        clear he hd HE10 HM10 HD10 HZ10
        obtain ⟨z0, z1, z2⟩ := ref_keep HZ11.out (Below.refl w11.heap.size w11)
        have f0 : w11.frozen? ⟨w.heap.size, 0, none⟩ = false := by simp [World.frozen?, HZ11.out]
        have f1 : w11.frozen? ⟨w.heap.size, 1, none⟩ = false := by simp [World.frozen?, HZ11.out]
        have f2 : w11.frozen? ⟨w.heap.size, 2, none⟩ = false := by simp [World.frozen?, HZ11.out]
        go_wp2_with fail
        (try simp only [Exit.inBlock, Exit.then])
        refine bodyPost_ret (v := .tuple #[.agg (refA 0 0 0), .iface T2 u2]) ?_ rfl ?_
        · exact put_results _ _ w.heap.size 0 0 0 (.iface T2 u2) rfl rfl (set3 HZ11.out _ _ _)
        have hM3 : Mod (· = w.heap.size) w11 (((w11.setCell ⟨w.heap.size, 0, none⟩ (.int .i64 0)).setCell ⟨w.heap.size, 1, none⟩ (.int .i64 0)).setCell ⟨w.heap.size, 2, none⟩ (.int .u32 0)) :=
          (((Mod.refl (· = w.heap.size) w11).set ⟨w.heap.size, 0, none⟩ _ (.inl rfl)).set ⟨w.heap.size, 1, none⟩ _ (.inl rfl)).set ⟨w.heap.size, 2, none⟩ _ (.inl rfl)
        have hdf := HD11.out.mod hM3 (fun i hi (e : i = w.heap.size) => (HN.out i hi).1 e)
        rw [HBz.out] at hdf
        have hbi := HBi.out
        refine .inr ⟨by omega, by omega, ⟨T2, u2, rfl, isErr_mod HE11.out hM3 (fun b cs hb (e : b = w.heap.size) => by rw [e, HZ11.out] at hb; simp at hb)⟩, v', HM11.out.trans hM3 (fun i hi (e : i = w.heap.size) => by omega), ?_, HV.out⟩
        have e5 : d.budget.toNat = i := by omega
        rw [e5]
        exact hdf
      have hbb : -1 ≤ bud d.budget i ∧ bud d.budget i < 9223372036854775808 := by
        have := HG.out
        unfold bud
        by_cases h1 : d.budget = -1
        · rw [if_pos h1]; omega
        · rw [if_neg h1]; omega
      refine (write_ok w9 R M v' { d with soft := d.soft ++ pgs s x i, budget := bud d.budget i } (x + (i : Int)) (pgOf s i) HD9 hdn (by omega) (by show x + (i : Int) < d.size; omega) hbz hbb.1 hbb.2 (by show (d.soft ++ pgs s x i).length ≤ 9000; rw [List.length_append, pgs_length]; omega)).mono ?_
      rintro e w10 ⟨rfl, v10, hm, hd, hv⟩
      have hw9 : w.heap.size ≤ w9.heap.size := by omega
      have HM10 := Lib.hid (HM9.out.trans hm (fun j hj hf => (HV.out j hf).elim id (fun e => by omega)))
      have HD10 := Lib.hid (show IsD w10 R M v10 { d with soft := d.soft ++ pgs s x (i + 1), budget := bud d.budget (i + 1) } from by
        have e : max (bud d.budget i - 1) (-1) = bud d.budget (i + 1) := by
          have := HG.out
          unfold bud at hbz ⊢
          by_cases h1 : d.budget = -1
          · rw [if_pos h1, if_pos h1]; rfl
          · rw [if_neg h1] at hbz
            rw [if_neg h1, if_neg h1]; omega
        have z := hd
        rw [show ({ d with soft := d.soft ++ pgs s x i, budget := bud d.budget i } : Dsk).budget = bud d.budget i from rfl, e] at z
        have e2 : d.soft ++ pgs s x (i + 1) = d.soft ++ pgs s x i ++ [(x + (i : Int), pgOf s i)] := by simp [pgs]
        rw [e2]; exact z)
      have HG10 := Lib.hid (show d.budget = -1 ∨ ((i + 1 : Nat) : Int) ≤ d.budget by
        have := HG.out
        unfold bud at hbz
        by_cases h1 : d.budget = -1
        · exact .inl h1
        · rw [if_neg h1] at hbz; omega)
      have HV10 := Lib.hid (show ∀ j, Ft R M v10 j → Ft R M v j ∨ w.heap.size ≤ j from fun j hj => (ft_new hv j hj).elim (HV.out j) (fun e => .inr (by omega)))
      have hKl := Err.lt_of_block HK9.out
      have hZl := Err.lt_of_block HZ9.out
      have HN10 := Lib.hid (show ∀ j, Ft R M v10 j → j ≠ w.heap.size ∧ j ≠ K from fun j hj => (ft_new hv j hj).elim (HN.out j) (fun e => by omega))
      have HK10 := Lib.hid (hm.blk HK9.out (fun hf => (HN.out K hf).2 rfl))
      have HZ10 := Lib.hid (hm.blk HZ9.out (fun hf => (HN.out _ hf).1 rfl))
      clear hm hd hv hbz hbb hmay HG
      go_wp2_with fail
      go_roundg k1
      case measure => exact Nat.lt_succ_self _
      case rel => exact ⟨i + 1, v10, by simp, by omega, HM10, HD10, HG10, HV10, HN10, HK10, HZ10⟩
end Go.Proofs.YtaodgnladjafoaaGreatDoor.Blb
