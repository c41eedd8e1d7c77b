/- BlobPlays, where the text may lie. -/
import Derived.Test.YtkkikhbenhkfcaaDoorBlobPlays3
set_option linter.unusedVariables false
set_option linter.unusedSimpArgs false
namespace Go.Proofs.YtkkikhbenhkfcaaDoor.RowBlobPlays
open Go.Proofs.YtkkikhbenhkfcaaDoor.AdM (sum)
open Go.RowKit Go.Proofs.YtkkikhbenhkfcaaDoor.QBlobBack Go.Proofs.YtkkikhbenhkfcaaDoorW.PrintWords Go.Proofs.YtkkikhbenhkfcaaDoorW.PrintLast Go.Proofs.YtkkikhbenhkfcaaDoorW.PrintMore Go.Proofs.YtkkikhbenhkfcaaDoor.CdM Go.Proofs.YtkkikhbenhkfcaaDoor.Md Go.Proofs.YtkkikhbenhkfcaaDoor.Dk Go.Proofs.YtkkikhbenhkfcaaDoor.Blb
open Go.Extern.Stop (cell)
open Go.Proofs.YtkkikhbenhkfcaaDoor.Err (Laid IsErr code_nil Chain at_some at_nil)
set_option maxHeartbeats 8000000 in
set_option maxRecDepth 100000 in
theorem right_ (s : ByteArray) (x : Int) (w : World) (n : Nat) (hs1 : 1 ≤ s.size) (hs2 : s.size ≤ 16384) (hnn : n = (s.size + 63) / 64) (hx0 : 0 ≤ x) (hx1 : x + (n : Int) ≤ 60) (hg : Hid (Laid w)) :
    Calls Tryd.prog 3 #[.string s, .int .i64 x] w fun e w' => e = .returned (.bool true) ∧ Below w.heap.size w w' := by
  have hw := Lib.hid (Below.refl w.heap.size w)
  have hs : s.size ≤ 20000 := by omega
  have c1 : decide ((s.size : Int) > 20000) = false := decide_eq_false (by omega)
  have c1' : decide (20000 < s.size) = false := decide_eq_false (by omega)
  have c2 : decide ((s.size : Int) < 1) = false := decide_eq_false (by omega)
  have c2' : decide (s.size < 1) = false := decide_eq_false (by omega)
  have c3 : decide ((s.size : Int) > 16384) = false := decide_eq_false (by omega)
  have c3' : decide (16384 < s.size) = false := decide_eq_false (by omega)
  have hpn := Lib.hid (pages_of s hs1 hs2)
  rw [← hnn] at hpn
  have hn1 : 1 ≤ n ∧ n ≤ 256 ∧ s.size ≤ n * 64 := by omega
  obtain ⟨sm, hsm⟩ : ∃ sm, sum s = sm := ⟨_, rfl⟩
  have HSm := Lib.hid hsm
  go_enter Tryd.func3, Tryd.ntmps3
  go_wp2_with fail
  refine (awake_c w).mono ?_
  rintro e w1 ⟨rfl, hd⟩
  have HB1 := below_to hw (Nat.le_refl _) hd
  clear hd
  go_wp2_with fail
  refine (new_c w1 60 (by omega) (by omega)).mono ?_
  rintro e w2 ⟨R, M, hR, hM, rfl, hd, hI⟩
  have hs0 : w.heap.size ≤ w1.heap.size := HB1.out.size
  have HO2 := Lib.hid (show Blb.One w w2 R M _ _ from ⟨HB1.out.trans (hd.mono hs0), hI, Fr.nil (by omega) (by omega)⟩)
  clear hd hI HB1
  go_wp2_with fail
  refine (put_ok w2 R M _ _ x s n (Lib.hid HO2.out.dsk) (Lib.hid rfl) (Lib.hid rfl) (by omega) hpn hn1.1 (by omega) (by show x + (n : Int) ≤ 60; omega) (by show (60 : Int) ≤ 2048; omega) (by show 0 + n ≤ 1000; omega)).mono ?_
  rintro e w3 ⟨rfl, v3, hmd, hI, hv⟩
  rw [hsm]
  clear hsm
  obtain ⟨dd, hdd⟩ : ∃ dd, ({ (⟨60, fun _ => pz, [], false, -1⟩ : Dsk) with soft := [] ++ pgs s x n } : Dsk) = dd := ⟨_, rfl⟩
  have HO3 := Lib.hid (show Blb.One w w3 R M v3 dd by rw [← hdd]; exact HO2.out.mods hmd hI hv)
  clear hmd hI hv HO2
  have hrs : ∀ k : Int, rd dd k = if x ≤ k ∧ k < x + (n : Int) then pgOf s (k - x).toNat else pz := fun k => by
    rw [← hdd]
    exact rd_pgs ⟨60, fun _ => pz, [], false, -1⟩ s x k n
  have HRs := Lib.hid hrs
  have HD1 := Lib.hid (show dd.down = false by rw [← hdd])
  have hsz : dd.size = 60 := by rw [← hdd]
  have hln : dd.soft.length ≤ 1000 := by rw [← hdd]; show ([] ++ pgs s x n).length ≤ 1000; rw [List.nil_append, pgs_length]; omega
  clear hdd hrs
  have hbn3 : Below w3.heap.size w3 (w3.alloc (Obj.cells (refA x (s.size : Int) sm) 30 (0, 0))) := (Below.refl _ _).alloc (Nat.le_refl _) _
  have HO4 := Lib.hid (HO3.out.on hbn3)
  have HK4 := Lib.hid (heap_alloc_last w3 (Obj.cells (refA x (s.size : Int) sm) 30 (0, 0)))
  clear hbn3 HO3
  go_wp2_with (first | (refine wl_allocR rfl rfl ?_) | (refine wl_storeRn 0 0 0 x (s.size : Int) sm rfl _ _ rfl rfl rfl ?_))
  obtain ⟨w4, hw4⟩ : ∃ w4, w3.alloc (Obj.cells (refA x (s.size : Int) sm) 30 (0, 0)) = w4 := ⟨_, rfl⟩
  obtain ⟨K, hK⟩ : ∃ K, w3.heap.size = K := ⟨_, rfl⟩
  rw [hw4] at HO4 HK4
  rw [hK] at HK4
  rw [hw4]
  simp only [hK]
  clear hw4 hK
  refine (refpages_c s hs w4).mono ?_
  rintro e w5 ⟨pv5, rfl, hd, hrow⟩
  have HO5 := Lib.hid (HO4.out.on hd)
  have HK5 := blk_to HK4 hd
  have hpl := ps_length s s.size
  obtain ⟨g, pc, rfl, _, _, _⟩ := Kd.R_form hrow (by omega)
  obtain ⟨m, hm⟩ : ∃ m, (ps s s.size).length = m := ⟨_, rfl⟩
  rw [hm] at hrow hpl
  rw [hm]
  have HROW := Lib.hid hrow
  have HMm := Lib.hid hm
  clear hd hrow hm HO4 HK4
  have hmn : m = n := by omega
  subst hmn
  have HPL := Lib.hid hpl
  clear hpl hnn
  have q60 : IntKind.i64.wrap (60 - (m : Int)) = 60 - (m : Int) := IntWalk.i64_in _ (by omega)
  have d1 : decide (x < 0) = false := decide_eq_false (by omega)
  have d2 : decide ((m : Int) > 60) = false := decide_eq_false (by omega)
  have d2' : decide (60 < m) = false := decide_eq_false (by omega)
  have d3 : decide (x > 60 - (m : Int)) = false := decide_eq_false (by omega)
  have d4 : decide (60 - (m : Int) < x) = false := decide_eq_false (by omega)
  have q61 : IntKind.i64.wrap (x + (m : Int)) = x + (m : Int) := IntWalk.i64_in _ (by omega)
  go_wp2_with fail
  go_loopg [10] 60 (fun kq v0 wr => ∃ (i : Nat), v0 = .int .i64 (i : Int) ∧ kq + i = 60 ∧ Hid (Below w5.heap.size w5 wr))
  case atStart => exact ⟨0, rfl, rfl, Lib.hid (Below.refl _ _)⟩
  case round =>
    obtain ⟨i, rfl, hk, HB⟩ := hrel
    have HOr := Lib.hid (HO5.out.on HB.out)
    have HKr := blk_to HK5 HB.out
    cases gk with
    | zero =>
      have c5 : decide ((i : Int) < 60) = false := decide_eq_false (by omega)
      have c5' : decide (i < 60) = false := decide_eq_false (by omega)
      clear hk
      go_wp2_with fail
      have HS0 := Lib.hid (show Held3 w5 K (.int .i64 x) (.int .i64 (s.size : Int)) (.int .u32 sm) wr.drew from ⟨ref_keep HKr.out (Below.refl _ _).drew, by have := Err.lt_of_block HKr.out; exact this, HB.out.trans ((Below.refl _ _).drew)⟩)
      go_region_held3 (fun w' => (w'.cell? ⟨K, 0, none⟩ = some (.int .i64 x) ∧ w'.cell? ⟨K, 1, none⟩ = some (.int .i64 (s.size : Int)) ∧ w'.cell? ⟨K, 2, none⟩ = some (.int .u32 sm)) ∧ K < w'.heap.size ∧ Below w5.heap.size w5 w')
        (first | exact HS0.out | assumption | exact Held3.on (by assumption) hb)
        (first
          | (go_at_call 11; refine (code_nil _).mono ?_; rintro e w' ⟨rfl, hb⟩)
          | (go_at_call 15; refine (RSm.refsum_c s hs _).mono ?_; rintro e w' ⟨rfl, hb⟩; rw [HSm.out])
          | (go_at_call 12; refine (pages_c (s.size : Int) (m : Int) hpn _).mono ?_; rintro e w' ⟨rfl, hb'⟩; have hb := hb'.below; clear hb'))
      rename_i hS
      have HS := Lib.hid hS
      clear hS
      go_wp2_with fail
      go_ret
      exact ⟨rfl, HO5.out.bel.trans (HS.out.2.2.mono HO5.out.bel.size)⟩
    | succ k1 =>
      have c5 : decide ((i : Int) < 60) = true := decide_eq_true (by omega)
      have c5' : decide (i < 60) = true := decide_eq_true (by omega)
      have q5 : IntKind.i64.wrap ((i : Int) + 1) = (i : Int) + 1 := IntWalk.i64_in _ (by omega)
      have hbn : Below wr.heap.size wr (wr.alloc (Obj.cells (pa pz) 38 (0, 0))) := (Below.refl _ _).alloc (Nat.le_refl _) _
      by_cases hin : x ≤ (i : Int) ∧ (i : Int) < x + (m : Int)
      · have d5 : decide ((i : Int) ≥ x) = true := decide_eq_true hin.1
        have d5' : decide (x ≤ (i : Int)) = true := decide_eq_true hin.1
        have d6 : decide ((i : Int) < x + (m : Int)) = true := decide_eq_true hin.2
        obtain ⟨q, hq⟩ : ∃ q : Nat, (i : Int) - x = (q : Int) := ⟨((i : Int) - x).toNat, by omega⟩
        have q6 : IntKind.i64.wrap ((i : Int) - x) = (q : Int) := by rw [hq]; exact IntWalk.i64_in _ (by omega)
        have p3 : (0 ≤ (q : Int)) = True := eq_true (by omega)
        have p4 : ((q : Int) < (m : Int)) = True := eq_true (by omega)
        have hps := ps_full s q (by have := HPL.out; omega)
        have hrow := row_cells (g := g) (cap := pc) (n := m) (Kd.R_below (Kd.R_below HROW.out HB.out) hbn) q (by have := HMm.out; omega) _ hps
        have hrd := HRs.out (i : Int)
        rw [if_pos hin, hq, Int.toNat_natCast] at hrd
        obtain ⟨P, hP⟩ : ∃ P, pgOf s q = P := ⟨_, rfl⟩
        rw [hP] at hrow hrd
        have HRd := Lib.hid hrd
        have HROWq := Lib.hid hrow
        clear hP hrd hrow hps hq hin
        go_wp2_with (first
          | (refine wl_allocB rfl rfl ?_)
          | (refine wl_loadPB g (q * 64) P HROWq.out rfl _ rfl rfl ?_)
          | (refine wl_storeBn pz P rfl _ _ rfl rfl rfl ?_))
        obtain ⟨B, hBB⟩ : ∃ B, wr.heap.size = B := ⟨_, rfl⟩
        obtain ⟨w6, hw6⟩ : ∃ w6, wr.alloc (Obj.cells (pa P) 38 (0, 0)) = w6 := ⟨_, rfl⟩
        have hb6 : Below wr.heap.size wr (wr.alloc (Obj.cells (pa P) 38 (0, 0))) := (Below.refl _ _).alloc (Nat.le_refl _) _
        have HW6 := Lib.hid (heap_alloc_last wr (Obj.cells (pa P) 38 (0, 0)))
        rw [hw6] at hb6 HW6
        have HOs := Lib.hid (HOr.out.on hb6)
        have HBs := below_to HB (Nat.le_refl _) hb6
        rw [hBB] at HW6
        rw [hw6]
        simp only [hBB]
        clear hb6 hw6 hBB HOr HKr HB
        refine (read_ok w6 R M v3 dd (i : Int) (Lib.hid HOs.out.dsk) (mayN0 HD1.out (by omega) (by omega)) hln).mono ?_
        rintro e w7 ⟨rfl, hd⟩
        rw [HRd.out]
        have HBt := below_to HBs (Nat.le_refl _) hd
        have HW7 := blk_to HW6 hd
        clear hd HOs HBs HW6
        have hb7 : Below w7.heap.size w7 (w7.alloc (Obj.cells (pa P) 39 (0, 0))) := (Below.refl _ _).alloc (Nat.le_refl _) _
        have HX8 := Lib.hid (heap_alloc_last w7 (Obj.cells (pa P) 39 (0, 0)))
        have HW8 := blk_to HW7 hb7
        have HB8 := below_to HBt (Nat.le_refl _) hb7
        clear HW7 HBt hb7
        go_wp2_with (first | (refine wl_alloc30 rfl rfl ?_) | (refine wl_store30n pz P rfl _ _ rfl rfl rfl ?_))
        refine (code_nil _).mono ?_
        rintro e w9 ⟨rfl, hd⟩
        have HX9 := blk_to HX8 hd
        have HW9 := blk_to HW8 hd
        have HB9 := below_to HB8 (Nat.le_refl _) hd
        clear hd HX8 HW8 HB8
        go_wp2_with (first
          | (refine wg_load30 w7.heap.size P HX9.out (by rfl) _ rfl rfl ?_)
          | (refine wg_loadPB B 0 P (range_row w9 B P HW9.out) (by rfl) _ rfl rfl ?_)
          | (refine wg_neq P P (by rfl) _ _ rfl rfl rfl ?_))
        go_roundg k1
        case measure => exact Nat.lt_succ_self _
        case rel => exact ⟨i + 1, by simp, by omega, HB9⟩
      · have hrd := HRs.out (i : Int)
        rw [if_neg hin] at hrd
        have HRd := Lib.hid hrd
        by_cases h5 : x ≤ (i : Int)
        · have d5 : decide ((i : Int) ≥ x) = true := decide_eq_true h5
          have d5' : decide (x ≤ (i : Int)) = true := decide_eq_true h5
          have d6 : decide ((i : Int) < x + (m : Int)) = false := decide_eq_false (by omega)
          clear hrd hin
          go_wp2_with (first
            | (refine wl_allocB rfl rfl ?_))
          obtain ⟨B, hBB⟩ : ∃ B, wr.heap.size = B := ⟨_, rfl⟩
          obtain ⟨w6, hw6⟩ : ∃ w6, wr.alloc (Obj.cells (pa pz) 38 (0, 0)) = w6 := ⟨_, rfl⟩
          have hb6 : Below wr.heap.size wr (wr.alloc (Obj.cells (pa pz) 38 (0, 0))) := (Below.refl _ _).alloc (Nat.le_refl _) _
          have HW6 := Lib.hid (heap_alloc_last wr (Obj.cells (pa pz) 38 (0, 0)))
          rw [hw6] at hb6 HW6
          have HOs := Lib.hid (HOr.out.on hb6)
          have HBs := below_to HB (Nat.le_refl _) hb6
          rw [hBB] at HW6
          rw [hw6]
          simp only [hBB]
          clear hb6 hw6 hBB HOr HKr HB
          refine (read_ok w6 R M v3 dd (i : Int) (Lib.hid HOs.out.dsk) (mayN0 HD1.out (by omega) (by omega)) hln).mono ?_
          rintro e w7 ⟨rfl, hd⟩
          rw [HRd.out]
          have HBt := below_to HBs (Nat.le_refl _) hd
          have HW7 := blk_to HW6 hd
          clear hd HOs HBs HW6
          have hb7 : Below w7.heap.size w7 (w7.alloc (Obj.cells (pa pz) 39 (0, 0))) := (Below.refl _ _).alloc (Nat.le_refl _) _
          have HX8 := Lib.hid (heap_alloc_last w7 (Obj.cells (pa pz) 39 (0, 0)))
          have HW8 := blk_to HW7 hb7
          have HB8 := below_to HBt (Nat.le_refl _) hb7
          clear HW7 HBt hb7
          go_wp2_with (first | (refine wl_alloc30 rfl rfl ?_) | (refine wl_store30n pz pz rfl _ _ rfl rfl rfl ?_))
          refine (code_nil _).mono ?_
          rintro e w9 ⟨rfl, hd⟩
          have HX9 := blk_to HX8 hd
          have HW9 := blk_to HW8 hd
          have HB9 := below_to HB8 (Nat.le_refl _) hd
          clear hd HX8 HW8 HB8
          go_wp2_with (first
            | (refine wg_load30 w7.heap.size pz HX9.out (by rfl) _ rfl rfl ?_)
            | (refine wg_loadPB B 0 pz (range_row w9 B pz HW9.out) (by rfl) _ rfl rfl ?_)
            | (refine wg_neq pz pz (by rfl) _ _ rfl rfl rfl ?_))
          go_roundg k1
          case measure => exact Nat.lt_succ_self _
          case rel => exact ⟨i + 1, by simp, by omega, HB9⟩
        · have d5 : decide ((i : Int) ≥ x) = false := decide_eq_false h5
          have d5' : decide (x ≤ (i : Int)) = false := decide_eq_false h5
          clear hrd hin
          go_wp2_with (first
            | (refine wl_allocB rfl rfl ?_))
          obtain ⟨B, hBB⟩ : ∃ B, wr.heap.size = B := ⟨_, rfl⟩
          obtain ⟨w6, hw6⟩ : ∃ w6, wr.alloc (Obj.cells (pa pz) 38 (0, 0)) = w6 := ⟨_, rfl⟩
          have hb6 : Below wr.heap.size wr (wr.alloc (Obj.cells (pa pz) 38 (0, 0))) := (Below.refl _ _).alloc (Nat.le_refl _) _
          have HW6 := Lib.hid (heap_alloc_last wr (Obj.cells (pa pz) 38 (0, 0)))
          rw [hw6] at hb6 HW6
          have HOs := Lib.hid (HOr.out.on hb6)
          have HBs := below_to HB (Nat.le_refl _) hb6
          rw [hBB] at HW6
          rw [hw6]
          simp only [hBB]
          clear hb6 hw6 hBB HOr HKr HB
          refine (read_ok w6 R M v3 dd (i : Int) (Lib.hid HOs.out.dsk) (mayN0 HD1.out (by omega) (by omega)) hln).mono ?_
          rintro e w7 ⟨rfl, hd⟩
          rw [HRd.out]
          have HBt := below_to HBs (Nat.le_refl _) hd
          have HW7 := blk_to HW6 hd
          clear hd HOs HBs HW6
          have hb7 : Below w7.heap.size w7 (w7.alloc (Obj.cells (pa pz) 39 (0, 0))) := (Below.refl _ _).alloc (Nat.le_refl _) _
          have HX8 := Lib.hid (heap_alloc_last w7 (Obj.cells (pa pz) 39 (0, 0)))
          have HW8 := blk_to HW7 hb7
          have HB8 := below_to HBt (Nat.le_refl _) hb7
          clear HW7 HBt hb7
          go_wp2_with (first | (refine wl_alloc30 rfl rfl ?_) | (refine wl_store30n pz pz rfl _ _ rfl rfl rfl ?_))
          refine (code_nil _).mono ?_
          rintro e w9 ⟨rfl, hd⟩
          have HX9 := blk_to HX8 hd
          have HW9 := blk_to HW8 hd
          have HB9 := below_to HB8 (Nat.le_refl _) hd
          clear hd HX8 HW8 HB8
          go_wp2_with (first
            | (refine wg_load30 w7.heap.size pz HX9.out (by rfl) _ rfl rfl ?_)
            | (refine wg_loadPB B 0 pz (range_row w9 B pz HW9.out) (by rfl) _ rfl rfl ?_)
            | (refine wg_neq pz pz (by rfl) _ _ rfl rfl rfl ?_))
          go_roundg k1
          case measure => exact Nat.lt_succ_self _
          case rel => exact ⟨i + 1, by simp, by omega, HB9⟩

theorem walk (s : ByteArray) (x : Int) (w : World) (hs : s.size ≤ 140737488351232) (hx : (Lit.int .i64 x).wf = true) (hg : Hid (Laid w)) :
    Calls Tryd.prog 3 #[.string s, .int .i64 x] w fun e w' => e = .returned (.bool true) ∧ Below w.heap.size w w' := by
  have hx2 : -9223372036854775808 ≤ x ∧ x ≤ 9223372036854775807 := by simp [Lit.wf, IntKind.min, IntKind.max, IntKind.bits, IntKind.signed] at hx; omega
  by_cases h1 : 20000 < s.size
  · exact outside s x w h1 hs
  · by_cases h2 : s.size < 1
    · exact size_1 s x w (by omega) h2 hg
    · by_cases h3 : 16384 < s.size
      · exact size_2 s x w (by omega) h3 hg
      · by_cases h4 : x < 0
        · exact arg_1 s x w _ (by omega) (by omega) rfl hx2.1 hx2.2 h4 hg
        · by_cases h5 : 60 < (s.size + 63) / 64
          · exact arg_2 s x w _ (by omega) (by omega) rfl hx2.1 hx2.2 ⟨by omega, h5⟩ hg
          · by_cases h6 : 60 - (((s.size + 63) / 64 : Nat) : Int) < x
            · exact arg_3 s x w _ (by omega) (by omega) rfl hx2.1 hx2.2 ⟨by omega, by omega, h6⟩ hg
            · exact right_ s x w _ (by omega) (by omega) rfl (by omega) (by omega) hg
end Go.Proofs.YtkkikhbenhkfcaaDoor.RowBlobPlays
