/- DiskPlays, the walk. -/
import Derived.Test.YtoanhafbofphgaaDoorDiskPlays1
set_option linter.unusedVariables false
set_option linter.unusedSimpArgs false
namespace Go.Proofs.YtoanhafbofphgaaDoor.Rfd
open Go.RowKit Go.Proofs.YtoanhafbofphgaaDoorW.PrintWords Go.Proofs.YtoanhafbofphgaaDoorW.PrintLast Go.Proofs.YtoanhafbofphgaaDoorW.PrintMore Go.Proofs.YtoanhafbofphgaaDoor.Md Go.Proofs.YtoanhafbofphgaaDoor.Dk
open Go.Extern.Stop (cell)
open Go.Proofs.YtoanhafbofphgaaDoor.Err (Laid IsErr code_nil code_c Chain at_some at_nil)

set_option maxHeartbeats 4000000 in
set_option maxRecDepth 100000 in
theorem many (A : Option Addr) (n c : Nat) (z : Int) (w0 : World) (hn : 80 < n) (hg : Hid (Laid w0)) :
    Calls Tryd.prog 6 #[.int .i64 z, .slice A n c] w0 fun e w' => e = .returned (.bool true) ∧ Below w0.heap.size w0 w' := by
  have c1 : decide ((n : Int) > 80) = true := decide_eq_true (by omega)
  have c1b : decide (n > 80) = true := decide_eq_true (by omega)
  have HB0 := Lib.hid (Below.refl w0.heap.size w0)
  go_enter Tryd.func6, Tryd.ntmps6
  go_wp2_with fail
  refine (awake_c w0 hg).mono ?_
  rintro e w1 ⟨rfl, hd⟩
  have HB1 := Dk.below_to HB0 (Nat.le_refl _) hd
  clear hd HB0
  go_wp2_with fail
  refine (awake_c _ (Lib.hid (hg.out.on HB1.out))).mono ?_
  rintro e w2 ⟨rfl, hd⟩
  have HB2 := Dk.below_to HB1 (Nat.le_refl _) hd
  clear hd HB1
  go_wp2_with fail
  go_ret
  exact ⟨rfl, HB2.out⟩

set_option maxHeartbeats 4000000 in
set_option maxRecDepth 100000 in
theorem bad (A : Option Addr) (n c : Nat) (z : Int) (w0 : World) (hn : n ≤ 80) (hz : z < 1 ∨ 2048 < z) (hg : Hid (Laid w0)) :
    Calls Tryd.prog 6 #[.int .i64 z, .slice A n c] w0 fun e w' => e = .returned (.bool true) ∧ Below w0.heap.size w0 w' := by
  rcases (show z < 1 ∨ (1 ≤ z ∧ 2048 < z) by omega) with h | ⟨h0, h⟩
  · have c1 : decide ((n : Int) > 80) = false := decide_eq_false (by omega)
    have c1b : decide (n > 80) = false := decide_eq_false (by omega)
    have cz1t_0 : decide (z < 1) = true := decide_eq_true (by omega)
    have HB0 := Lib.hid (Below.refl w0.heap.size w0)
    go_enter Tryd.func6, Tryd.ntmps6
    go_wp2_with fail
    refine (awake_c w0 hg).mono ?_
    rintro e w1 ⟨rfl, hd⟩
    have HB1 := Dk.below_to HB0 (Nat.le_refl _) hd
    clear hd HB0
    go_wp2_with fail
    refine (new_no _ z hz).mono ?_
    rintro e w2 ⟨T, x, rfl, he, hd⟩
    have HB2 := Dk.below_to HB1 (Nat.le_refl _) hd
    have HE := Lib.hid he
    clear he hd HB1
    go_wp2_with fail
    refine (code_c _ 1 _ HE (Lib.hid (hg.out.on HB2.out))).mono ?_
    rintro e w3 ⟨rfl, hd⟩
    have HB3 := Dk.below_to HB2 (Nat.le_refl _) hd
    clear hd HB2
    go_wp2_with fail
    go_ret
    exact ⟨rfl, HB3.out⟩
  · have c1 : decide ((n : Int) > 80) = false := decide_eq_false (by omega)
    have c1b : decide (n > 80) = false := decide_eq_false (by omega)
    have cz1f_0 : decide (z < 1) = false := decide_eq_false (by omega)
    have cz2048t_0 : decide (z > 2048) = true := decide_eq_true (by omega)
    have cz2048t_1 : decide (2048 < z) = true := decide_eq_true (by omega)
    have HB0 := Lib.hid (Below.refl w0.heap.size w0)
    go_enter Tryd.func6, Tryd.ntmps6
    go_wp2_with fail
    refine (awake_c w0 hg).mono ?_
    rintro e w1 ⟨rfl, hd⟩
    have HB1 := Dk.below_to HB0 (Nat.le_refl _) hd
    clear hd HB0
    go_wp2_with fail
    refine (new_no _ z hz).mono ?_
    rintro e w2 ⟨T, x, rfl, he, hd⟩
    have HB2 := Dk.below_to HB1 (Nat.le_refl _) hd
    have HE := Lib.hid he
    clear he hd HB1
    go_wp2_with fail
    refine (code_c _ 1 _ HE (Lib.hid (hg.out.on HB2.out))).mono ?_
    rintro e w3 ⟨rfl, hd⟩
    have HB3 := Dk.below_to HB2 (Nat.le_refl _) hd
    clear hd HB2
    go_wp2_with fail
    go_ret
    exact ⟨rfl, HB3.out⟩

set_option maxHeartbeats 4000000 in
set_option maxRecDepth 100000 in
theorem great (A : Option Addr) (n c : Nat) (z : Int) (w0 : World) (hn : n ≤ 80) (h1 : 50 < z) (h2 : z ≤ 2048) (hg : Hid (Laid w0)) :
    Calls Tryd.prog 6 #[.int .i64 z, .slice A n c] w0 fun e w' => e = .returned (.bool true) ∧ Below w0.heap.size w0 w' := by
  have c1 : decide ((n : Int) > 80) = false := decide_eq_false (by omega)
  have c1b : decide (n > 80) = false := decide_eq_false (by omega)
  have cz1f_0 : decide (z < 1) = false := decide_eq_false (by omega)
  have cz2048f_0 : decide (z > 2048) = false := decide_eq_false (by omega)
  have cz2048f_1 : decide (2048 < z) = false := decide_eq_false (by omega)
  have cz50t_0 : decide (z > 50) = true := decide_eq_true (by omega)
  have cz50t_1 : decide (50 < z) = true := decide_eq_true (by omega)
  have HB0 := Lib.hid (Below.refl w0.heap.size w0)
  go_enter Tryd.func6, Tryd.ntmps6
  go_wp2_with fail
  refine (awake_c w0 hg).mono ?_
  rintro e w1 ⟨rfl, hd⟩
  have HB1 := Dk.below_to HB0 (Nat.le_refl _) hd
  clear hd HB0
  go_wp2_with fail
  refine (new_c _ z (by omega) (by omega)).mono ?_
  rintro e w2 ⟨R, M, hR, hM, rfl, hd, hdk⟩
  have HB2 := Dk.below_to HB1 (Nat.le_refl _) hd
  have HD2 := Lib.hid hdk
  clear hd hdk hR hM HB1
  go_wp2_with fail
  refine (code_nil _).mono ?_
  rintro e w3 ⟨rfl, hd⟩
  have HB3 := Dk.below_to HB2 (Nat.le_refl _) hd
  have HD3 := Lib.hid (HD2.out.on hd)
  clear hd HB2 HD2
  go_wp2_with fail
  refine (size_c _ R M _ _ HD3).mono ?_
  rintro e w4 ⟨rfl, hd⟩
  have HB4 := Dk.below_to HB3 (Nat.le_refl _) hd
  have HD4 := Lib.hid (HD3.out.on hd)
  clear hd HB3 HD3
  go_wp2_with fail
  go_ret
  exact ⟨rfl, HB4.out⟩

set_option maxHeartbeats 16000000 in
set_option maxRecDepth 100000 in
theorem few (A : Option Addr) (n c : Nat) (z : Int) (w0 : World) (l : List Dk.Act) (hn2 : l.length = n) (hn : n ≤ 80) (h1 : 1 ≤ z) (h2 : z ≤ 50) (hA : Hid (Kd.C ak w0 A l.length l)) (hb : Hid (∀ x ∈ l, (Lit.int .u8 x.dO).wf = true ∧ (Lit.int .i64 x.at_).wf = true ∧ x.mask < 2 ^ 64)) (hg : Hid (Laid w0)) :
    Calls Tryd.prog 6 #[.int .i64 z, .slice A n c] w0 fun e w' => e = .returned (.bool true) ∧ Below w0.heap.size w0 w' := by
  have c1 : decide ((n : Int) > 80) = false := decide_eq_false (by omega)
  have c1b : decide (n > 80) = false := decide_eq_false (by omega)
  have cz1f_0 : decide (z < 1) = false := decide_eq_false (by omega)
  have cz2048f_0 : decide (z > 2048) = false := decide_eq_false (by omega)
  have cz2048f_1 : decide (2048 < z) = false := decide_eq_false (by omega)
  have cz50f_0 : decide (z > 50) = false := decide_eq_false (by omega)
  have cz50f_1 : decide (50 < z) = false := decide_eq_false (by omega)
  have HNn := Lib.hid hn2
  clear hn2
  have HB0 := Lib.hid (Below.refl w0.heap.size w0)
  go_enter Tryd.func6, Tryd.ntmps6
  go_wp2_with fail
  refine (awake_c w0 hg).mono ?_
  rintro e w1 ⟨rfl, hd⟩
  have HB1 := Dk.below_to HB0 (Nat.le_refl _) hd
  clear hd HB0
  go_wp2_with fail
  have hB1s := HB1.out.size
  refine (new_c _ z (by omega) (by omega)).mono ?_
  rintro e w2 ⟨R, M, hR, hM, rfl, hd, hdk⟩
  have HB2 := Dk.below_to HB1 (Nat.le_refl _) hd
  have HD2 := Lib.hid hdk
  obtain ⟨r0, hr0⟩ : ∃ r0 : RV, r0 = ⟨z, ⟨none, 0, 0⟩, ⟨none, 0, 0⟩, ⟨none, 0, 0⟩, false, -1⟩ := ⟨_, rfl⟩
  have HR0 := Lib.hid (show RV.a ⟨z, ⟨none, 0, 0⟩, ⟨none, 0, 0⟩, ⟨none, 0, 0⟩, false, -1⟩ = r0.a by rw [hr0])
  clear hd hdk HB1
  go_upto_region 9 with (first
    | (refine wl_allocD rfl rfl ?_)
    | (refine wl_storeDn RV.zero.a rfl ⟨z, ⟨none, 0, 0⟩, ⟨none, 0, 0⟩, ⟨none, 0, 0⟩, false, -1⟩ rfl _ _ rfl rfl rfl ?_; rw [HR0.out]))
  have hd : Below w2.heap.size w2 (w2.alloc (Obj.cells r0.a 49 (0, 0))) := (Below.refl _ _).alloc (Nat.le_refl _) _
  have HS3 := Lib.hid (show Stt w0 (w2.alloc (Obj.cells r0.a 49 (0, 0))) R M w2.heap.size (.slice none 0 0) r0 ⟨z, [], [], false, -1⟩ z 0 from
    { pl := { bel := HB2.out.trans (hd.mono HB2.out.size), dsk := HD2.out.on hd, ref := { size := by rw [hr0], down := by rw [hr0], budget := by rw [hr0], x := by rw [hr0]; exact Kd.R_nil _ _ _ _ _, y := by rw [hr0]; exact Kd.R_nil _ _ _ _ _, z := by rw [hr0]; exact Kd.R_nil _ _ _ _ _ }, xx := heap_alloc_last _ _, fr := Fr.nil (Nat.le_trans hB1s hR) (Nat.le_trans hB1s hM), gx := HB2.out.size }, sz := rfl, lo := (by show (-1 : Int) ≤ -1; decide), hi := (by show (-1 : Int) < 9223372036854775808; decide), ln := Nat.le_refl _ })
  obtain ⟨X, hX⟩ : ∃ X, w2.heap.size = X := ⟨_, rfl⟩
  rw [hX] at HS3
  simp only [hX]
  generalize (w2.alloc (Obj.cells r0.a 49 (0, 0))) = w3 at *
  clear hd HB2 HD2 hR hM hX hr0 HR0 hB1s
  go_wp2_with fail
  go_loopg [8, 9] n (fun kq v0 v1 wr => ∃ (i : Nat) (v : Value) (r : RV) (d : RD), v0 = .int .i64 (d.S.length : Int) ∧ v1 = .int .i64 (i : Int) ∧ kq + i = n ∧ Hid (Stt w0 wr R M X v r d z i))
  case atStart => exact ⟨0, _, _, _, rfl, rfl, by omega, HS3⟩
  case round =>
    clear HS3 r0
    obtain ⟨i, v, r, d, rfl, rfl, hk, HS⟩ := hrel
    cases gk with
    | zero =>
      have c5 : decide ((i : Int) < (n : Int)) = false := decide_eq_false (by omega)
      have c5' : decide (i < n) = false := decide_eq_false (by omega)
      generalize wr = w1 at *
      have HS1 := HS
      clear HS hk
      go_wp2_with fail
      refine (code_nil _).mono ?_
      rintro e w2 ⟨rfl, hd⟩
      have HS2 := Lib.hid (HS1.out.on hd)
      clear hd HS1
      go_wp2_with fail
      go_ret
      exact ⟨rfl, HS2.out.pl.bel⟩
    | succ k1 =>
      have hil : i < l.length := by have := HNn.out; omega
      have c5 : decide ((i : Int) < (n : Int)) = true := decide_eq_true (by omega)
      have c5' : decide (i < n) = true := decide_eq_true (by omega)
      have q5 : IntKind.i64.wrap ((i : Int) + 1) = (i : Int) + 1 := IntWalk.i64_in _ (by omega)
      have p1 : (0 ≤ (i : Int)) = True := eq_true (by omega)
      have p2 : ((i : Int) < (n : Int)) = True := eq_true (by omega)
      generalize wr = w1 at *
      have HS1 := HS
      clear HS
      obtain ⟨ad, rfl, hat⟩ := acts_at (Kd.C_below hA.out HS1.out.pl.bel) i hil
      obtain ⟨x, hx⟩ : ∃ x, l[i] = x := ⟨_, rfl⟩
      rw [hx] at hat
      have hwf := hb.out x (by rw [← hx]; exact List.getElem_mem hil)
      clear hx
      have HAt := Lib.hid hat
      clear hat
      go_upto_region 14 with (first
        | (refine wl_loadA (ad.add (i * 67)) x HAt.out rfl _ rfl rfl ?_)
        | (refine wl_allocA rfl rfl ?_)
        | (refine wl_storeAn azero x rfl _ _ rfl rfl rfl ?_))
      have hd : Below w1.heap.size w1 (w1.alloc (Obj.cells (aa x) 34 (0, 0))) := (Below.refl _ _).alloc (Nat.le_refl _) _
      have HS2 := Lib.hid (HS1.out.on hd)
      have HK2 := Lib.hid (heap_alloc_last w1 (Obj.cells (aa x) 34 (0, 0)))
      obtain ⟨K, hK⟩ : ∃ K, w1.heap.size = K := ⟨_, rfl⟩
      rw [hK] at HK2
      simp only [hK]
      generalize (w1.alloc (Obj.cells (aa x) 34 (0, 0))) = w2 at *
      clear hd HS1 HAt hK
      obtain ⟨k0, k1c, k2c, k3c⟩ := act_cells HK2
      go_upto_block 2 with fail
      obtain ⟨m, hm⟩ : ∃ m, x.dO.tmod 8 = m := ⟨_, rfl⟩
      rw [hm]
      go_cut [8] (fun v8 wc => ∃ (v' : Value) (r' : RV) (d' : RD), v8 = .int .i64 (d'.S.length : Int) ∧ Hid (Stt w0 wc R M X v' r' d' z (i + 1)))
      case first =>
        have hln := HS2.out.ln
        have hsf := HS2.out.softs
        have hlo := HS2.out.lo
        have hhi := HS2.out.hi
        clear hm
        rcases (show m = 4 ∨ m = 5 ∨ m = 6 ∨ m = 7 ∨ (m ≠ 4 ∧ m ≠ 5 ∧ m ≠ 6 ∧ m ≠ 7) by omega) with rfl | rfl | rfl | rfl | ⟨m4, m5, m6, m7⟩
        · cases hdn : d.down with
          | true =>
            have xd := HS2.out.xdown
            rw [hdn] at xd
            have e11 : mayN d.dsk 0 = 11 := by rw [may_split, if_pos hdn]
            clear hdn k0 k1c k2c k3c
            go_wp2_with fail
            refine (flush_may w2 R M v d.dsk HS2.out.dsk (by rw [e11]; decide)).mono ?_
            rintro e w3 ⟨T, u, rfl, he, hd⟩
            rw [e11] at he
            have HE3 := Lib.hid he
            have HS3 := Lib.hid (HS2.out.on hd)
            clear he hd e11 xd
            go_wp2_with fail
            refine (code_c _ 11 w3 HE3 (HS3.out.laid hg)).mono ?_
            rintro e w4 ⟨rfl, hd⟩
            have HS4 := Lib.hid (HS3.out.on hd)
            clear hd HE3 HS3 HS2 HK2
            go_wp2_with fail
            go_meet
            exact ⟨v, r, d, rfl, Lib.hid (HS4.out.le (Nat.le_succ _))⟩
          | false =>
            have xd := HS2.out.xdown
            rw [hdn] at xd
            clear k0 k1c k2c k3c
            go_wp2_with (first | (refine wl_loadD X r HS2.out.pl.xx rfl _ rfl rfl ?_))
            refine (rsettle_c r d 18446744073709551615 w2 HS2.out.ref (by decide) (by omega)).mono ?_
            rintro e w3 ⟨r3, rfl, hr, hd⟩
            have HS3 := Lib.hid (HS2.out.on hd)
            have HR3 := Lib.hid hr
            clear hr hd xd
            go_wp2_with (first | (refine wl_storeD X r.a rfl r3 HS3.out.pl.xx rfl _ _ rfl rfl rfl ?_))
            have HP4 := Lib.hid (HS3.out.pl.stored HR3.out)
            generalize (w3.setRow X r3.a) = w4 at *
            clear HS3 HR3
            refine (flush_ok w4 R M v d.dsk (Lib.hid HP4.out.dsk) (by have := HS2.out.sz; rw [may_split, if_neg (by rw [hdn]; decide), if_neg (by omega)]) (by show d.S.length ≤ 1000; omega)).mono ?_
            rintro e w5 ⟨rfl, hm5, hd5⟩
            have HS5 := Lib.hid (HS2.out.settled (mask := 18446744073709551615) (b := d.down) (HP4.out.mods hm5 hd5 (fun i h => .inl (ft_nil i h))))
            clear hm5 hd5 HP4
            go_wp2_with fail
            refine (code_nil w5).mono ?_
            rintro e w6 ⟨rfl, hd⟩
            have HS6 := Lib.hid (HS5.out.on hd)
            clear hd HS5 HS2 HK2
            go_wp2_with fail
            go_meet
            exact ⟨_, _, _, rfl, Lib.hid (HS6.out.le (Nat.le_succ _))⟩
        · go_wp2_with fail
          refine (crash_c w2 R M v d.dsk x.mask HS2.out.dsk hwf.2.2 (by show d.S.length ≤ 1000; omega)).mono ?_
          rintro e w3 ⟨rfl, hm3, hd3⟩
          have HP3 := Lib.hid (HS2.out.pl.mods hm3 hd3 (fun i h => .inl (ft_nil i h)))
          have HK3 := Lib.hid (HS2.out.pl.keep hm3 HK2.out (by decide) (by decide))
          clear hm3 hd3 k0 k1c k2c k3c
          obtain ⟨_, _, k2c, _⟩ := act_cells HK3
          go_upto_region 31 with fail
          go_wp2_with (first | (refine wl_loadD X r HP3.out.xx rfl _ rfl rfl ?_))
          refine (rsettle_c r d x.mask w3 (Lib.hid HP3.out.ref) hwf.2.2 (by omega)).mono ?_
          rintro e w4 ⟨r4, rfl, hr, hd⟩
          have HP4 := Lib.hid (HP3.out.on hd)
          have HR4 := Lib.hid hr
          clear hr hd k2c
          go_upto_region 32 with (first | (refine wl_storeD X r.a rfl r4 HP4.out.xx rfl _ _ rfl rfl rfl ?_))
          have HP5 := Lib.hid (HP4.out.stored HR4.out)
          generalize (w4.setRow X r4.a) = w5 at *
          clear HP4 HR4 HK3 HK2
          have xd := (rv_cells (Lib.hid HP5.out.xx)).2.2.2.2.1
          have xf := rv_fz (Lib.hid HP5.out.xx) 4
          have HS6 := Lib.hid (HS2.out.settled (mask := x.mask) (b := true) (HP5.out.putDown true))
          clear HP5 HS2
          go_wp2_with fail
          go_meet
          exact ⟨_, _, _, rfl, Lib.hid (HS6.out.le (Nat.le_succ _))⟩
        · clear k0 k1c k2c k3c
          go_wp2_with fail
          refine (up_c w2 R M v d.dsk HS2.out.dsk).mono ?_
          rintro e w3 ⟨rfl, hm3, hd3⟩
          have HP3 := Lib.hid (HS2.out.pl.mods (hm3.mono (fun _ _ h => .inl h)) hd3 (fun i h => .inl h))
          clear hm3 hd3 HK2
          have xd := (rv_cells (Lib.hid HP3.out.xx)).2.2.2.2.1
          have xf := rv_fz (Lib.hid HP3.out.xx) 4
          have HS4 := Lib.hid (show Stt w0 (w3.setCell ⟨X, 4, none⟩ (.bool false)) R M X v { r with down := false } { d with down := false } z (i + 1) from ⟨HP3.out.putDown false, HS2.out.sz, HS2.out.lo, HS2.out.hi, Nat.le_trans HS2.out.ln (Nat.le_succ _)⟩)
          clear HP3 HS2
          go_wp2_with fail
          go_meet
          exact ⟨v, _, { d with down := false }, rfl, HS4⟩
        · have hat : x.at_ < 9223372036854775808 := by
            have := hwf.2.1
            simp [Lit.wf, IntKind.min, IntKind.max, IntKind.bits, IntKind.signed] at this
            omega
          go_wp2_with fail
          refine (budget_c w2 R M v d.dsk x.at_ HS2.out.dsk).mono ?_
          rintro e w3 ⟨rfl, hm3, hd3⟩
          have HM3 := hm3.mono (T := Ft R M v) (fun _ _ h => .inl h)
          have HP3 := Lib.hid (HS2.out.pl.mods HM3 hd3 (fun i h => .inl h))
          have HK3 := Lib.hid (HS2.out.pl.keep HM3 HK2.out (by decide) (by decide))
          clear hm3 hd3 HM3 HK2 k0 k1c k2c k3c
          obtain ⟨_, k1c, _, _⟩ := act_cells HK3
          have xd := (rv_cells (Lib.hid HP3.out.xx)).2.2.2.2.2
          have xf := rv_fz (Lib.hid HP3.out.xx) 5
          have HS4 := Lib.hid (show Stt w0 (w3.setCell ⟨X, 5, none⟩ (.int .i64 (max x.at_ (-1)))) R M X v { r with budget := max x.at_ (-1) } { d with budget := max x.at_ (-1) } z (i + 1) from ⟨HP3.out.putBudget _, HS2.out.sz, by show -1 ≤ max x.at_ (-1); omega, by show max x.at_ (-1) < _; omega, Nat.le_trans HS2.out.ln (Nat.le_succ _)⟩)
          clear HP3 HS2
          clear hlo hhi
          go_wp2_with fail
          · have e : max x.at_ (-1) = -1 := by omega
            rw [e] at HS4
            go_meet
            exact ⟨v, _, { d with budget := -1 }, rfl, HS4⟩
          · have e : max x.at_ (-1) = x.at_ := by omega
            rw [e] at HS4
            go_meet
            exact ⟨v, _, { d with budget := x.at_ }, rfl, HS4⟩
        · have n4 : (m == 4) = false := beq_eq_false_iff_ne.2 m4
          have n4b : decide (m = 4) = false := decide_eq_false m4
          have n5 : (m == 5) = false := beq_eq_false_iff_ne.2 m5
          have n5b : decide (m = 5) = false := decide_eq_false m5
          have n6 : (m == 6) = false := beq_eq_false_iff_ne.2 m6
          have n6b : decide (m = 6) = false := decide_eq_false m6
          have n7 : (m == 7) = false := beq_eq_false_iff_ne.2 m7
          have n7b : decide (m = 7) = false := decide_eq_false m7
          go_wp2_with (first
            | (refine wl_loadD X r HS2.out.pl.xx rfl _ rfl rfl ?_)
            | (refine wl_loadP K 2 x.p k3c rfl _ rfl rfl ?_))
          refine (rwrite_c r d x.at_ x.p w2 HS2.out.ref hlo hhi (by omega)).mono ?_
          rintro e w3 ⟨r3, rfl, hr, hd⟩
          obtain ⟨c, hc⟩ : ∃ c, wcd d x.at_ = c := ⟨_, rfl⟩
          have HC := Lib.hid hc
          rw [hc]
          clear hc
          have HS3 := Lib.hid (HS2.out.on hd)
          have HR3 := Lib.hid hr
          have HK3 := blk_to HK2 hd
          clear hr hd HS2 HK2 k0 k1c k2c k3c
          go_upto_region 16 with (first
            | (refine wl_allocD rfl rfl ?_)
            | (refine wl_storeDn RV.zero.a rfl r3 rfl _ _ rfl rfl rfl ?_))
          have hd : Below w3.heap.size w3 (w3.alloc (Obj.cells r3.a 49 (0, 0))) := (Below.refl _ _).alloc (Nat.le_refl _) _
          have HS4 := Lib.hid (HS3.out.on hd)
          have HR4 := Lib.hid (HR3.out.on hd)
          have HK4 := blk_to HK3 hd
          have HY4 := Lib.hid (heap_alloc_last w3 (Obj.cells r3.a 49 (0, 0)))
          obtain ⟨Y, hY⟩ : ∃ Y, w3.heap.size = Y := ⟨_, rfl⟩
          rw [hY] at HY4
          simp only [hY]
          generalize (w3.alloc (Obj.cells r3.a 49 (0, 0))) = w4 at *
          clear hd HS3 HR3 HK3 hY
          go_upto_region 17 with (first
            | (refine wl_loadD Y r3 HY4.out rfl _ rfl rfl ?_)
            | (refine wl_storeD X r.a rfl r3 HS4.out.pl.xx rfl _ _ rfl rfl rfl ?_))
          have HP5 := Lib.hid (HS4.out.pl.stored HR4.out)
          have HK5 := Lib.hid (HS4.out.pl.apart (mod_row w4 X r3.a) HK4.out (by decide))
          generalize (w4.setRow X r3.a) = w5 at *
          clear HR4 HK4 HY4
          obtain ⟨_, k1c, _, k3c⟩ := act_cells HK5
          by_cases hc0 : c = 0
          · subst hc0
            have q6 : IntKind.i64.wrap ((d.S.length : Int) + 1) = (d.S.length : Int) + 1 := IntWalk.i64_in _ (by omega)
            go_wp2_with (first | (refine wl_loadP K 2 x.p k3c rfl _ rfl rfl ?_))
            refine (dwrite_c d x.at_ x.p w5 R M v (Lib.hid HP5.out.dsk) hlo hhi (by omega)).mono ?_
            rintro e w6 ⟨E, v6, rfl, he, hm6, hd6, hv6⟩
            rw [HC.out] at he
            have HE6 := Lib.hid he
            have HS6 := Lib.hid (HS4.out.wrt (HP5.out.mods hm6 hd6 (ft_write hv6)))
            clear he hm6 hd6 hv6 HP5 HS4 HK5 k1c k3c
            go_wp2_with fail
            refine (code_c _ _ w6 HE6 (HS6.out.laid hg)).mono ?_
            rintro e w7 ⟨rfl, hd⟩
            have HS7 := Lib.hid (HS6.out.on hd)
            clear hd HE6 HS6
            have esl : (wrote d x.at_ x.p).S.length = d.S.length + 1 := by rw [wrote_soft, HC.out]; rfl
            go_wp2_with fail
            go_meet
            exact ⟨_, _, _, by rw [esl]; simp, HS7⟩
          · have n0 : (c == 0) = false := beq_eq_false_iff_ne.2 hc0
            have n0b : decide (c = 0) = false := decide_eq_false hc0
            have ecc : (c != c) = false := by simp
            go_wp2_with (first | (refine wl_loadP K 2 x.p k3c rfl _ rfl rfl ?_))
            refine (dwrite_c d x.at_ x.p w5 R M v (Lib.hid HP5.out.dsk) hlo hhi (by omega)).mono ?_
            rintro e w6 ⟨E, v6, rfl, he, hm6, hd6, hv6⟩
            rw [HC.out] at he
            have HE6 := Lib.hid he
            have HS6 := Lib.hid (HS4.out.wrt (HP5.out.mods hm6 hd6 (ft_write hv6)))
            clear he hm6 hd6 hv6 HP5 HS4 HK5 k1c k3c
            go_wp2_with fail
            refine (code_c _ _ w6 HE6 (HS6.out.laid hg)).mono ?_
            rintro e w7 ⟨rfl, hd⟩
            have HS7 := Lib.hid (HS6.out.on hd)
            clear hd HE6 HS6
            have esl : (wrote d x.at_ x.p).S.length = d.S.length := by rw [wrote_soft, HC.out, if_neg hc0]; rfl
            go_wp2_with fail
            go_meet
            exact ⟨_, _, _, by rw [esl], HS7⟩
      case rest =>
        clear HS2 HK2 k0 k1c k2c k3c hm v r d hwf
        obtain ⟨v, r, d, rfl, HS⟩ := hcut
        generalize wc = w1 at *
        go_wp2_with fail
        go_loopg [14] (z.toNat + 2) (fun kq v0 wr => ∃ (k : Int), v0 = .int .i64 k ∧ (kq : Int) + k = z + 1 ∧ -1 ≤ k ∧ Hid (Stt w0 wr R M X v r d z (i + 1)))
        case atStart => exact ⟨-1, rfl, by omega, by omega, HS⟩
        case round =>
          clear HS
          obtain ⟨k, rfl, hkq, hk1, HS⟩ := hrel
          generalize wr = w1 at *
          have hln := HS.out.ln
          have hsf := HS.out.softs
          cases gk with
          | zero =>
            have g5 : decide (k ≤ z) = false := decide_eq_false (by omega)
            clear hkq
            go_wp2_with fail
            refine (soft_c w1 R M v d.dsk HS.out.dsk).mono ?_
            rintro e w2 ⟨rfl, hd⟩
            have HS2 := Lib.hid (HS.out.on hd)
            have e1 : d.dsk.soft.length = d.S.length := rfl
            have e2 : ((d.S.length : Int) != (d.S.length : Int)) = false := by simp
            have e3 : (z != z) = false := by simp
            rw [e1]
            clear hd HS
            go_wp2_with fail
            refine (size_c w2 R M v d.dsk HS2.out.dsk).mono ?_
            rintro e w3 ⟨rfl, hd⟩
            have HS3 := Lib.hid (HS2.out.on hd)
            have e4 : d.dsk.size = z := HS2.out.sz
            rw [e4]
            clear hd HS2 e4
            go_wp2_with fail
            go_roundg k1
            case measure => exact Nat.lt_succ_self _
            case rel => exact ⟨i + 1, v, r, d, rfl, by simp, by omega, HS3⟩
          | succ k2 =>
            have g5 : decide (k ≤ z) = true := decide_eq_true (by omega)
            have q7 : IntKind.i64.wrap (k + 1) = k + 1 := IntWalk.i64_in _ (by omega)
            have HKQ := Lib.hid hkq
            clear hkq
            go_wp2_with fail
            refine (dread_c d k w1 R M v HS.out.dsk (by omega)).mono ?_
            rintro e w2 ⟨E, rfl, he, hd⟩
            have HS2 := Lib.hid (HS.out.on hd)
            have HE2 := Lib.hid he
            clear he hd HS
            obtain ⟨P, hP⟩ : ∃ P, (if mayN d.dsk k = 0 then rdl d.L k else pz) = P := ⟨_, rfl⟩
            rw [hP]
            have HPe := Lib.hid hP
            clear hP
            go_upto_region 44 with (first | (refine wl_alloc30 rfl rfl ?_) | (refine wl_store30n pz P rfl _ _ rfl rfl rfl ?_))
            have hd : Below w2.heap.size w2 (w2.alloc (Obj.cells (pa P) 30 (0, 0))) := (Below.refl _ _).alloc (Nat.le_refl _) _
            have HS3 := Lib.hid (HS2.out.on hd)
            have HE3 := Lib.hid (HE2.out.on hd)
            have HK3 := Lib.hid (heap_alloc_last w2 (Obj.cells (pa P) 30 (0, 0)))
            obtain ⟨K, hK⟩ : ∃ K, w2.heap.size = K := ⟨_, rfl⟩
            rw [hK] at HK3
            simp only [hK]
            generalize (w2.alloc (Obj.cells (pa P) 30 (0, 0))) = w3 at *
            clear hd hK HS2 HE2
            have xd := HS3.out.xdown
            obtain ⟨m, hm⟩ : ∃ m, mayN d.dsk k = m := ⟨_, rfl⟩
            have HM := Lib.hid hm
            rw [hm] at HE3
            go_upto_if 142 with fail
            go_cut [17] (fun v17 wc => v17 = .int .i64 m ∧ w3 = wc)
            case first =>
              rw [mayN_range d k z HS3.out.sz] at hm
              cases hdn : d.down with
              | true =>
                rw [hdn, if_pos rfl] at hm
                have HZ := Lib.hid hm
                clear hm
                clear xd
                go_wp2_with fail
                go_meet
                exact ⟨by rw [HZ.out], rfl⟩
              | false =>
                rw [hdn, if_neg (by decide)] at hm
                clear xd
                by_cases h0 : k < 0
                · have g6 : decide (k < 0) = true := decide_eq_true h0
                  rw [if_pos (.inl h0)] at hm
                  have HZ := Lib.hid hm
                  clear hm
                  clear h0
                  go_wp2_with fail
                  go_meet
                  exact ⟨by rw [HZ.out], rfl⟩
                · have g6 : decide (k < 0) = false := decide_eq_false h0
                  by_cases h1 : z ≤ k
                  · have g7 : decide (k ≥ z) = true := decide_eq_true h1
                    have g7b : decide (z ≤ k) = true := decide_eq_true h1
                    rw [if_pos (.inr h1)] at hm
                    have HZ := Lib.hid hm
                    clear hm
                    clear h0 h1
                    go_wp2_with fail
                    go_meet
                    exact ⟨by rw [HZ.out], rfl⟩
                  · have g7 : decide (k ≥ z) = false := decide_eq_false h1
                    have g7b : decide (z ≤ k) = false := decide_eq_false h1
                    rw [if_neg (by omega)] at hm
                    have HZ := Lib.hid hm
                    clear hm
                    clear h0 h1
                    go_wp2_with fail
                    go_meet
                    exact ⟨by rw [HZ.out], rfl⟩
            case rest =>
              obtain ⟨rfl, rfl⟩ := hcut
              clear hm xd
              go_wp2_with fail
              have HL3 := HS3.out.laid hg
              have HD := Lib.hid (show Below w3.heap.size w3 w3.drew from (Below.refl _ _).drew)
              have hS := fun {w' : World} (k : Below w3.heap.size w3 w') => HS3.out.on k
              have hE := fun {w' : World} (k : Below w3.heap.size w3 w') => HE3.out.on k
              have hL := fun {w' : World} (k : Below w3.heap.size w3 w') => HL3.out.on k
              have hP := fun {w' : World} (k : Below w3.heap.size w3 w') => (blk_to HK3 k).out
              by_cases hm0 : m = 0
              · subst hm0
                have hPe := HPe.out
                rw [if_pos HM.out] at hPe
                have HPr := Lib.hid hPe.symm
                clear hPe
                refine start_ (n := 24) (S := fun w' => w'.heap[K]? = some (Obj.cells (pa P) 30 (0, 0)) ∧ w'.heap[X]? = some (Obj.cells r.a 49 (0, 0))) (ds := []) #[false, false, false, false, false, false, false, false, false, false, false, false, false, false, false, false, false, false, false, false, false, false, false, false] (by kernel_rfl) rfl rfl ⟨hP HD.out, (hS HD.out).pl.xx⟩ (fun hHeld => ?_)
                refine pure_ (i := 0) (N := some 150) (v := ?_) (a' := ?_) #[true, false, false, false, false, false, false, false, false, false, false, false, false, false, false, false, false, false, false, false, false, false, false, false] rfl rfl (by kernel_rfl) (fun _ _ _ h => h) (Or.inl ⟨by rfl, ?_⟩) ?_ ?_
                rotate_left
                · intro w'
                  go_simp
                  with_reducible rfl
                rotate_left
                · simp only [Act.put, List.setIfInBounds_toArray, List.set_cons_zero, List.set_cons_succ, i64_w, i32_w]
                  rfl
                refine pure_ (i := 2) (N := some 152) (v := ?_) (a' := ?_) #[true, false, true, false, false, false, false, false, false, false, false, false, false, false, false, false, false, false, false, false, false, false, false, false] rfl rfl (by kernel_rfl) (fun _ _ _ h => h) (Or.inl ⟨by rfl, ?_⟩) ?_ ?_
                rotate_left
                · intro w'
                  go_simp
                  with_reducible rfl
                rotate_left
                · simp only [Act.put, List.setIfInBounds_toArray, List.set_cons_zero, List.set_cons_succ, i64_w, i32_w]
                  rfl
                refine one_ (i := 1) (N := some 151) #[true, true, true, false, false, false, false, false, false, false, false, false, false, false, false, false, false, false, false, false, false, false, false, false] rfl rfl (by kernel_rfl) (by decide) (fun K hK => ?_)
                refine goes_ Tryd.func11 (by kernel_rfl) rfl #[E] (by rfl) rfl rfl (by simp only [List.map_toArray, List.map_cons, List.map_nil]; rfl) ?_
                with_reducible refine (code_c E 0 _ (Lib.hid (hE HD.out)) (Lib.hid (hL HD.out))).mono ?_
                rintro e v20 ⟨rfl, hd⟩
                refine ⟨_, rfl, ?_⟩
                have Hv20 := Lib.hid (HD.out.trans (hd.mono HD.out.size))
                clear hd
                refine hK.out _ _ ⟨hP Hv20.out, (hS Hv20.out).pl.xx⟩ (fun hHeld => ?_)
                clear hK K
                refine norm_ (a' := ?_) ?_ ?_
                rotate_left
                · show Act.put _ (some 151) _ = _
                  simp only [Act.put, List.setIfInBounds_toArray, List.set_cons_zero, List.set_cons_succ, i64_w, i32_w]
                  rfl
                refine pure_ (i := 3) (N := some 153) (v := ?_) (a' := ?_) #[true, true, true, true, false, false, false, false, false, false, false, false, false, false, false, false, false, false, false, false, false, false, false, false] rfl rfl (by kernel_rfl) (fun _ _ _ h => h) (Or.inl ⟨by rfl, ?_⟩) ?_ ?_
                rotate_left
                · intro w'
                  go_simp
                  with_reducible rfl
                rotate_left
                · simp only [Act.put, List.setIfInBounds_toArray, List.set_cons_zero, List.set_cons_succ, i64_w, i32_w]
                  rfl
                refine pure_ (i := 4) (N := some 154) (v := ?_) (a' := ?_) #[true, true, true, true, true, false, false, false, false, false, false, false, false, false, false, false, false, false, false, false, false, false, false, false] rfl rfl (by kernel_rfl) (fun _ _ _ h => h) (Or.inl ⟨by rfl, ?_⟩) ?_ ?_
                rotate_left
                · intro w'
                  go_simp
                  with_reducible rfl
                rotate_left
                · simp only [Act.put, List.setIfInBounds_toArray, List.set_cons_zero, List.set_cons_succ, i64_w, i32_w]
                  rfl
                refine pure_ (i := 5) (N := some 155) (v := ?_) (a' := ?_) #[true, true, true, true, true, true, false, false, false, false, false, false, false, false, false, false, false, false, false, false, false, false, false, false] rfl rfl (by kernel_rfl) (fun _ _ _ h => h) (Or.inl ⟨by rfl, ?_⟩) ?_ ?_
                rotate_left
                · intro w'
                  go_simp
                  with_reducible rfl
                rotate_left
                · simp only [Act.put, List.setIfInBounds_toArray, List.set_cons_zero, List.set_cons_succ, i64_w, i32_w]
                  rfl
                refine pure_ (i := 6) (N := some 156) (v := ?_) (a' := ?_) #[true, true, true, true, true, true, true, false, false, false, false, false, false, false, false, false, false, false, false, false, false, false, false, false] rfl rfl (by kernel_rfl) (fun _ _ _ h => h) (Or.inl ⟨by rfl, ?_⟩) ?_ ?_
                rotate_left
                · intro w'
                  go_simp
                  with_reducible rfl
                rotate_left
                · simp only [Act.put, List.setIfInBounds_toArray, List.set_cons_zero, List.set_cons_succ, i64_w, i32_w]
                  rfl
                refine pure_ (i := 7) (N := some 157) (v := ?_) (a' := ?_) #[true, true, true, true, true, true, true, true, false, false, false, false, false, false, false, false, false, false, false, false, false, false, false, false] rfl rfl (by kernel_rfl) (fun _ _ _ h => h) (Or.inl ⟨by rfl, ?_⟩) ?_ ?_
                rotate_left
                · intro w'
                  go_simp
                  with_reducible rfl
                rotate_left
                · simp only [Act.put, List.setIfInBounds_toArray, List.set_cons_zero, List.set_cons_succ, i64_w, i32_w]
                  rfl
                refine pure_ (i := 10) (N := some 160) (v := ?_) (a' := ?_) #[true, true, true, true, true, true, true, true, false, false, true, false, false, false, false, false, false, false, false, false, false, false, false, false] rfl rfl (by kernel_rfl) (fun _ _ _ h => h) (Or.inl ⟨by rfl, ?_⟩) ?_ ?_
                rotate_left
                · intro w'
                  go_simp
                  with_reducible rfl
                rotate_left
                · simp only [Act.put, List.setIfInBounds_toArray, List.set_cons_zero, List.set_cons_succ, i64_w, i32_w]
                  rfl
                refine take_ (i := 8) (N := some 158) (v := ?_) (a' := ?_) #[true, true, true, true, true, true, true, true, true, false, true, false, false, false, false, false, false, false, false, false, false, false, false, false] rfl rfl (by kernel_rfl) (fun _ _ _ h => h) (Or.inl ⟨by rfl, ?_⟩) hHeld ?_ ?_
                rotate_left
                · rintro w' ⟨s0, s1⟩
                  refine (exec_ld30 (x := .tmp 15) ?_ ?_  s0).trans ?_
                  · rfl
                  · rfl
                  · with_reducible rfl
                rotate_left
                · simp only [Act.put, List.setIfInBounds_toArray, List.set_cons_zero, List.set_cons_succ, i64_w, i32_w]
                  rfl
                refine take_ (i := 9) (N := some 159) (v := ?_) (a' := ?_) #[true, true, true, true, true, true, true, true, true, true, true, false, false, false, false, false, false, false, false, false, false, false, false, false] rfl rfl (by kernel_rfl) (fun _ _ _ h => h) (Or.inl ⟨by rfl, ?_⟩) hHeld ?_ ?_
                rotate_left
                · rintro w' ⟨s0, s1⟩
                  refine (exec_loadD (x := .tmp 7) ?_ ?_  s1).trans ?_
                  · rfl
                  · rfl
                  · with_reducible rfl
                rotate_left
                · simp only [Act.put, List.setIfInBounds_toArray, List.set_cons_zero, List.set_cons_succ, i64_w, i32_w]
                  rfl
                refine one_ (i := 11) (N := some 161) #[true, true, true, true, true, true, true, true, true, true, true, true, false, false, false, false, false, false, false, false, false, false, false, false] rfl rfl (by kernel_rfl) (by decide) (fun K hK => ?_)
                refine goes_ Tryd.func21 (by kernel_rfl) rfl #[.agg r.a, .int .i64 k] (by rfl) rfl rfl (by simp only [List.map_toArray, List.map_cons, List.map_nil]; rfl) ?_
                with_reducible refine (rread_p r d k P _ HPr (Lib.hid (hS Hv20.out).pl.ref) (by omega)).mono ?_
                rintro e v21 ⟨rfl, hd⟩
                refine ⟨_, rfl, ?_⟩
                have Hv21 := Lib.hid (Hv20.out.trans (hd.mono Hv20.out.size))
                clear hd
                refine hK.out _ _ ⟨hP Hv21.out, (hS Hv21.out).pl.xx⟩ (fun hHeld => ?_)
                clear hK K
                refine norm_ (a' := ?_) ?_ ?_
                rotate_left
                · show Act.put _ (some 161) _ = _
                  simp only [Act.put, List.setIfInBounds_toArray, List.set_cons_zero, List.set_cons_succ, i64_w, i32_w]
                  rfl
                refine pure_ (i := 12) (N := some 162) (v := ?_) (a' := ?_) #[true, true, true, true, true, true, true, true, true, true, true, true, true, false, false, false, false, false, false, false, false, false, false, false] rfl rfl (by kernel_rfl) (fun _ _ _ h => h) (Or.inl ⟨by rfl, ?_⟩) ?_ ?_
                rotate_left
                · intro w'
                  refine (exec_ne30 (p := P) (x := .tmp 158) (y := .tmp 161) ?_ ?_ ?_  ).trans ?_
                  · rfl
                  · rfl
                  · rfl
                  · with_reducible rfl
                rotate_left
                · simp only [Act.put, List.setIfInBounds_toArray, List.set_cons_zero, List.set_cons_succ, i64_w, i32_w]
                  rfl
                refine pure_ (i := 13) (N := some 163) (v := ?_) (a' := ?_) #[true, true, true, true, true, true, true, true, true, true, true, true, true, true, false, false, false, false, false, false, false, false, false, false] rfl rfl (by kernel_rfl) (fun _ _ _ h => h) (Or.inl ⟨by rfl, ?_⟩) ?_ ?_
                rotate_left
                · intro w'
                  go_simp
                  with_reducible rfl
                rotate_left
                · simp only [Act.put, List.setIfInBounds_toArray, List.set_cons_zero, List.set_cons_succ, i64_w, i32_w]
                  rfl
                refine pure_ (i := 14) (N := some 164) (v := ?_) (a' := ?_) #[true, true, true, true, true, true, true, true, true, true, true, true, true, true, true, false, false, false, false, false, false, false, false, false] rfl rfl (by kernel_rfl) (fun _ _ _ h => h) (Or.inl ⟨by rfl, ?_⟩) ?_ ?_
                rotate_left
                · intro w'
                  go_simp
                  with_reducible rfl
                rotate_left
                · simp only [Act.put, List.setIfInBounds_toArray, List.set_cons_zero, List.set_cons_succ, i64_w, i32_w]
                  rfl
                refine pure_ (i := 15) (N := some 165) (v := ?_) (a' := ?_) #[true, true, true, true, true, true, true, true, true, true, true, true, true, true, true, true, false, false, false, false, false, false, false, false] rfl rfl (by kernel_rfl) (fun _ _ _ h => h) (Or.inl ⟨by rfl, ?_⟩) ?_ ?_
                rotate_left
                · intro w'
                  go_simp
                  with_reducible rfl
                rotate_left
                · simp only [Act.put, List.setIfInBounds_toArray, List.set_cons_zero, List.set_cons_succ, i64_w, i32_w]
                  rfl
                refine pure_ (i := 16) (N := some 166) (v := ?_) (a' := ?_) #[true, true, true, true, true, true, true, true, true, true, true, true, true, true, true, true, true, false, false, false, false, false, false, false] rfl rfl (by kernel_rfl) (fun _ _ _ h => h) (Or.inl ⟨by rfl, ?_⟩) ?_ ?_
                rotate_left
                · intro w'
                  go_simp
                  with_reducible rfl
                rotate_left
                · simp only [Act.put, List.setIfInBounds_toArray, List.set_cons_zero, List.set_cons_succ, i64_w, i32_w]
                  rfl
                refine pure_ (i := 17) (N := some 167) (v := ?_) (a' := ?_) #[true, true, true, true, true, true, true, true, true, true, true, true, true, true, true, true, true, true, false, false, false, false, false, false] rfl rfl (by kernel_rfl) (fun _ _ _ h => h) (Or.inl ⟨by rfl, ?_⟩) ?_ ?_
                rotate_left
                · intro w'
                  go_simp
                  with_reducible rfl
                rotate_left
                · simp only [Act.put, List.setIfInBounds_toArray, List.set_cons_zero, List.set_cons_succ, i64_w, i32_w]
                  rfl
                refine pure_ (i := 18) (N := some 168) (v := ?_) (a' := ?_) #[true, true, true, true, true, true, true, true, true, true, true, true, true, true, true, true, true, true, true, false, false, false, false, false] rfl rfl (by kernel_rfl) (fun _ _ _ h => h) (Or.inl ⟨by rfl, ?_⟩) ?_ ?_
                rotate_left
                · intro w'
                  go_simp
                  with_reducible rfl
                rotate_left
                · simp only [Act.put, List.setIfInBounds_toArray, List.set_cons_zero, List.set_cons_succ, i64_w, i32_w]
                  rfl
                refine pure_ (i := 19) (N := some 169) (v := undef) (a' := ?_) #[true, true, true, true, true, true, true, true, true, true, true, true, true, true, true, true, true, true, true, true, false, false, false, false] rfl rfl (by kernel_rfl) (fun _ _ _ h => h) (Or.inr ⟨by rfl, rfl⟩) ?_ ?_
                rotate_left
                · simp only [Act.put, List.setIfInBounds_toArray, List.set_cons_zero, List.set_cons_succ, i64_w, i32_w]
                  rfl
                refine pure_ (i := 20) (N := some 170) (v := undef) (a' := ?_) #[true, true, true, true, true, true, true, true, true, true, true, true, true, true, true, true, true, true, true, true, true, false, false, false] rfl rfl (by kernel_rfl) (fun _ _ _ h => h) (Or.inr ⟨by rfl, rfl⟩) ?_ ?_
                rotate_left
                · simp only [Act.put, List.setIfInBounds_toArray, List.set_cons_zero, List.set_cons_succ, i64_w, i32_w]
                  rfl
                refine pure_ (i := 21) (N := some 171) (v := undef) (a' := ?_) #[true, true, true, true, true, true, true, true, true, true, true, true, true, true, true, true, true, true, true, true, true, true, false, false] rfl rfl (by kernel_rfl) (fun _ _ _ h => h) (Or.inr ⟨by rfl, rfl⟩) ?_ ?_
                rotate_left
                · simp only [Act.put, List.setIfInBounds_toArray, List.set_cons_zero, List.set_cons_succ, i64_w, i32_w]
                  rfl
                refine pure_ (i := 22) (N := some 172) (v := ?_) (a' := ?_) #[true, true, true, true, true, true, true, true, true, true, true, true, true, true, true, true, true, true, true, true, true, true, true, false] rfl rfl (by kernel_rfl) (fun _ _ _ h => h) (Or.inl ⟨by rfl, ?_⟩) ?_ ?_
                rotate_left
                · intro w'
                  go_simp
                  with_reducible rfl
                rotate_left
                · simp only [Act.put, List.setIfInBounds_toArray, List.set_cons_zero, List.set_cons_succ, i64_w, i32_w]
                  rfl
                refine pure_ (i := 23) (N := some 173) (v := ?_) (a' := ?_) #[true, true, true, true, true, true, true, true, true, true, true, true, true, true, true, true, true, true, true, true, true, true, true, true] rfl rfl (by kernel_rfl) (fun _ _ _ h => h) (Or.inl ⟨by rfl, ?_⟩) ?_ ?_
                rotate_left
                · intro w'
                  go_simp
                  with_reducible rfl
                rotate_left
                · simp only [Act.put, List.setIfInBounds_toArray, List.set_cons_zero, List.set_cons_succ, i64_w, i32_w]
                  rfl
                refine done_ (by kernel_rfl) ?_
                go_wp2_with fail
                go_roundg k2
                case measure => exact Nat.lt_succ_self _
                case rel => exact ⟨k + 1, by simp, by have := HKQ.out; omega, by omega, Lib.hid (hS Hv21.out)⟩
              · have n0 : (m == 0) = false := beq_eq_false_iff_ne.2 hm0
                have n0b : decide (m = 0) = false := decide_eq_false hm0
                have n0c : (m != 0) = true := by rw [bne, n0]; rfl
                have ecc : (m != m) = false := by simp
                have hPe := HPe.out
                rw [HM.out, if_neg hm0] at hPe
                subst hPe
                refine start_ (n := 24) (S := fun w' => w'.heap[K]? = some (Obj.cells (pa pz) 30 (0, 0))) (ds := []) #[false, false, false, false, false, false, false, false, false, false, false, false, false, false, false, false, false, false, false, false, false, false, false, false] (by kernel_rfl) rfl rfl (hP HD.out) (fun hHeld => ?_)
                refine pure_ (i := 0) (N := some 150) (v := ?_) (a' := ?_) #[true, false, false, false, false, false, false, false, false, false, false, false, false, false, false, false, false, false, false, false, false, false, false, false] rfl rfl (by kernel_rfl) (fun _ _ _ h => h) (Or.inl ⟨by rfl, ?_⟩) ?_ ?_
                rotate_left
                · intro w'
                  go_simp
                  with_reducible rfl
                rotate_left
                · simp only [Act.put, List.setIfInBounds_toArray, List.set_cons_zero, List.set_cons_succ, i64_w, i32_w]
                  rfl
                refine pure_ (i := 2) (N := some 152) (v := ?_) (a' := ?_) #[true, false, true, false, false, false, false, false, false, false, false, false, false, false, false, false, false, false, false, false, false, false, false, false] rfl rfl (by kernel_rfl) (fun _ _ _ h => h) (Or.inl ⟨by rfl, ?_⟩) ?_ ?_
                rotate_left
                · intro w'
                  go_simp
                  with_reducible rfl
                rotate_left
                · simp only [Act.put, List.setIfInBounds_toArray, List.set_cons_zero, List.set_cons_succ, i64_w, i32_w]
                  rfl
                refine one_ (i := 1) (N := some 151) #[true, true, true, false, false, false, false, false, false, false, false, false, false, false, false, false, false, false, false, false, false, false, false, false] rfl rfl (by kernel_rfl) (by decide) (fun K hK => ?_)
                refine goes_ Tryd.func11 (by kernel_rfl) rfl #[E] (by rfl) rfl rfl (by simp only [List.map_toArray, List.map_cons, List.map_nil]; rfl) ?_
                with_reducible refine (code_c E m _ (Lib.hid (hE HD.out)) (Lib.hid (hL HD.out))).mono ?_
                rintro e v20 ⟨rfl, hd⟩
                refine ⟨_, rfl, ?_⟩
                have Hv20 := Lib.hid (HD.out.trans (hd.mono HD.out.size))
                clear hd
                refine hK.out _ _ (hP Hv20.out) (fun hHeld => ?_)
                clear hK K
                refine norm_ (a' := ?_) ?_ ?_
                rotate_left
                · show Act.put _ (some 151) _ = _
                  simp only [Act.put, List.setIfInBounds_toArray, List.set_cons_zero, List.set_cons_succ, i64_w, i32_w]
                  rfl
                refine pure_ (i := 3) (N := some 153) (v := ?_) (a' := ?_) #[true, true, true, true, false, false, false, false, false, false, false, false, false, false, false, false, false, false, false, false, false, false, false, false] rfl rfl (by kernel_rfl) (fun _ _ _ h => h) (Or.inl ⟨by rfl, ?_⟩) ?_ ?_
                rotate_left
                · intro w'
                  go_simp
                  with_reducible rfl
                rotate_left
                · simp only [Act.put, List.setIfInBounds_toArray, List.set_cons_zero, List.set_cons_succ, i64_w, i32_w]
                  rfl
                refine pure_ (i := 4) (N := some 154) (v := ?_) (a' := ?_) #[true, true, true, true, true, false, false, false, false, false, false, false, false, false, false, false, false, false, false, false, false, false, false, false] rfl rfl (by kernel_rfl) (fun _ _ _ h => h) (Or.inl ⟨by rfl, ?_⟩) ?_ ?_
                rotate_left
                · intro w'
                  go_simp
                  with_reducible rfl
                rotate_left
                · simp only [Act.put, List.setIfInBounds_toArray, List.set_cons_zero, List.set_cons_succ, i64_w, i32_w]
                  rfl
                refine pure_ (i := 5) (N := some 155) (v := ?_) (a' := ?_) #[true, true, true, true, true, true, false, false, false, false, false, false, false, false, false, false, false, false, false, false, false, false, false, false] rfl rfl (by kernel_rfl) (fun _ _ _ h => h) (Or.inl ⟨by rfl, ?_⟩) ?_ ?_
                rotate_left
                · intro w'
                  go_simp
                  with_reducible rfl
                rotate_left
                · simp only [Act.put, List.setIfInBounds_toArray, List.set_cons_zero, List.set_cons_succ, i64_w, i32_w]
                  rfl
                refine pure_ (i := 6) (N := some 156) (v := ?_) (a' := ?_) #[true, true, true, true, true, true, true, false, false, false, false, false, false, false, false, false, false, false, false, false, false, false, false, false] rfl rfl (by kernel_rfl) (fun _ _ _ h => h) (Or.inl ⟨by rfl, ?_⟩) ?_ ?_
                rotate_left
                · intro w'
                  go_simp
                  with_reducible rfl
                rotate_left
                · simp only [Act.put, List.setIfInBounds_toArray, List.set_cons_zero, List.set_cons_succ, i64_w, i32_w]
                  rfl
                refine pure_ (i := 7) (N := some 157) (v := ?_) (a' := ?_) #[true, true, true, true, true, true, true, true, false, false, false, false, false, false, false, false, false, false, false, false, false, false, false, false] rfl rfl (by kernel_rfl) (fun _ _ _ h => h) (Or.inl ⟨by rfl, ?_⟩) ?_ ?_
                rotate_left
                · intro w'
                  go_simp
                  with_reducible rfl
                rotate_left
                · simp only [Act.put, List.setIfInBounds_toArray, List.set_cons_zero, List.set_cons_succ, i64_w, i32_w]
                  rfl
                refine pure_ (i := 8) (N := some 158) (v := undef) (a' := ?_) #[true, true, true, true, true, true, true, true, true, false, false, false, false, false, false, false, false, false, false, false, false, false, false, false] rfl rfl (by kernel_rfl) (fun _ _ _ h => h) (Or.inr ⟨by rfl, rfl⟩) ?_ ?_
                rotate_left
                · simp only [Act.put, List.setIfInBounds_toArray, List.set_cons_zero, List.set_cons_succ, i64_w, i32_w]
                  rfl
                refine pure_ (i := 9) (N := some 159) (v := undef) (a' := ?_) #[true, true, true, true, true, true, true, true, true, true, false, false, false, false, false, false, false, false, false, false, false, false, false, false] rfl rfl (by kernel_rfl) (fun _ _ _ h => h) (Or.inr ⟨by rfl, rfl⟩) ?_ ?_
                rotate_left
                · simp only [Act.put, List.setIfInBounds_toArray, List.set_cons_zero, List.set_cons_succ, i64_w, i32_w]
                  rfl
                refine pure_ (i := 10) (N := some 160) (v := undef) (a' := ?_) #[true, true, true, true, true, true, true, true, true, true, true, false, false, false, false, false, false, false, false, false, false, false, false, false] rfl rfl (by kernel_rfl) (fun _ _ _ h => h) (Or.inr ⟨by rfl, rfl⟩) ?_ ?_
                rotate_left
                · simp only [Act.put, List.setIfInBounds_toArray, List.set_cons_zero, List.set_cons_succ, i64_w, i32_w]
                  rfl
                refine pure_ (i := 11) (N := some 161) (v := undef) (a' := ?_) #[true, true, true, true, true, true, true, true, true, true, true, true, false, false, false, false, false, false, false, false, false, false, false, false] rfl rfl (by kernel_rfl) (fun _ _ _ h => h) (Or.inr ⟨by rfl, rfl⟩) ?_ ?_
                rotate_left
                · simp only [Act.put, List.setIfInBounds_toArray, List.set_cons_zero, List.set_cons_succ, i64_w, i32_w]
                  rfl
                refine pure_ (i := 12) (N := some 162) (v := undef) (a' := ?_) #[true, true, true, true, true, true, true, true, true, true, true, true, true, false, false, false, false, false, false, false, false, false, false, false] rfl rfl (by kernel_rfl) (fun _ _ _ h => h) (Or.inr ⟨by rfl, rfl⟩) ?_ ?_
                rotate_left
                · simp only [Act.put, List.setIfInBounds_toArray, List.set_cons_zero, List.set_cons_succ, i64_w, i32_w]
                  rfl
                refine pure_ (i := 13) (N := some 163) (v := ?_) (a' := ?_) #[true, true, true, true, true, true, true, true, true, true, true, true, true, true, false, false, false, false, false, false, false, false, false, false] rfl rfl (by kernel_rfl) (fun _ _ _ h => h) (Or.inl ⟨by rfl, ?_⟩) ?_ ?_
                rotate_left
                · intro w'
                  go_simp
                  with_reducible rfl
                rotate_left
                · simp only [Act.put, List.setIfInBounds_toArray, List.set_cons_zero, List.set_cons_succ, i64_w, i32_w]
                  rfl
                refine pure_ (i := 14) (N := some 164) (v := ?_) (a' := ?_) #[true, true, true, true, true, true, true, true, true, true, true, true, true, true, true, false, false, false, false, false, false, false, false, false] rfl rfl (by kernel_rfl) (fun _ _ _ h => h) (Or.inl ⟨by rfl, ?_⟩) ?_ ?_
                rotate_left
                · intro w'
                  go_simp
                  with_reducible rfl
                rotate_left
                · simp only [Act.put, List.setIfInBounds_toArray, List.set_cons_zero, List.set_cons_succ, i64_w, i32_w]
                  rfl
                refine pure_ (i := 15) (N := some 165) (v := ?_) (a' := ?_) #[true, true, true, true, true, true, true, true, true, true, true, true, true, true, true, true, false, false, false, false, false, false, false, false] rfl rfl (by kernel_rfl) (fun _ _ _ h => h) (Or.inl ⟨by rfl, ?_⟩) ?_ ?_
                rotate_left
                · intro w'
                  go_simp
                  with_reducible rfl
                rotate_left
                · simp only [Act.put, List.setIfInBounds_toArray, List.set_cons_zero, List.set_cons_succ, i64_w, i32_w]
                  rfl
                refine pure_ (i := 16) (N := some 166) (v := ?_) (a' := ?_) #[true, true, true, true, true, true, true, true, true, true, true, true, true, true, true, true, true, false, false, false, false, false, false, false] rfl rfl (by kernel_rfl) (fun _ _ _ h => h) (Or.inl ⟨by rfl, ?_⟩) ?_ ?_
                rotate_left
                · intro w'
                  go_simp
                  with_reducible rfl
                rotate_left
                · simp only [Act.put, List.setIfInBounds_toArray, List.set_cons_zero, List.set_cons_succ, i64_w, i32_w]
                  rfl
                refine pure_ (i := 17) (N := some 167) (v := ?_) (a' := ?_) #[true, true, true, true, true, true, true, true, true, true, true, true, true, true, true, true, true, true, false, false, false, false, false, false] rfl rfl (by kernel_rfl) (fun _ _ _ h => h) (Or.inl ⟨by rfl, ?_⟩) ?_ ?_
                rotate_left
                · intro w'
                  go_simp
                  with_reducible rfl
                rotate_left
                · simp only [Act.put, List.setIfInBounds_toArray, List.set_cons_zero, List.set_cons_succ, i64_w, i32_w]
                  rfl
                refine pure_ (i := 18) (N := some 168) (v := ?_) (a' := ?_) #[true, true, true, true, true, true, true, true, true, true, true, true, true, true, true, true, true, true, true, false, false, false, false, false] rfl rfl (by kernel_rfl) (fun _ _ _ h => h) (Or.inl ⟨by rfl, ?_⟩) ?_ ?_
                rotate_left
                · intro w'
                  go_simp
                  with_reducible rfl
                rotate_left
                · simp only [Act.put, List.setIfInBounds_toArray, List.set_cons_zero, List.set_cons_succ, i64_w, i32_w]
                  rfl
                refine pure_ (i := 20) (N := some 170) (v := ?_) (a' := ?_) #[true, true, true, true, true, true, true, true, true, true, true, true, true, true, true, true, true, true, true, false, true, false, false, false] rfl rfl (by kernel_rfl) (fun _ _ _ h => h) (Or.inl ⟨by rfl, ?_⟩) ?_ ?_
                rotate_left
                · intro w'
                  refine (exec_bd30  ?_  ).trans ?_
                  · rfl
                  · with_reducible rfl
                rotate_left
                · simp only [Act.put, List.setIfInBounds_toArray, List.set_cons_zero, List.set_cons_succ, i64_w, i32_w]
                  rfl
                refine take_ (i := 19) (N := some 169) (v := ?_) (a' := ?_) #[true, true, true, true, true, true, true, true, true, true, true, true, true, true, true, true, true, true, true, true, true, false, false, false] rfl rfl (by kernel_rfl) (fun _ _ _ h => h) (Or.inl ⟨by rfl, ?_⟩) hHeld ?_ ?_
                rotate_left
                · intro w' s0
                  refine (exec_ld30 (x := .tmp 15) ?_ ?_  s0).trans ?_
                  · rfl
                  · rfl
                  · with_reducible rfl
                rotate_left
                · simp only [Act.put, List.setIfInBounds_toArray, List.set_cons_zero, List.set_cons_succ, i64_w, i32_w]
                  rfl
                refine pure_ (i := 21) (N := some 171) (v := ?_) (a' := ?_) #[true, true, true, true, true, true, true, true, true, true, true, true, true, true, true, true, true, true, true, true, true, true, false, false] rfl rfl (by kernel_rfl) (fun _ _ _ h => h) (Or.inl ⟨by rfl, ?_⟩) ?_ ?_
                rotate_left
                · intro w'
                  refine (exec_ne30 (p := pz) (x := .tmp 169) (y := .tmp 170) ?_ ?_ ?_  ).trans ?_
                  · rfl
                  · rfl
                  · rfl
                  · with_reducible rfl
                rotate_left
                · simp only [Act.put, List.setIfInBounds_toArray, List.set_cons_zero, List.set_cons_succ, i64_w, i32_w]
                  rfl
                refine pure_ (i := 22) (N := some 172) (v := ?_) (a' := ?_) #[true, true, true, true, true, true, true, true, true, true, true, true, true, true, true, true, true, true, true, true, true, true, true, false] rfl rfl (by kernel_rfl) (fun _ _ _ h => h) (Or.inl ⟨by rfl, ?_⟩) ?_ ?_
                rotate_left
                · intro w'
                  go_simp
                  with_reducible rfl
                rotate_left
                · simp only [Act.put, List.setIfInBounds_toArray, List.set_cons_zero, List.set_cons_succ, i64_w, i32_w]
                  rfl
                refine pure_ (i := 23) (N := some 173) (v := ?_) (a' := ?_) #[true, true, true, true, true, true, true, true, true, true, true, true, true, true, true, true, true, true, true, true, true, true, true, true] rfl rfl (by kernel_rfl) (fun _ _ _ h => h) (Or.inl ⟨by rfl, ?_⟩) ?_ ?_
                rotate_left
                · intro w'
                  go_simp
                  with_reducible rfl
                rotate_left
                · simp only [Act.put, List.setIfInBounds_toArray, List.set_cons_zero, List.set_cons_succ, i64_w, i32_w]
                  rfl
                refine done_ (by kernel_rfl) ?_
                go_wp2_with fail
                go_roundg k2
                case measure => exact Nat.lt_succ_self _
                case rel => exact ⟨k + 1, by simp, by have := HKQ.out; omega, by omega, Lib.hid (hS Hv20.out)⟩

namespace RowDiskPlays
theorem walk (z : Int) (A : Option Addr) (n c : Nat) (l : List Dk.Act) (w : World) (hz : (Lit.int .i64 z).wf = true) (hn : l.length = n) (hc : n ≤ c) (hA : Kd.C ak w A n l) (hb : ∀ x ∈ l, (Lit.int .u8 x.dO).wf = true ∧ (Lit.int .i64 x.at_).wf = true ∧ x.mask < 2 ^ 64) (hg : Hid (Laid w)) :
    Calls Tryd.prog 6 #[.int .i64 z, .slice A n c] w fun e w' => e = .returned (.bool true) ∧ Below w.heap.size w w' := by
  by_cases h1 : n ≤ 80
  · by_cases h2 : z < 1 ∨ 2048 < z
    · exact bad A n c z w h1 h2 hg
    · by_cases h3 : 50 < z
      · exact great A n c z w h1 h3 (by omega) hg
      · exact few A n c z w l hn h1 (by omega) (by omega) (Lib.hid (by rw [hn]; exact hA)) (Lib.hid hb) hg
  · exact many A n c z w (by omega) hg
end RowDiskPlays
end Go.Proofs.YtoanhafbofphgaaDoor.Rfd

