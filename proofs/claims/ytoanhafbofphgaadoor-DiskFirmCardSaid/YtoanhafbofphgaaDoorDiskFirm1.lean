/- DiskFirm, the walk. -/
import Derived.Test.YtoanhafbofphgaaDoorLst
set_option linter.unusedVariables false
set_option linter.unusedSimpArgs false
namespace Go.Proofs.YtoanhafbofphgaaDoor.RowDiskFirm
open Go.RowKit Go.Proofs.YtoanhafbofphgaaDoorW.PrintWords Go.Proofs.YtoanhafbofphgaaDoorW.PrintLast Go.Proofs.YtoanhafbofphgaaDoorW.PrintMore Go.Proofs.YtoanhafbofphgaaDoor.Md Go.Proofs.YtoanhafbofphgaaDoor.Dk
open Go.Extern.Stop (cell)
open Go.Proofs.YtoanhafbofphgaaDoor.Err (Laid IsErr code_nil Chain at_some at_nil)
theorem many (A A2 : Option Addr) (n c m c2 : Nat) (mask : Int) (w : World) (hn : 80 < n ∨ (n ≤ 80 ∧ 64 < m)) (hg : Hid (Laid w)) :
    Calls Tryd.prog 4 #[.slice A n c, .slice A2 m c2, .int .u64 mask] w fun e w' => e = .returned (.bool true) ∧ Below w.heap.size w w' := by
  rcases hn with hn | ⟨hn, hm⟩
  · have c1 : decide ((n : Int) > 80) = true := decide_eq_true (by omega)
    have c1' : decide (n > 80) = true := decide_eq_true (by omega)
    have hw := Lib.hid (Below.refl w.heap.size w)
    go_enter Tryd.func4, Tryd.ntmps4
    go_wp2_with fail
    refine (awake_c w hg).mono ?_
    rintro e w1 ⟨rfl, hd⟩
    have HB1 := below_to hw (Nat.le_refl _) hd
    clear hd
    go_wp2_with fail
    refine (awake_c _ (Lib.hid (hg.out.on HB1.out))).mono ?_
    rintro e w2 ⟨rfl, hd⟩
    have HB2 := below_to HB1 (Nat.le_refl _) hd
    clear hd
    go_wp2_with fail
    go_ret
    exact ⟨rfl, HB2.out⟩
  · have c1 : decide ((n : Int) > 80) = false := decide_eq_false (by omega)
    have c1' : decide (n > 80) = false := decide_eq_false (by omega)
    have c2 : decide ((m : Int) > 64) = true := decide_eq_true (by omega)
    have c2' : decide (m > 64) = true := decide_eq_true (by omega)
    have hw := Lib.hid (Below.refl w.heap.size w)
    go_enter Tryd.func4, Tryd.ntmps4
    go_wp2_with fail
    refine (awake_c w hg).mono ?_
    rintro e w1 ⟨rfl, hd⟩
    have HB1 := below_to hw (Nat.le_refl _) hd
    clear hd
    go_wp2_with fail
    refine (awake_c _ (Lib.hid (hg.out.on HB1.out))).mono ?_
    rintro e w2 ⟨rfl, hd⟩
    have HB2 := below_to HB1 (Nat.le_refl _) hd
    clear hd
    go_wp2_with fail
    go_ret
    exact ⟨rfl, HB2.out⟩
set_option maxHeartbeats 8000000 in
set_option maxRecDepth 100000 in
theorem few (A A2 : Option Addr) (n c m c2 mask : Nat) (l t : List Dk.Act) (w : World) (hn : l.length = n) (hm : t.length = m) (h1 : n ≤ 80) (h2 : m ≤ 64) (hc : n ≤ c) (hc2 : m ≤ c2) (hmk : mask < 2 ^ 64) (hA : Hid (Kd.C ak w A l.length l)) (hA2 : Hid (Kd.C ak w A2 t.length t)) (hg : Hid (Laid w)) :
    Calls Tryd.prog 4 #[.slice A n c, .slice A2 m c2, .int .u64 (mask : Int)] w fun e w' => e = .returned (.bool true) ∧ Below w.heap.size w w' := by
  have c1 : decide ((n : Int) > 80) = false := decide_eq_false (by omega)
  have c1' : decide (n > 80) = false := decide_eq_false (by omega)
  have c2a : decide ((m : Int) > 64) = false := decide_eq_false (by omega)
  have c2b : decide (m > 64) = false := decide_eq_false (by omega)
  have HNn := Lib.hid hn
  have HMm := Lib.hid hm
  clear hn hm
  have hw := Lib.hid (Below.refl w.heap.size w)
  go_enter Tryd.func4, Tryd.ntmps4
  go_wp2_with fail
  refine (awake_c w hg).mono ?_
  rintro e w1 ⟨rfl, hd⟩
  have HB1 := below_to hw (Nat.le_refl _) hd
  clear hd
  go_wp2_with fail
  refine (new_c w1 8 (by omega) (by omega)).mono ?_
  rintro e w2 ⟨R, M, hR, hM, rfl, hb, hd⟩
  have hRw : w.heap.size ≤ R := Nat.le_trans HB1.out.size hR
  have hMw : w.heap.size ≤ M := Nat.le_trans HB1.out.size hM
  have HB2 := below_to HB1 (Nat.le_refl _) hb
  have HD2 := Lib.hid hd
  clear hb hd hR hM
  go_wp2_with (first | (refine wl_alloc8 rfl rfl ?_))
  have hb3 : Below w2.heap.size w2 (w2.alloc (Obj.cells e512 31 (0, 0))) := (Below.refl _ _).alloc (Nat.le_refl _) _
  have hft := HD2.out.ft_lt
  have HL3 := Lib.hid (show Lst w (w2.alloc (Obj.cells e512 31 (0, 0))) R M w2.heap.size (.slice none 0 0) ⟨8, fun _ => pz, [], false, -1⟩ (fun _ => pz) 0 from
    { bel := HB2.out.trans (hb3.mono HB2.out.size), dsk := HD2.out.on hb3, fr := Fr.nil hRw hMw, nb := fun i hi e => by have := hft i hi; omega, hB := HB2.out.size, dn := rfl, sz := rfl, bu := rfl, ln := Nat.le_refl _, eig := Eight.new w2 })
  obtain ⟨B, hB⟩ : ∃ B, w2.heap.size = B := ⟨_, rfl⟩
  obtain ⟨w3, hw3⟩ : ∃ w3, w2.alloc (Obj.cells e512 31 (0, 0)) = w3 := ⟨_, rfl⟩
  rw [hw3, hB] at HL3
  rw [hw3]
  simp only [hB]
  clear hb3 hft hw3 hB HD2 HB2 HB1 hRw hMw hw
  go_loopg [10] n (fun kq v0 wr => ∃ (i : Nat) (v : Value) (d : Dsk) (L : Nat → Pg), v0 = .int .i64 (i : Int) ∧ kq + i = n ∧ Hid (Lst w wr R M B v d L i) ∧ Hid (∀ k : Nat, k < 8 → rd d (k : Int) = L k))
  case atStart => exact ⟨0, _, _, _, rfl, by omega, HL3, Lib.hid (fun k hk => rfl)⟩
  case round =>
    clear HL3
    obtain ⟨i, v, d, L, rfl, hk, HL, HEq⟩ := hrel
    cases gk with
    | zero =>
      have hin : i = n := by omega
      have c5 : decide ((i : Int) < (n : Int)) = false := decide_eq_false (by omega)
      have c5' : decide (i < n) = false := decide_eq_false (by omega)
      have hib : i ≤ 80 := by omega
      clear hin hk
      go_wp2_with fail
      refine (flush_ok wr R M v d (Lib.hid HL.out.dsk) (mayN_zero HL.out.dn (by omega) (by rw [HL.out.sz]; omega)) (by have := HL.out.ln; omega)).mono ?_
      rintro e w4 ⟨rfl, hm4, hd4⟩
      have HLf := Lib.hid ((HL.out.flush hm4 hd4).len (m := 0) (Nat.le_refl _))
      have HEf := Lib.hid (show ∀ k : Nat, k < 8 → stl mask (stl 18446744073709551615 d.firm d.soft 0) [] 0 (k : Int) = L k from fun k hk => by
        rw [← HEq.out k hk]
        exact stl_ones _ _ _ _)
      obtain ⟨df, hdf⟩ : ∃ df : Dsk, { d with firm := stl 18446744073709551615 d.firm d.soft 0, soft := [] } = df := ⟨_, rfl⟩
      have hdf0 : df.soft.length = 0 := by rw [← hdf]; rfl
      have HEf2 := Lib.hid (show ∀ k : Nat, k < 8 → stl mask df.firm df.soft 0 (k : Int) = L k by rw [← hdf]; exact HEf.out)
      rw [hdf] at HLf
      have HLenf := Lib.hid hdf0
      clear hm4 hd4 hdf HL HEq HEf hdf0
      go_wp2_with fail
      refine (code_nil _).mono ?_
      rintro e w5 ⟨rfl, hd5⟩
      have HLg := Lib.hid (HLf.out.on hd5)
      clear hd5 HLf
      go_wp2_with fail
      go_loopg [11] m (fun kq v0 wr => ∃ (i : Nat) (v : Value) (d : Dsk) (L : Nat → Pg), v0 = .int .i64 (i : Int) ∧ kq + i = m ∧ Hid (Lst w wr R M B v d L i) ∧ Hid (d.soft.length = i) ∧ Hid (∀ k : Nat, k < 8 → stl mask d.firm d.soft 0 (k : Int) = L k))
      case atStart => exact ⟨0, _, df, L, rfl, by omega, HLg, HLenf, HEf2⟩
      case round =>
        clear HLg HLenf HEf2 df L d v
        obtain ⟨i, v, d, L, rfl, hk, HL, HLen, HEq⟩ := hrel
        cases gk with
        | zero =>
          have hin : i = m := by omega
          have c5 : decide ((i : Int) < (m : Int)) = false := decide_eq_false (by omega)
          have c5' : decide (i < m) = false := decide_eq_false (by omega)
          have hib : i ≤ 80 := by omega
          clear hin hk
          go_wp2_with fail
          refine (crash_c wr R M v d mask (Lib.hid HL.out.dsk) hmk (by have := HL.out.ln; omega)).mono ?_
          rintro e w7 ⟨rfl, hm7, hd7⟩
          have HD7 := Lib.hid hd7
          have HM7 := Lib.hid hm7
          clear hm7 hd7
          go_wp2_with fail
          refine (up_c w7 R M _ _ HD7).mono ?_
          rintro e w8 ⟨rfl, hm8, hd8⟩
          have HL8 := Lib.hid (HL.out.mods (m := 0) (HM7.out.tr (hm8.mono (fun _ _ h => .inl h))) hd8 ft_nil rfl HL.out.sz HL.out.bu (Nat.le_refl _))
          have HEz := Lib.hid (show ∀ k : Nat, k < 8 → rd ⟨d.size, stl mask d.firm d.soft 0, [], false, d.budget⟩ (k : Int) = L k from fun k hk => by rw [rd_firm _ _ rfl]; exact HEq.out k hk)
          obtain ⟨dz, hdz⟩ : ∃ dz : Dsk, ⟨d.size, stl mask d.firm d.soft 0, [], false, d.budget⟩ = dz := ⟨_, rfl⟩
          have hdz0 : dz.soft.length = 0 := by rw [← hdz]; rfl
          have HLz := Lib.hid (show Lst w w8 R M B (.slice none 0 0) dz L 0 by rw [← hdz]; exact HL8.out)
          rw [hdz] at HEz
          obtain ⟨L8, hL8⟩ : ∃ L8, L = L8 := ⟨_, rfl⟩
          rw [hL8] at HEz HLz
          clear hm8 hd8 HL8 HM7 HD7 hdz HL HEq hL8
          go_wp2_with fail
          go_loopg [12] 8 (fun kq v0 wr => ∃ (k : Nat), v0 = .int .i64 (k : Int) ∧ kq + k = 8 ∧ Hid (Lst w wr R M B (.slice none 0 0) dz L8 0))
          case atStart => exact ⟨0, rfl, by omega, HLz⟩
          case round =>
            clear HLz
            obtain ⟨k, rfl, hk8, HL9⟩ := hrel
            cases gk with
            | zero =>
              have hin : k = 8 := by omega
              have c6 : decide ((k : Int) < 8) = false := decide_eq_false (by omega)
              have c6' : decide (k < 8) = false := decide_eq_false (by omega)
              clear hin hk8
              go_wp2_with fail
              refine (code_nil _).mono ?_
              rintro e w14 ⟨rfl, hd14⟩
              have HL14 := Lib.hid (HL9.out.on hd14)
              clear hd14
              go_wp2_with fail
              refine (soft_c _ R M _ dz (Lib.hid HL14.out.dsk)).mono ?_
              rintro e w15 ⟨rfl, hd15⟩
              have HL15 := Lib.hid (HL14.out.on hd15)
              rw [hdz0]
              clear hd15
              go_wp2_with fail
              go_ret
              exact ⟨rfl, HL15.out.bel⟩
            | succ k2 =>
              have hk8' : k < 8 := by omega
              have c6 : decide ((k : Int) < 8) = true := decide_eq_true (by omega)
              have c6' : decide (k < 8) = true := decide_eq_true hk8'
              have q6 : IntKind.i64.wrap ((k : Int) + 1) = (k : Int) + 1 := IntWalk.i64_in _ (by omega)
              have p5 : (0 ≤ (k : Int)) = True := eq_true (by omega)
              have p6 : ((k : Int) < 8) = True := eq_true (by omega)
              obtain ⟨P, hP⟩ : ∃ P, L8 k = P := ⟨_, rfl⟩
              have hrd : rd dz (k : Int) = P := by rw [HEz.out k hk8', hP]
              have HPe := Lib.hid hP
              clear hP
              go_wp2_with fail
              refine (read_ok wr R M (.slice none 0 0) dz (k : Int) (Lib.hid HL9.out.dsk) (mayN_zero HL9.out.dn (by omega) (by rw [HL9.out.sz]; omega)) (by have := HL9.out.ln; omega)).mono ?_
              rintro e w10 ⟨rfl, hd10⟩
              rw [hrd]
              have HL10 := Lib.hid (HL9.out.on hd10)
              clear hd10 hrd HL9
              go_wp2_with (first | (refine wl_alloc30 rfl rfl ?_) | (refine wl_store30n pz P rfl _ _ rfl rfl rfl ?_))
              have hb11 : Below w10.heap.size w10 (w10.alloc (Obj.cells (pa P) 30 (0, 0))) := (Below.refl _ _).alloc (Nat.le_refl _) _
              have HL11 := Lib.hid (HL10.out.on hb11)
              have HK11 := Lib.hid (heap_alloc_last w10 (Obj.cells (pa P) 30 (0, 0)))
              obtain ⟨K, hK⟩ : ∃ K, w10.heap.size = K := ⟨_, rfl⟩
              obtain ⟨w11, hw11⟩ : ∃ w11, w10.alloc (Obj.cells (pa P) 30 (0, 0)) = w11 := ⟨_, rfl⟩
              rw [hw11] at HL11 HK11
              rw [hK] at HK11
              rw [hw11]
              simp only [hK]
              clear hb11 hw11 hK HL10
              have HL12 := Lib.hid (HL11.out.on (Below.refl _ _).drew)
              have hS12 := two_keep (P := P) (Below.refl w11.heap.size w11).drew HK11.out HL12.out.eig HPe.out hk8'
              refine start_ (n := 10) (S := fun w' => w'.rangeAt K 0 (pcs P) ∧ w'.rangeAt B (k * 64) (pcs P)) (ds := []) #[false, false, false, false, false, false, false, false, false, false] (by kernel_rfl) rfl rfl ⟨hS12.1, hS12.2⟩ (fun hHeld => ?_)
              refine pure_ (i := 0) (N := some 122) (v := ?_) (a' := ?_) #[true, false, false, false, false, false, false, false, false, false] rfl rfl (by kernel_rfl) (fun _ _ _ h => h) (Or.inl ⟨by rfl, ?_⟩) ?_ ?_
              rotate_left
              · intro w'
                go_simp
                with_reducible rfl
              rotate_left
              · simp only [Act.put, List.setIfInBounds_toArray, List.set_cons_zero, List.set_cons_succ, i64_w, i32_w]
                rfl
              refine one_ (i := 1) (N := some 123) #[true, true, false, false, false, false, false, false, false, false] rfl rfl (by kernel_rfl) (by decide) (fun K hK => ?_)
              refine goes_ Tryd.func11 (by kernel_rfl) rfl #[.nilIface] (by rfl) rfl rfl (by simp only [List.map_toArray, List.map_cons, List.map_nil]; rfl) ?_
              with_reducible refine (code_nil _).mono ?_
              rintro e w13 ⟨rfl, hd13⟩
              have HL13 := Lib.hid (HL12.out.on hd13)
              have hS13 := two_keep (P := P) (((Below.refl w11.heap.size w11).drew).trans hd13) HK11.out HL13.out.eig HPe.out hk8'
              clear hd13
              refine ⟨_, rfl, ?_⟩
              refine hK.out _ _ ⟨hS13.1, hS13.2⟩ (fun hHeld => ?_)
              clear hK K
              refine norm_ (a' := ?_) ?_ ?_
              rotate_left
              · show Act.put _ (some 123) _ = _
                simp only [Act.put, List.setIfInBounds_toArray, List.set_cons_zero, List.set_cons_succ, i64_w, i32_w]
                rfl
              refine pure_ (i := 2) (N := some 124) (v := ?_) (a' := ?_) #[true, true, true, false, false, false, false, false, false, false] rfl rfl (by kernel_rfl) (fun _ _ _ h => h) (Or.inl ⟨by rfl, ?_⟩) ?_ ?_
              rotate_left
              · intro w'
                go_simp
                with_reducible rfl
              rotate_left
              · simp only [Act.put, List.setIfInBounds_toArray, List.set_cons_zero, List.set_cons_succ, i64_w, i32_w]
                rfl
              refine pure_ (i := 3) (N := some 125) (v := ?_) (a' := ?_) #[true, true, true, true, false, false, false, false, false, false] rfl rfl (by kernel_rfl) (fun _ _ _ h => h) (Or.inl ⟨by rfl, ?_⟩) ?_ ?_
              rotate_left
              · intro w'
                go_simp
                with_reducible rfl
              rotate_left
              · simp only [Act.put, List.setIfInBounds_toArray, List.set_cons_zero, List.set_cons_succ, i64_w, i32_w]
                rfl
              refine pure_ (i := 5) (N := some 127) (v := ?_) (a' := ?_) #[true, true, true, true, false, true, false, false, false, false] rfl rfl (by kernel_rfl) (fun _ _ _ h => h) (Or.inl ⟨by rfl, ?_⟩) ?_ ?_
              rotate_left
              · intro w'
                go_simp
                with_reducible rfl
              rotate_left
              · simp only [Act.put, List.setIfInBounds_toArray, List.set_cons_zero, List.set_cons_succ, i64_w, i32_w]
                rfl
              refine pure_ (i := 6) (N := some 128) (v := ?_) (a' := ?_) #[true, true, true, true, false, true, true, false, false, false] rfl rfl (by kernel_rfl) (fun _ _ _ h => h) (Or.inl ⟨by rfl, ?_⟩) ?_ ?_
              rotate_left
              · intro w'
                go_simp
                with_reducible rfl
              rotate_left
              · simp only [Act.put, List.setIfInBounds_toArray, List.set_cons_zero, List.set_cons_succ, i64_w, i32_w]
                rfl
              refine take_ (i := 4) (N := some 126) (v := ?_) (a' := ?_) #[true, true, true, true, true, true, true, false, false, false] rfl rfl (by kernel_rfl) (fun _ _ _ h => h) (Or.inl ⟨by rfl, ?_⟩) hHeld ?_ ?_
              rotate_left
              · rintro w' ⟨s0, s1⟩
                refine (exec_loadP (x := .tmp 13) K 0 P s0 ?_ ?_).trans ?_
                · rfl
                · rfl
                · with_reducible rfl
              rotate_left
              · simp only [Act.put, List.setIfInBounds_toArray, List.set_cons_zero, List.set_cons_succ, i64_w, i32_w]
                rfl
              refine take_ (i := 7) (N := some 129) (v := ?_) (a' := ?_) #[true, true, true, true, true, true, true, true, false, false] rfl rfl (by kernel_rfl) (fun _ _ _ h => h) (Or.inl ⟨by rfl, ?_⟩) hHeld ?_ ?_
              rotate_left
              · rintro w' ⟨s0, s1⟩
                refine (exec_loadP (x := .tmp 128) B (k * 64) P s1 ?_ ?_).trans ?_
                · rfl
                · rfl
                · with_reducible rfl
              rotate_left
              · simp only [Act.put, List.setIfInBounds_toArray, List.set_cons_zero, List.set_cons_succ, i64_w, i32_w]
                rfl
              refine pure_ (i := 8) (N := some 130) (v := ?_) (a' := ?_) #[true, true, true, true, true, true, true, true, true, false] rfl rfl (by kernel_rfl) (fun _ _ _ h => h) (Or.inl ⟨by rfl, ?_⟩) ?_ ?_
              rotate_left
              · intro w'
                refine (exec_same (x := .tmp 126) (y := .tmp 129) P ?_ ?_ ?_).trans ?_
                · rfl
                · rfl
                · rfl
                · with_reducible rfl
              rotate_left
              · simp only [Act.put, List.setIfInBounds_toArray, List.set_cons_zero, List.set_cons_succ, i64_w, i32_w]
                rfl
              refine pure_ (i := 9) (N := some 131) (v := ?_) (a' := ?_) #[true, true, true, true, true, true, true, true, true, true] rfl rfl (by kernel_rfl) (fun _ _ _ h => h) (Or.inl ⟨by rfl, ?_⟩) ?_ ?_
              rotate_left
              · intro w'
                go_simp
                with_reducible rfl
              rotate_left
              · simp only [Act.put, List.setIfInBounds_toArray, List.set_cons_zero, List.set_cons_succ, i64_w, i32_w]
                rfl
              refine done_ (by kernel_rfl) ?_
              clear HL11
              go_wp2_with fail
              go_roundg k2
              case measure => exact Nat.lt_succ_self _
              case rel => exact ⟨k + 1, by simp, by omega, HL13⟩
        | succ k1 =>
          have hin : i < m := by omega
          have hil : i < t.length := by have := HMm.out; omega
          have c5 : decide ((i : Int) < (m : Int)) = true := decide_eq_true (by omega)
          have c5' : decide (i < m) = true := decide_eq_true (by omega)
          have q5 : IntKind.i64.wrap ((i : Int) + 1) = (i : Int) + 1 := IntWalk.i64_in _ (by omega)
          have p1 : (0 ≤ (i : Int)) = True := eq_true (by omega)
          have p2 : ((i : Int) < (m : Int)) = True := eq_true (by omega)
          obtain ⟨ad, b, o, rfl, hab, hao, x0, x1, x2, hbl⟩ := act_at hA2.out i hil
          obtain ⟨x, hx⟩ : ∃ x, t[i] = x := ⟨_, rfl⟩
          rw [hx] at x0 x1 x2
          obtain ⟨j, hj8, hj⟩ := and7 x.at_
          have X1 := Lib.hid x1
          have X2 := Lib.hid x2
          clear x0 x1 x2 hx
          have p3 : (0 ≤ (j : Int)) = True := eq_true (by omega)
          have p4 : ((j : Int) < 8) = True := eq_true (by omega)
          have hu30 := Tryd.underlying30
          have hi30 : (Tryd.prog.info? 30).map (·.size) = some (pcs x.p).length := by rw [pcs_length]; exact size30
          go_wp2_with fail
          have HLd := Lib.hid (HL.out.on (Below.refl _ _).drew)
          have hS0 := act_keep HLd.out.bel X1.out X2.out hbl
          go_region_held3 (fun w' => w'.cell? ⟨b, o + 1, none⟩ = some (.int .i64 x.at_) ∧ w'.rangeAt b (o + 2) (pcs x.p))
            (first | with_reducible exact hS0 | with_reducible assumption)
            (first
              | (go_at_call 12
                 refine (write_ok wr.drew R M v d (j : Int) x.p (Lib.hid HLd.out.dsk) (Lib.hid HLd.out.dn) (by omega) (by rw [HLd.out.sz]; omega) (by rw [HLd.out.bu]; omega) (by rw [HLd.out.bu]; omega) (by rw [HLd.out.bu]; omega) (by have := HLd.out.ln; omega)).mono ?_
                 rintro e w5 ⟨rfl, v5, hm5, hd5, hv5⟩
                 have HL5 := Lib.hid (HLd.out.write hm5 hd5 hv5)
                 have hS5 := act_keep HL5.out.bel X1.out X2.out hbl
                 clear hm5 hd5 hv5)
              | (go_at_call 11
                 refine (code_nil _).mono ?_
                 rintro e w6 ⟨rfl, hd6⟩
                 have HL6 := Lib.hid (HL5.out.on hd6)
                 have hS6 := act_keep HL6.out.bel X1.out X2.out hbl
                 clear hd6))
          have hlen6 : (d.soft ++ [((j : Int), x.p)]).length = i + 1 := by rw [List.length_append, HLen.out]; rfl
          have hst6 : ∀ k : Nat, stl mask d.firm (d.soft ++ [((j : Int), x.p)]) 0 (k : Int) = if bit mask i then (if k = j then x.p else stl mask d.firm d.soft 0 (k : Int)) else stl mask d.firm d.soft 0 (k : Int) := fun k => by
            rw [stl_snoc, Nat.zero_add, HLen.out]
            by_cases hb : bit mask i = true
            · rw [if_pos hb, if_pos hb]
              unfold upd
              by_cases e : k = j
              · rw [if_pos e, if_pos (by omega)]
              · rw [if_neg e, if_neg (by omega)]
            · rw [if_neg hb, if_neg hb]
          have HSt6 := Lib.hid hst6
          obtain ⟨d6, hd6⟩ : ∃ d6 : Dsk, { d with soft := d.soft ++ [((j : Int), x.p)], budget := -1 } = d6 := ⟨_, rfl⟩
          have HLen6 := Lib.hid (show d6.soft.length = i + 1 by rw [← hd6]; exact hlen6)
          have HStd := Lib.hid (show ∀ k : Nat, stl mask d6.firm d6.soft 0 (k : Int) = if bit mask i then (if k = j then x.p else stl mask d.firm d.soft 0 (k : Int)) else stl mask d.firm d.soft 0 (k : Int) by rw [← hd6]; exact hst6)
          rw [hd6] at HL6
          clear hS0 hS5 hS6 HLd HL5 HL hd6 hlen6 hst6 HSt6 HLen
          have eb := bit_eq mask i hmk
          rw [Nat.mod_eq_of_lt (show i < 64 by omega)] at eb
          cases hb : bit mask i with
          | false =>
            rw [hb] at eb
            have HE7 := Lib.hid (show ∀ k : Nat, k < 8 → stl mask d6.firm d6.soft 0 (k : Int) = L k from fun k hk => by rw [HStd.out k, hb]; exact HEq.out k hk)
            clear hb HStd HEq
            go_wp2_with fail
            go_roundg k1
            case measure => exact Nat.lt_succ_self _
            case rel => exact ⟨i + 1, v5, d6, L, by simp, by omega, HL6, HLen6, HE7⟩
          | true =>
            rw [hb] at eb
            have HE7 := Lib.hid (show ∀ k : Nat, k < 8 → stl mask d6.firm d6.soft 0 (k : Int) = upN L j x.p k from fun k hk => by
              rw [HStd.out k, hb]
              unfold upN
              by_cases e : k = j
              · rw [if_pos rfl, if_pos e, if_pos e]
              · rw [if_pos rfl, if_neg e, if_neg e]; exact HEq.out k hk)
            clear hb HStd HEq
            go_wp2_with fail
            have HL7 := Lib.hid (HL6.out.on (Below.refl _ _).drew)
            have HL8 := Lib.hid (HL7.out.put j hj8 x.p)
            have hS7 := act_keep3 (p := x.p) (j := j) HL7.out.bel X1.out X2.out hbl HL7.out.eig.2 hj8
            have hS8 := act_keep3 (p := x.p) (j := j) HL8.out.bel X1.out X2.out hbl HL8.out.eig.2 hj8
            have h1p : ∀ v ∈ pcs x.p, v.oneCell' = true := pcs_one x.p
            go_region_held3 (fun w' => w'.cell? ⟨b, o + 1, none⟩ = some (.int .i64 x.at_) ∧ w'.rangeAt b (o + 2) (pcs x.p) ∧ w'.there B (j * 64) (pcs x.p).length)
              (first | with_reducible exact hS7 | with_reducible exact hS8)
              (fail)
            clear hS7 hS8 HL6 HL7 h1p
            obtain ⟨L8, hL8⟩ : ∃ L8, upN L j x.p = L8 := ⟨_, rfl⟩
            rw [hL8] at HL8 HE7
            clear hL8
            go_wp2_with fail
            go_roundg k1
            case measure => exact Nat.lt_succ_self _
            case rel => exact ⟨i + 1, v5, d6, L8, by simp, by omega, HL8, HLen6, HE7⟩
    | succ k1 =>
      have hin : i < n := by omega
      have hil : i < l.length := by have := HNn.out; omega
      have c5 : decide ((i : Int) < (n : Int)) = true := decide_eq_true (by omega)
      have c5' : decide (i < n) = true := decide_eq_true (by omega)
      have q5 : IntKind.i64.wrap ((i : Int) + 1) = (i : Int) + 1 := IntWalk.i64_in _ (by omega)
      have p1 : (0 ≤ (i : Int)) = True := eq_true (by omega)
      have p2 : ((i : Int) < (n : Int)) = True := eq_true (by omega)
      obtain ⟨ad, b, o, rfl, hab, hao, x0, x1, x2, hbl⟩ := act_at hA.out i hil
      obtain ⟨x, hx⟩ : ∃ x, l[i] = x := ⟨_, rfl⟩
      rw [hx] at x0 x1 x2
      obtain ⟨j, hj8, hj⟩ := and7 x.at_
      have X1 := Lib.hid x1
      have X2 := Lib.hid x2
      clear x0 x1 x2 hx
      have p3 : (0 ≤ (j : Int)) = True := eq_true (by omega)
      have p4 : ((j : Int) < 8) = True := eq_true (by omega)
      have hu30 := Tryd.underlying30
      have hi30 : (Tryd.prog.info? 30).map (·.size) = some (pcs x.p).length := by rw [pcs_length]; exact size30
      go_wp2_with fail
      have HLd := Lib.hid (HL.out.on (Below.refl _ _).drew)
      have hS0 := act_keep HLd.out.bel X1.out X2.out hbl
      go_region_held3 (fun w' => w'.cell? ⟨b, o + 1, none⟩ = some (.int .i64 x.at_) ∧ w'.rangeAt b (o + 2) (pcs x.p))
        (first | with_reducible exact hS0 | with_reducible assumption)
        (first
          | (go_at_call 12
             refine (write_ok wr.drew R M v d (j : Int) x.p (Lib.hid HLd.out.dsk) (Lib.hid HLd.out.dn) (by omega) (by rw [HLd.out.sz]; omega) (by rw [HLd.out.bu]; omega) (by rw [HLd.out.bu]; omega) (by rw [HLd.out.bu]; omega) (by have := HLd.out.ln; omega)).mono ?_
             rintro e w5 ⟨rfl, v5, hm5, hd5, hv5⟩
             have HL5 := Lib.hid (HLd.out.write hm5 hd5 hv5)
             have hS5 := act_keep HL5.out.bel X1.out X2.out hbl
             clear hm5 hd5 hv5)
          | (go_at_call 11
             refine (code_nil _).mono ?_
             rintro e w6 ⟨rfl, hd6⟩
             have HL6 := Lib.hid (HL5.out.on hd6)
             have hS6 := act_keep HL6.out.bel X1.out X2.out hbl
             clear hd6))
      have HEq6 := Lib.hid (show ∀ k : Nat, k < 8 → rd { d with soft := d.soft ++ [((j : Int), x.p)], budget := -1 } (k : Int) = upN L j x.p k from fun k hk => by
        rw [rd_snoc, HEq.out k hk]; unfold upN
        by_cases e : k = j
        · rw [if_pos e, if_pos (by omega)]
        · rw [if_neg e, if_neg (by omega)])
      obtain ⟨d6, hd6⟩ : ∃ d6 : Dsk, { d with soft := d.soft ++ [((j : Int), x.p)], budget := -1 } = d6 := ⟨_, rfl⟩
      rw [hd6] at HL6 HEq6
      clear hS0 hS5 hS6 HLd HL5 HL HEq hd6
      go_wp2_with fail
      have HL7 := Lib.hid (HL6.out.on (Below.refl _ _).drew)
      have HL8 := Lib.hid (HL7.out.put j hj8 x.p)
      have hS7 := act_keep3 (p := x.p) (j := j) HL7.out.bel X1.out X2.out hbl HL7.out.eig.2 hj8
      have hS8 := act_keep3 (p := x.p) (j := j) HL8.out.bel X1.out X2.out hbl HL8.out.eig.2 hj8
      have h1p : ∀ v ∈ pcs x.p, v.oneCell' = true := pcs_one x.p
      go_region_held3 (fun w' => w'.cell? ⟨b, o + 1, none⟩ = some (.int .i64 x.at_) ∧ w'.rangeAt b (o + 2) (pcs x.p) ∧ w'.there B (j * 64) (pcs x.p).length)
        (first | with_reducible exact hS7 | with_reducible exact hS8)
        (fail)
      clear hS7 hS8 HL6 HL7 h1p
      obtain ⟨L8, hL8⟩ : ∃ L8, upN L j x.p = L8 := ⟨_, rfl⟩
      rw [hL8] at HL8 HEq6
      clear hL8
      go_wp2_with fail
      go_roundg k1
      case measure => exact Nat.lt_succ_self _
      case rel => exact ⟨i + 1, v5, d6, L8, by simp, by omega, HL8, HEq6⟩
theorem walk (A : Option Addr) (n c : Nat) (l : List Dk.Act) (A2 : Option Addr) (m c2 : Nat) (t : List Dk.Act) (mask : Int) (w : World) (hn : l.length = n) (hc : n ≤ c) (hA : Kd.C ak w A n l) (hb : ∀ x ∈ l, (Lit.int .u8 x.dO).wf = true ∧ (Lit.int .i64 x.at_).wf = true ∧ x.mask < 2 ^ 64) (hm : t.length = m) (hc2 : m ≤ c2) (hA2 : Kd.C ak w A2 m t) (hb2 : ∀ x ∈ t, (Lit.int .u8 x.dO).wf = true ∧ (Lit.int .i64 x.at_).wf = true ∧ x.mask < 2 ^ 64) (hk : (Lit.int .u64 mask).wf = true) (hg : Hid (Laid w)) :
    Calls Tryd.prog 4 #[.slice A n c, .slice A2 m c2, .int .u64 mask] w fun e w' => e = .returned (.bool true) ∧ Below w.heap.size w w' := by
  have hm0 : 0 ≤ mask ∧ mask < 2 ^ 64 := by
    simp [Lit.wf, IntKind.min, IntKind.max, IntKind.bits, IntKind.signed] at hk
    omega
  obtain ⟨mk, rfl⟩ := Int.eq_ofNat_of_zero_le hm0.1
  by_cases h1 : n ≤ 80
  · by_cases h2 : m ≤ 64
    · exact few A A2 n c m c2 mk l t w hn hm h1 h2 hc hc2 (by omega) (by rw [hn]; exact hA) (by rw [hm]; exact hA2) hg
    · exact many A A2 n c m c2 _ w (.inr ⟨h1, by omega⟩) hg
  · exact many A A2 n c m c2 _ w (.inl (by omega)) hg
end Go.Proofs.YtoanhafbofphgaaDoor.RowDiskFirm
