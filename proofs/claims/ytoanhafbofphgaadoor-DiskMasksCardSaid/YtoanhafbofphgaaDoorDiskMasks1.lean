/- DiskMasks, the walk. -/
import Derived.Test.YtoanhafbofphgaaDoorLst
set_option linter.unusedVariables false
set_option linter.unusedSimpArgs false
namespace Go.Proofs.YtoanhafbofphgaaDoor.RowDiskMasks
open Go.RowKit Go.Proofs.YtoanhafbofphgaaDoorW.PrintWords Go.Proofs.YtoanhafbofphgaaDoorW.PrintLast Go.Proofs.YtoanhafbofphgaaDoorW.PrintMore Go.Proofs.YtoanhafbofphgaaDoor.Md Go.Proofs.YtoanhafbofphgaaDoor.Dk
open Go.Extern.Stop (cell)
open Go.Proofs.YtoanhafbofphgaaDoor.Err (Laid IsErr code_nil Chain at_some at_nil)
/-- three disks that share nothing -/
structure Tri (W wr : World) (Ra Ma Rb Mb Rc Mc : Nat) (va vb vc : Value) (da db dc : Dsk) : Prop where
  bel : Below W.heap.size W wr
  a : IsD wr Ra Ma va da
  b : IsD wr Rb Mb vb db
  c : IsD wr Rc Mc vc dc
  fa : Fr W.heap.size Ra Ma va
  fb : Fr W.heap.size Rb Mb vb
  fc : Fr W.heap.size Rc Mc vc
  ab : ∀ i, Ft Ra Ma va i → ¬ Ft Rb Mb vb i
  ac : ∀ i, Ft Ra Ma va i → ¬ Ft Rc Mc vc i
  bc : ∀ i, Ft Rb Mb vb i → ¬ Ft Rc Mc vc i
section
variable {W wr w2 : World} {Ra Ma Rb Mb Rc Mc : Nat} {va vb vc v' : Value} {da db dc d' : Dsk}
theorem Tri.on (h : Tri W wr Ra Ma Rb Mb Rc Mc va vb vc da db dc) (k : Below wr.heap.size wr w2) : Tri W w2 Ra Ma Rb Mb Rc Mc va vb vc da db dc :=
  { h with bel := h.bel.trans (k.mono h.bel.size), a := h.a.on k, b := h.b.on k, c := h.c.on k }
theorem Tri.rot (h : Tri W wr Ra Ma Rb Mb Rc Mc va vb vc da db dc) : Tri W wr Rb Mb Rc Mc Ra Ma vb vc va db dc da :=
  { bel := h.bel, a := h.b, b := h.c, c := h.a, fa := h.fb, fb := h.fc, fc := h.fa, ab := h.bc, ac := fun i hb ha => h.ab i ha hb, bc := fun i hc ha => h.ac i ha hc }
theorem Tri.ma (h : Tri W wr Ra Ma Rb Mb Rc Mc va vb vc da db dc) (k : Mod (Ft Ra Ma va) wr w2) (hd : IsD w2 Ra Ma v' d') (hv : ∀ i, Ft Ra Ma v' i → Ft Ra Ma va i ∨ wr.heap.size ≤ i) : Tri W w2 Ra Ma Rb Mb Rc Mc v' vb vc d' db dc :=
  { bel := h.bel.trans (k.below h.bel.size (fun i hi e => by have := h.fa i e; omega)), a := hd, b := h.b.mod k (fun i hb ha => h.ab i ha hb), c := h.c.mod k (fun i hc ha => h.ac i ha hc),
    fa := fun i hi => (hv i hi).elim (h.fa i) (fun e => Nat.le_trans h.bel.size e), fb := h.fb, fc := h.fc,
    ab := fun i hi hb => (hv i hi).elim (fun ha => h.ab i ha hb) (fun e => by have := h.b.ft_lt i hb; omega),
    ac := fun i hi hc => (hv i hi).elim (fun ha => h.ac i ha hc) (fun e => by have := h.c.ft_lt i hc; omega), bc := h.bc }
end
theorem ft_write {R M : Nat} {v v' : Value} {w : World} (hv : v'.ownBlock = v.ownBlock ∨ ∃ b, v'.ownBlock = some b ∧ w.heap.size ≤ b) : ∀ i, Ft R M v' i → Ft R M v i ∨ w.heap.size ≤ i := by
  rintro i (rfl | rfl | e)
  · exact .inl (.inl rfl)
  · exact .inl (.inr (.inl rfl))
  · rcases hv with g | ⟨b, g, hb⟩
    · exact .inl (.inr (.inr (by rw [← g]; exact e)))
    · rw [g] at e; cases e; exact .inr hb
theorem ft_same {R M : Nat} {v v' : Value} {w : World} (h : ∀ i, Ft R M v' i → Ft R M v i) : ∀ i, Ft R M v' i → Ft R M v i ∨ w.heap.size ≤ i := fun i hi => .inl (h i hi)
theorem ft_drop {w : World} {R M : Nat} {v v' : Value} {k : World} (e : v' = v) : ∀ i, Ft R M v' i → Ft R M v i ∨ w.heap.size ≤ i := fun i hi => .inl (by rw [← e]; exact hi)
abbrev dd (s : List (Int × Pg)) : Dsk := ⟨8, fun _ => pz, s, false, -1⟩
abbrev dz (F : Int → Pg) (dn : Bool) : Dsk := ⟨8, F, [], dn, -1⟩
theorem dd_write {w : World} {R M : Nat} {v : Value} {s : List (Int × Pg)} {x : Int × Pg} (h : IsD w R M v { dd s with soft := (dd s).soft ++ [x], budget := max ((dd s).budget - 1) (-1) }) : IsD w R M v (dd (s ++ [x])) := by
  have e : max ((dd s).budget - 1) (-1) = -1 := by show max ((-1 : Int) - 1) (-1) = -1; decide
  rw [e] at h; exact h
theorem bit_zero (n : Nat) : bit 0 n = false := by simp [bit]
theorem stl_zero : ∀ (l : List (Int × Pg)) (F : Int → Pg) (n : Nat), stl 0 F l n = F
  | [], F, n => rfl
  | x :: l, F, n => by simp only [stl, bit_zero]; exact stl_zero l F (n + 1)
theorem many (A : Option Addr) (n c : Nat) (mask : Int) (w : World) (hn : 80 < n) (hg : Hid (Laid w)) :
    Calls Tryd.prog 5 #[.slice A n c, .int .u64 mask] w fun e w' => e = .returned (.bool true) ∧ Below w.heap.size w w' := by
  have c1 : decide ((n : Int) > 80) = true := decide_eq_true (by omega)
  have c1' : decide (n > 80) = true := decide_eq_true (by omega)
  have hw := Lib.hid (Below.refl w.heap.size w)
  go_enter Tryd.func5, Tryd.ntmps5
  go_wp2_with fail
  refine (awake_c w hg).mono ?_
  rintro e w1 ⟨rfl, hd⟩
  have HB1 := below_to hw (Nat.le_refl _) hd
  clear hd
  go_wp2_with fail
  refine (awake_c _ (Lib.hid (hg.out.on HB1.out))).mono ?_
  rintro e w2 ⟨rfl, hd⟩
  have HB2 := below_to HB1 (Nat.le_refl _) hd
  clear hd
  go_wp2_with fail
  go_ret
  exact ⟨rfl, HB2.out⟩
set_option maxHeartbeats 8000000 in
set_option maxRecDepth 100000 in
theorem few (A : Option Addr) (n c mask : Nat) (l : List Dk.Act) (w : World) (hn : l.length = n) (h1 : n ≤ 80) (hc : n ≤ c) (hmk : mask < 2 ^ 64) (hA : Hid (Kd.C ak w A l.length l)) (hg : Hid (Laid w)) :
    Calls Tryd.prog 5 #[.slice A n c, .int .u64 (mask : Int)] w fun e w' => e = .returned (.bool true) ∧ Below w.heap.size w w' := by
  have c1 : decide ((n : Int) > 80) = false := decide_eq_false (by omega)
  have c1' : decide (n > 80) = false := decide_eq_false (by omega)
  have HNn := Lib.hid hn
  clear hn
  have hw := Lib.hid (Below.refl w.heap.size w)
  go_enter Tryd.func5, Tryd.ntmps5
  go_wp2_with fail
  refine (awake_c w hg).mono ?_
  rintro e w1 ⟨rfl, hd⟩
  have HB1 := below_to hw (Nat.le_refl _) hd
  clear hd hw
  go_wp2_with fail
  refine (new_c w1 8 (by omega) (by omega)).mono ?_
  rintro e w2 ⟨Ra, Ma, hRa, hMa, rfl, hba, hda⟩
  have HDa := Lib.hid hda
  have HBa := Lib.hid hba
  clear hda hba
  go_wp2_with fail
  refine (new_c w2 8 (by omega) (by omega)).mono ?_
  rintro e w3 ⟨Rb, Mb, hRb, hMb, rfl, hbb, hdb⟩
  have HDb := Lib.hid hdb
  have HBb := Lib.hid hbb
  clear hdb hbb
  go_wp2_with fail
  refine (new_c w3 8 (by omega) (by omega)).mono ?_
  rintro e w4 ⟨Rc, Mc, hRc, hMc, rfl, hbc, hdc⟩
  have hs1 := HB1.out.size
  have hs2 := HBa.out.size
  have hs3 := HBb.out.size
  have ra := HDa.out.ft_lt
  have rb := HDb.out.ft_lt
  have lo : ∀ (B R M : Nat), B ≤ R → B ≤ M → ∀ i, Ft R M (.slice none 0 0) i → B ≤ i := fun B R M h1 h2 => Fr.nil h1 h2
  have HT := Lib.hid (show Tri w w4 Ra Ma Rb Mb Rc Mc (.slice none 0 0) (.slice none 0 0) (.slice none 0 0) (dd []) (dd []) (dd []) from
    { bel := HB1.out.trans ((HBa.out.trans ((HBb.out.trans (hbc.mono HBb.out.size)).mono HBa.out.size)).mono HB1.out.size), a := (HDa.out.on HBb.out).on hbc, b := HDb.out.on hbc, c := hdc
      fa := Fr.nil (by omega) (by omega), fb := Fr.nil (by omega) (by omega), fc := Fr.nil (by omega) (by omega)
      ab := fun i h1 h2 => by have := ra i h1; have := lo _ _ _ hRb hMb i h2; omega
      ac := fun i h1 h2 => by have := ra i h1; have := lo _ _ _ hRc hMc i h2; omega
      bc := fun i h1 h2 => by have := rb i h1; have := lo _ _ _ hRc hMc i h2; omega })
  clear hs1 hs2 hs3 ra rb lo hbc hdc HDa HDb HBa HBb HB1 hRa hMa hRb hMb hRc hMc
  go_wp2_with fail
  refine (code_nil _).mono ?_
  rintro e w5 ⟨rfl, hd⟩
  have HT5 := Lib.hid (HT.out.on hd)
  clear hd HT
  go_wp2_with fail
  refine (code_nil _).mono ?_
  rintro e w6 ⟨rfl, hd⟩
  have HT6 := Lib.hid (HT5.out.on hd)
  clear hd HT5
  go_wp2_with fail
  refine (code_nil _).mono ?_
  rintro e w7 ⟨rfl, hd⟩
  have HT7 := Lib.hid (HT6.out.on hd)
  clear hd HT6
  go_wp2_with fail
  go_loopg [11] n (fun kq v0 wr => ∃ (i : Nat) (va vb vc : Value) (s : List (Int × Pg)), v0 = .int .i64 (i : Int) ∧ kq + i = n ∧ s.length = i ∧ Hid (Tri w wr Ra Ma Rb Mb Rc Mc va vb vc (dd s) (dd s) (dd s)))
  case atStart => exact ⟨0, _, _, _, [], rfl, by omega, rfl, HT7⟩
  case round =>
    clear HT7
    obtain ⟨i, va, vb, vc, s, rfl, hk, hsl, HT⟩ := hrel
    cases gk with
    | zero =>
      have hin : i = n := by omega
      have c5 : decide ((i : Int) < (n : Int)) = false := decide_eq_false (by omega)
      have c5' : decide (i < n) = false := decide_eq_false (by omega)
      have hib : s.length ≤ 1000 := by omega
      clear hin hk hsl
      obtain ⟨G, hG⟩ : ∃ G, stl 18446744073709551615 (fun _ => pz) s 0 = G := ⟨_, rfl⟩
      go_wp2_with fail
      refine (crash_c wr Ra Ma va (dd s) 18446744073709551615 (Lib.hid HT.out.a) (by decide) hib).mono ?_
      rintro e u1 ⟨rfl, hm, hd⟩
      have HT1 := Lib.hid (show Tri w u1 Ra Ma Rb Mb Rc Mc (.slice none 0 0) vb vc (dz G true) (dd s) (dd s) by rw [← hG]; exact HT.out.ma hm hd (ft_same ft_nil))
      clear hm hd HT
      go_wp2_with fail
      refine (crash_c u1 Ra Ma _ (dz G true) mask (Lib.hid HT1.out.a) hmk (by show 0 ≤ 1000; omega)).mono ?_
      rintro e u2 ⟨rfl, hm, hd⟩
      have HT2 := Lib.hid ((show Tri w u2 Ra Ma Rb Mb Rc Mc (.slice none 0 0) vb vc (dz G true) (dd s) (dd s) from HT1.out.ma hm hd (ft_same ft_nil)).rot)
      clear hm hd HT1
      go_wp2_with fail
      refine (flush_ok u2 Rb Mb vb (dd s) (Lib.hid HT2.out.a) rfl hib).mono ?_
      rintro e u3 ⟨rfl, hm, hd⟩
      have HT3 := Lib.hid ((show Tri w u3 Rb Mb Rc Mc Ra Ma (.slice none 0 0) vc (.slice none 0 0) (dz G false) (dd s) (dz G true) by rw [← hG]; exact (by rw [hG]; exact HT2.out : Tri w u2 Rb Mb Rc Mc Ra Ma vb vc (.slice none 0 0) (dd s) (dd s) (dz (stl 18446744073709551615 (fun _ => pz) s 0) true)).ma hm hd (ft_same ft_nil)).rot)
      clear hm hd HT2
      go_wp2_with fail
      refine (crash_c u3 Rc Mc vc (dd s) 0 (Lib.hid HT3.out.a) (by decide) hib).mono ?_
      rintro e u4 ⟨rfl, hm, hd⟩
      rw [stl_zero] at hd
      have HT4 := Lib.hid ((show Tri w u4 Rc Mc Ra Ma Rb Mb (.slice none 0 0) (.slice none 0 0) (.slice none 0 0) (dz (fun _ => pz) true) (dz G true) (dz G false) from HT3.out.ma hm hd (ft_same ft_nil)).rot)
      clear hm hd HT3
      go_wp2_with fail
      refine (up_c u4 Ra Ma _ _ (Lib.hid HT4.out.a)).mono ?_
      rintro e u5 ⟨rfl, hm, hd⟩
      have HT5 := Lib.hid ((show Tri w u5 Ra Ma Rb Mb Rc Mc (.slice none 0 0) (.slice none 0 0) (.slice none 0 0) (dz G false) (dz G false) (dz (fun _ => pz) true) from HT4.out.ma (hm.mono (fun _ _ h => .inl h)) hd (fun i hi => .inl hi)).rot.rot)
      clear hm hd HT4
      go_wp2_with fail
      refine (up_c u5 Rc Mc _ _ (Lib.hid HT5.out.a)).mono ?_
      rintro e u6 ⟨rfl, hm, hd⟩
      have HT6 := Lib.hid ((show Tri w u6 Rc Mc Ra Ma Rb Mb (.slice none 0 0) (.slice none 0 0) (.slice none 0 0) (dz (fun _ => pz) false) (dz G false) (dz G false) from HT5.out.ma (hm.mono (fun _ _ h => .inl h)) hd (fun i hi => .inl hi)).rot)
      clear hm hd HT5 hG
      go_wp2_with fail
      go_loopg [12] 8 (fun kq v0 wr => ∃ (k : Nat), v0 = .int .i64 (k : Int) ∧ kq + k = 8 ∧ Hid (Tri w wr Ra Ma Rb Mb Rc Mc (.slice none 0 0) (.slice none 0 0) (.slice none 0 0) (dz G false) (dz G false) (dz (fun _ => pz) false)))
      case atStart => exact ⟨0, rfl, by omega, HT6⟩
      case round =>
        clear HT6
        obtain ⟨k, rfl, hk8, HT9⟩ := hrel
        cases gk with
        | zero =>
          have hin : k = 8 := by omega
          have c6 : decide ((k : Int) < 8) = false := decide_eq_false (by omega)
          have c6' : decide (k < 8) = false := decide_eq_false (by omega)
          clear hin hk8
          go_wp2_with fail
          refine (soft_c _ Ra Ma _ _ (Lib.hid HT9.out.a)).mono ?_
          rintro e wz1 ⟨rfl, hd⟩
          have HU1 := Lib.hid (HT9.out.on hd)
          clear hd HT9
          go_wp2_with fail
          refine (soft_c _ Rb Mb _ _ (Lib.hid HU1.out.b)).mono ?_
          rintro e wz2 ⟨rfl, hd⟩
          have HU2 := Lib.hid (HU1.out.on hd)
          clear hd HU1
          go_wp2_with fail
          refine (soft_c _ Rc Mc _ _ (Lib.hid HU2.out.c)).mono ?_
          rintro e wz3 ⟨rfl, hd⟩
          have HU3 := Lib.hid (HU2.out.on hd)
          clear hd HU2
          go_wp2_with fail
          go_ret
          exact ⟨rfl, HU3.out.bel⟩
        | succ k2 =>
          have hk8' : k < 8 := by omega
          have c6 : decide ((k : Int) < 8) = true := decide_eq_true (by omega)
          have c6' : decide (k < 8) = true := decide_eq_true hk8'
          have q6 : IntKind.i64.wrap ((k : Int) + 1) = (k : Int) + 1 := IntWalk.i64_in _ (by omega)
          obtain ⟨P, hP⟩ : ∃ P, rd (dz G false) (k : Int) = P := ⟨_, rfl⟩
          have hPP : (P.1 != P.1) = false := by simp
          have hzz : (pz.1 != pz.1) = false := by simp
          go_wp2_with fail
          refine (read_ok wr Ra Ma (.slice none 0 0) (dz G false) (k : Int) (Lib.hid HT9.out.a) (mayN_zero rfl (by omega) (by show (k : Int) < 8; omega)) (by show 0 ≤ 1000; omega)).mono ?_
          rintro e wx1 ⟨rfl, hd⟩
          rw [show rd (dz G false) (k : Int) = P from hP]
          have HTx1 := Lib.hid (HT9.out.on hd)
          clear hd
          go_wp2_with (first | (refine wl_alloc30 rfl rfl ?_) | (refine wl_store30n pz P rfl _ _ rfl rfl rfl ?_))
          have hb1 : Below wx1.heap.size wx1 (wx1.alloc (Obj.cells (pa P) 30 (0, 0))) := (Below.refl _ _).alloc (Nat.le_refl _) _
          have HTy1 := Lib.hid ((HTx1.out.on hb1).rot)
          have HK1 := Lib.hid (heap_alloc_last wx1 (Obj.cells (pa P) 30 (0, 0)))
          obtain ⟨K1, hK1⟩ : ∃ K1, wx1.heap.size = K1 := ⟨_, rfl⟩
          obtain ⟨wy1, hw1⟩ : ∃ wy1, wx1.alloc (Obj.cells (pa P) 30 (0, 0)) = wy1 := ⟨_, rfl⟩
          rw [hw1] at HTy1 HK1
          rw [hK1] at HK1
          rw [hw1]
          simp only [hK1]
          clear hb1 hw1 hK1 HTx1
          refine (read_ok wy1 Rb Mb (.slice none 0 0) (dz G false) (k : Int) (Lib.hid HTy1.out.a) (mayN_zero rfl (by omega) (by show (k : Int) < 8; omega)) (by show 0 ≤ 1000; omega)).mono ?_
          rintro e wx2 ⟨rfl, hd⟩
          rw [show rd (dz G false) (k : Int) = P from hP]
          have HTx2 := Lib.hid (HTy1.out.on hd)
          have HK1x := blk_to HK1 hd
          clear hd
          go_wp2_with (first | (refine wl_alloc30 rfl rfl ?_) | (refine wl_store30n pz P rfl _ _ rfl rfl rfl ?_))
          have hb2 : Below wx2.heap.size wx2 (wx2.alloc (Obj.cells (pa P) 30 (0, 0))) := (Below.refl _ _).alloc (Nat.le_refl _) _
          have HTy2 := Lib.hid ((HTx2.out.on hb2).rot)
          have HK2 := Lib.hid (heap_alloc_last wx2 (Obj.cells (pa P) 30 (0, 0)))
          have HK1y := blk_to HK1x hb2
          obtain ⟨K2, hK2⟩ : ∃ K2, wx2.heap.size = K2 := ⟨_, rfl⟩
          obtain ⟨wy2, hw2⟩ : ∃ wy2, wx2.alloc (Obj.cells (pa P) 30 (0, 0)) = wy2 := ⟨_, rfl⟩
          rw [hw2] at HTy2 HK2 HK1y
          rw [hK2] at HK2
          rw [hw2]
          simp only [hK2]
          clear hb2 hw2 hK2 HTx2
          refine (read_ok wy2 Rc Mc (.slice none 0 0) (dz (fun _ => pz) false) (k : Int) (Lib.hid HTy2.out.a) (mayN_zero rfl (by omega) (by show (k : Int) < 8; omega)) (by show 0 ≤ 1000; omega)).mono ?_
          rintro e wx3 ⟨rfl, hd⟩
          rw [show rd (dz (fun _ => pz) false) (k : Int) = pz from rfl]
          have HTx3 := Lib.hid (HTy2.out.on hd)
          have HK1z := blk_to HK1y hd
          have HK2x := blk_to HK2 hd
          clear hd
          have hb3 : Below wx3.heap.size wx3 (wx3.alloc (Obj.cells (pa pz) 30 (0, 0))) := (Below.refl _ _).alloc (Nat.le_refl _) _
          have HTy3 := Lib.hid ((HTx3.out.on hb3).rot)
          have HK3 := Lib.hid (heap_alloc_last wx3 (Obj.cells (pa pz) 30 (0, 0)))
          have HK1w := blk_to HK1z hb3
          have HK2w := blk_to HK2x hb3
          clear hb3 HTx3
          go_wp2_with (first | (refine wl_alloc30 rfl rfl ?_) | (refine wl_store30n pz pz rfl _ _ rfl rfl rfl ?_) | (refine wg_load30 K1 P HK1w.out (by rfl) _ rfl rfl ?_) | (refine wg_load30 K2 P HK2w.out (by rfl) _ rfl rfl ?_) | (refine wg_load30 wx3.heap.size pz HK3.out (by rfl) _ rfl rfl ?_) | (refine wg_build30 (by rfl) rfl ?_) | (refine wg_neq P P (by rfl) _ _ rfl rfl rfl ?_) | (refine wg_neq pz pz (by rfl) _ _ rfl rfl rfl ?_))
          go_roundg k2
          case measure => exact Nat.lt_succ_self _
          case rel => exact ⟨k + 1, by simp, by omega, HTy3⟩
    | succ k1 =>
      have hin : i < n := by omega
      have hil : i < l.length := by have := HNn.out; omega
      have c5 : decide ((i : Int) < (n : Int)) = true := decide_eq_true (by omega)
      have c5' : decide (i < n) = true := decide_eq_true (by omega)
      have q5 : IntKind.i64.wrap ((i : Int) + 1) = (i : Int) + 1 := IntWalk.i64_in _ (by omega)
      have p1 : (0 ≤ (i : Int)) = True := eq_true (by omega)
      have p2 : ((i : Int) < (n : Int)) = True := eq_true (by omega)
      obtain ⟨ad, b, o, rfl, hab, hao, x0, x1, x2, hbl⟩ := act_at hA.out i hil
      obtain ⟨x, hx⟩ : ∃ x, l[i] = x := ⟨_, rfl⟩
      rw [hx] at x0 x1 x2
      obtain ⟨j, hj8, hj⟩ := and7 x.at_
      have X1 := Lib.hid x1
      have X2 := Lib.hid x2
      clear x0 x1 x2 hx
      have p3 : (0 ≤ (j : Int)) = True := eq_true (by omega)
      have p4 : ((j : Int) < 8) = True := eq_true (by omega)
      have hu30 := Tryd.underlying30
      have hi30 : (Tryd.prog.info? 30).map (·.size) = some (pcs x.p).length := by rw [pcs_length]; exact size30
      go_wp2_with fail
      have HTd1 := Lib.hid (HT.out.on (Below.refl _ _).drew)
      have hS1 := act_keep HTd1.out.bel X1.out X2.out hbl
      go_region_held3 (fun w' => w'.cell? ⟨b, o + 1, none⟩ = some (.int .i64 x.at_) ∧ w'.rangeAt b (o + 2) (pcs x.p))
        (first | with_reducible exact hS1 | with_reducible assumption)
        (first
          | (go_at_call 12
             refine (write_ok wr.drew Ra Ma va (dd s) (j : Int) x.p (Lib.hid HTd1.out.a) (Lib.hid rfl) (by omega) (by show (j : Int) < 8; omega) (by show (-1 : Int) ≠ 0; omega) (by show (-1 : Int) ≤ -1; omega) (by show (-1 : Int) < _; omega) (by show s.length ≤ 1000; omega)).mono ?_
             rintro e ww1 ⟨rfl, vv1, hm1, hd1, hv1⟩
             have HTw1 := Lib.hid ((HTd1.out.ma hm1 (dd_write hd1) (ft_write hv1)).rot)
             have hSw1 := act_keep HTw1.out.bel X1.out X2.out hbl
             clear hm1 hd1 hv1))
      clear hS1 hSw1 HTd1 HT
      go_wp2_with fail
      have HTd2 := Lib.hid (HTw1.out.on (Below.refl _ _).drew)
      have hS2 := act_keep HTd2.out.bel X1.out X2.out hbl
      go_region_held3 (fun w' => w'.cell? ⟨b, o + 1, none⟩ = some (.int .i64 x.at_) ∧ w'.rangeAt b (o + 2) (pcs x.p))
        (first | with_reducible exact hS2 | with_reducible assumption)
        (first
          | (go_at_call 12
             refine (write_ok ww1.drew Rb Mb vb (dd s) (j : Int) x.p (Lib.hid HTd2.out.a) (Lib.hid rfl) (by omega) (by show (j : Int) < 8; omega) (by show (-1 : Int) ≠ 0; omega) (by show (-1 : Int) ≤ -1; omega) (by show (-1 : Int) < _; omega) (by show s.length ≤ 1000; omega)).mono ?_
             rintro e ww2 ⟨rfl, vv2, hm2, hd2, hv2⟩
             have HTw2 := Lib.hid ((HTd2.out.ma hm2 (dd_write hd2) (ft_write hv2)).rot)
             have hSw2 := act_keep HTw2.out.bel X1.out X2.out hbl
             clear hm2 hd2 hv2))
      clear hS2 hSw2 HTd2 HTw1
      go_wp2_with fail
      have HTd3 := Lib.hid (HTw2.out.on (Below.refl _ _).drew)
      have hS3 := act_keep HTd3.out.bel X1.out X2.out hbl
      go_region_held3 (fun w' => w'.cell? ⟨b, o + 1, none⟩ = some (.int .i64 x.at_) ∧ w'.rangeAt b (o + 2) (pcs x.p))
        (first | with_reducible exact hS3 | with_reducible assumption)
        (first
          | (go_at_call 12
             refine (write_ok ww2.drew Rc Mc vc (dd s) (j : Int) x.p (Lib.hid HTd3.out.a) (Lib.hid rfl) (by omega) (by show (j : Int) < 8; omega) (by show (-1 : Int) ≠ 0; omega) (by show (-1 : Int) ≤ -1; omega) (by show (-1 : Int) < _; omega) (by show s.length ≤ 1000; omega)).mono ?_
             rintro e ww3 ⟨rfl, vv3, hm3, hd3, hv3⟩
             have HTw3 := Lib.hid ((HTd3.out.ma hm3 (dd_write hd3) (ft_write hv3)).rot)
             have hSw3 := act_keep HTw3.out.bel X1.out X2.out hbl
             clear hm3 hd3 hv3))
      clear hS3 hSw3 HTd3 HTw2
      go_wp2_with fail
      go_roundg k1
      case measure => exact Nat.lt_succ_self _
      case rel => exact ⟨i + 1, vv1, vv2, vv3, s ++ [((j : Int), x.p)], by simp, by omega, by rw [List.length_append, hsl]; rfl, HTw3⟩
theorem walk (A : Option Addr) (n c : Nat) (l : List Dk.Act) (mask : Int) (w : World) (hn : l.length = n) (hc : n ≤ c) (hA : Kd.C ak w A n l) (hb : ∀ x ∈ l, (Lit.int .u8 x.dO).wf = true ∧ (Lit.int .i64 x.at_).wf = true ∧ x.mask < 2 ^ 64) (hk : (Lit.int .u64 mask).wf = true) (hg : Hid (Laid w)) :
    Calls Tryd.prog 5 #[.slice A n c, .int .u64 mask] w fun e w' => e = .returned (.bool true) ∧ Below w.heap.size w w' := by
  have hm0 : 0 ≤ mask ∧ mask < 2 ^ 64 := by
    simp [Lit.wf, IntKind.min, IntKind.max, IntKind.bits, IntKind.signed] at hk
    omega
  obtain ⟨mk, rfl⟩ := Int.eq_ofNat_of_zero_le hm0.1
  by_cases h1 : n ≤ 80
  · exact few A n c mk l w hn h1 hc (by omega) (by rw [hn]; exact hA) hg
  · exact many A n c _ w (by omega) hg
end Go.Proofs.YtoanhafbofphgaaDoor.RowDiskMasks
