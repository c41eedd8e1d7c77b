/- DiskSpent, the walk. -/
import Derived.Test.YtoanhafbofphgaaDoorDiskNil
set_option linter.unusedVariables false
set_option linter.unusedSimpArgs false
namespace Go.Proofs.YtoanhafbofphgaaDoor.RowDiskSpent
open Go.RowKit Go.Proofs.YtoanhafbofphgaaDoorW.PrintWords Go.Proofs.YtoanhafbofphgaaDoorW.PrintLast Go.Proofs.YtoanhafbofphgaaDoorW.PrintMore Go.Proofs.YtoanhafbofphgaaDoor.Md Go.Proofs.YtoanhafbofphgaaDoor.Dk
open Go.Extern.Stop (cell)
open Go.Proofs.YtoanhafbofphgaaDoor.Err (Laid IsErr code_nil Chain at_some at_nil)
structure One (W wr : World) (R M : Nat) (v : Value) (d : Dsk) : Prop where
  bel : Below W.heap.size W wr
  dsk : IsD wr R M v d
  fr : Fr W.heap.size R M v
theorem One.on {W wr w2 : World} {R M : Nat} {v : Value} {d : Dsk} (h : One W wr R M v d) (k : Below wr.heap.size wr w2) : One W w2 R M v d := ⟨h.bel.trans (k.mono h.bel.size), h.dsk.on k, h.fr⟩
theorem One.mods {W wr w2 : World} {R M : Nat} {v v' : Value} {d d' : Dsk} (h : One W wr R M v d) (k : Mod (Ft R M v) wr w2) (hd : IsD w2 R M v' d') (hv : ∀ i, Ft R M v' i → Ft R M v i ∨ wr.heap.size ≤ i) : One W w2 R M v' d' :=
  ⟨h.bel.trans (k.below h.bel.size (fun i hi e => by have := h.fr i e; omega)), hd, fun i hi => (hv i hi).elim (h.fr i) (fun e => Nat.le_trans h.bel.size e)⟩
theorem ft_write {R M : Nat} {v v' : Value} {w : World} (hv : v'.ownBlock = v.ownBlock ∨ ∃ b, v'.ownBlock = some b ∧ w.heap.size ≤ b) : ∀ i, Ft R M v' i → Ft R M v i ∨ w.heap.size ≤ i := by
  rintro i (rfl | rfl | e)
  · exact .inl (.inl rfl)
  · exact .inl (.inr (.inl rfl))
  · rcases hv with g | ⟨b, g, hb⟩
    · exact .inl (.inr (.inr (by rw [← g]; exact e)))
    · rw [g] at e; cases e; exact .inr hb
theorem isErr_ft {w w' : World} {R M : Nat} {v u : Value} {d : Dsk} {n : Int} (h : IsErr w u n) (hd : IsD w R M v d) (k : Mod (Ft R M v) w w') : IsErr w' u n :=
  isErr_mod h k (fun b cs hb hf => by
    rcases hf with rfl | rfl | e
    · rw [hd.blk] at hb; simp at hb
    · obtain ⟨es, ck, g, _⟩ := hd.map
      rw [g] at hb; simp at hb
    · obtain ⟨_, inner, ho, _⟩ := hd.soft
      obtain ⟨cells, hc⟩ := own_typed ho b e
      rw [hc] at hb; simp at hb)
theorem many (A : Option Addr) (n c : Nat) (q : Int) (w : World) (hn : 80 < n) (hg : Hid (Laid w)) :
    Calls Tryd.prog 7 #[.int .u8 q, .slice A n c] w fun e w' => e = .returned (.bool true) ∧ Below w.heap.size w w' := by
  have c1 : decide ((n : Int) > 80) = true := decide_eq_true (by omega)
  have c1' : decide (n > 80) = true := decide_eq_true (by omega)
  have hw := Lib.hid (Below.refl w.heap.size w)
  go_enter Tryd.func7, Tryd.ntmps7
  go_wp2_with fail
  refine (awake_c w hg).mono ?_
  rintro e w1 ⟨rfl, hd⟩
  have HB1 := below_to hw (Nat.le_refl _) hd
  clear hd
  go_wp2_with fail
  refine (awake_c _ (Lib.hid (hg.out.on HB1.out))).mono ?_
  rintro e w2 ⟨rfl, hd⟩
  have HB2 := below_to HB1 (Nat.le_refl _) hd
  clear hd
  go_wp2_with fail
  go_ret
  exact ⟨rfl, HB2.out⟩
abbrev ds (s : List (Int × Pg)) (bud : Nat) : Dsk := ⟨8, fun _ => pz, s, false, (bud : Int)⟩
set_option maxHeartbeats 8000000 in
set_option maxRecDepth 100000 in
theorem few (A : Option Addr) (n c : Nat) (q : Int) (kk : Nat) (l : List Dk.Act) (w : World) (hq : (wrap64 q).tmod 30 = (kk : Int)) (hk30 : kk < 30) (hn : l.length = n) (h1 : n ≤ 80) (hc : n ≤ c) (hA : Hid (Kd.C ak w A l.length l)) (hg : Hid (Laid w)) :
    Calls Tryd.prog 7 #[.int .u8 q, .slice A n c] w fun e w' => e = .returned (.bool true) ∧ Below w.heap.size w w' := by
  have c1 : decide ((n : Int) > 80) = false := decide_eq_false (by omega)
  have c1' : decide (n > 80) = false := decide_eq_false (by omega)
  have HNn := Lib.hid hn
  clear hn
  have hw := Lib.hid (Below.refl w.heap.size w)
  go_enter Tryd.func7, Tryd.ntmps7
  go_wp2_with fail
  refine (awake_c w hg).mono ?_
  rintro e w1 ⟨rfl, hd⟩
  have HB1 := below_to hw (Nat.le_refl _) hd
  clear hd hw
  go_wp2_with fail
  refine (new_c w1 8 (by omega) (by omega)).mono ?_
  rintro e w2 ⟨R, M, hR, hM, rfl, hb, hd⟩
  have hs1 := HB1.out.size
  have HO2 := Lib.hid (show One w w2 R M (.slice none 0 0) ⟨8, fun _ => pz, [], false, -1⟩ from ⟨HB1.out.trans (hb.mono hs1), hd, Fr.nil (by omega) (by omega)⟩)
  clear hb hd hR hM hs1 HB1
  go_wp2_with fail
  refine (budget_c w2 R M _ _ (kk : Int) (Lib.hid HO2.out.dsk)).mono ?_
  rintro e w3 ⟨rfl, hm, hd⟩
  have HO3 := Lib.hid (show One w w3 R M (.slice none 0 0) (ds [] kk) from by
    have z := HO2.out.mods (hm.mono (fun _ _ h => .inl h)) hd (fun i hi => .inl hi)
    have e : max (kk : Int) (-1) = (kk : Int) := by omega
    rw [e] at z; exact z)
  clear hm hd HO2
  go_wp2_with fail
  go_loopg [8] n (fun kq v0 wr => ∃ (i : Nat) (v : Value) (s : List (Int × Pg)), v0 = .int .i64 (i : Int) ∧ kq + i = n ∧ s.length = min i kk ∧ Hid (One w wr R M v (ds s (kk - i))))
  case atStart => exact ⟨0, _, [], rfl, by omega, by simp, HO3⟩
  case round =>
    clear HO3
    obtain ⟨i, v, s, rfl, hk, hsl, HO⟩ := hrel
    cases gk with
    | zero =>
      have hin : i = n := by omega
      have c5 : decide ((i : Int) < (n : Int)) = false := decide_eq_false (by omega)
      have c5' : decide (i < n) = false := decide_eq_false (by omega)
      have hib : s.length ≤ 1000 := by omega
      clear hin hk hsl
      go_wp2_with fail
      refine (read_nil wr 0).mono ?_
      rintro e u1 ⟨T, u, rfl, he, hd⟩
      have HO1 := Lib.hid (HO.out.on hd)
      have HE1 := Lib.hid he
      have hbn : Below u1.heap.size u1 (u1.alloc (Obj.cells (pa pz) 30 (0, 0))) := (Below.refl _ _).alloc (Nat.le_refl _) _
      have HO2 := Lib.hid (HO1.out.on hbn)
      have HE2 := Lib.hid (HE1.out.on hbn)
      clear hd he hbn HO1 HE1 HO
      go_wp2_with (first | (refine wl_alloc30 rfl rfl ?_) | (refine wl_store30n pz pz rfl _ _ rfl rfl rfl ?_))
      refine (crash_nil _ 1).mono ?_
      rintro e u3 ⟨rfl, hd⟩
      have HO3 := Lib.hid (HO2.out.on hd)
      have HE3 := Lib.hid (HE2.out.on hd)
      clear hd HO2 HE2
      go_wp2_with fail
      refine (up_nil _).mono ?_
      rintro e u4 ⟨rfl, hd⟩
      have HO4 := Lib.hid (HO3.out.on hd)
      have HE4 := Lib.hid (HE3.out.on hd)
      clear hd HO3 HE3
      go_wp2_with fail
      refine (budget_nil _ 3).mono ?_
      rintro e u5 ⟨rfl, hd⟩
      have HO5 := Lib.hid (HO4.out.on hd)
      have HE5 := Lib.hid (HE4.out.on hd)
      clear hd HO4 HE4
      go_wp2_with fail
      refine (code_nil _).mono ?_
      rintro e u6 ⟨rfl, hd⟩
      have HO6 := Lib.hid (HO5.out.on hd)
      have HE6 := Lib.hid (HE5.out.on hd)
      clear hd HO5 HE5
      go_wp2_with fail
      refine (flush_ok u6 R M v (ds s (kk - i)) (Lib.hid HO6.out.dsk) rfl hib).mono ?_
      rintro e u7 ⟨rfl, hm, hd⟩
      have HE7 := Lib.hid (isErr_ft HE6.out HO6.out.dsk hm)
      have HO7 := Lib.hid (HO6.out.mods hm hd (fun i hi => .inl (ft_nil i hi)))
      clear hd hm HO6 HE6
      go_wp2_with fail
      refine (code_nil _).mono ?_
      rintro e u8 ⟨rfl, hd⟩
      have HO8 := Lib.hid (HO7.out.on hd)
      have HE8 := Lib.hid (HE7.out.on hd)
      clear hd HO7 HE7
      go_wp2_with fail
      refine (Err.code_c _ 1 _ HE8 (Lib.hid (hg.out.on HO8.out.bel))).mono ?_
      rintro e u9 ⟨rfl, hd⟩
      have HO9 := Lib.hid (HO8.out.on hd)
      clear hd HO8 HE8
      go_wp2_with (first | (refine wg_build30 (by rfl) rfl ?_))
      refine (write_nil _ 0 pz).mono ?_
      rintro e u10 ⟨T1, y1, rfl, he, hd⟩
      have HO10 := Lib.hid (HO9.out.on hd)
      have HE10 := Lib.hid he
      clear hd he HO9
      go_wp2_with fail
      refine (Err.code_c _ 1 _ HE10 (Lib.hid (hg.out.on HO10.out.bel))).mono ?_
      rintro e u11 ⟨rfl, hd⟩
      have HO11 := Lib.hid (HO10.out.on hd)
      clear hd HO10 HE10
      go_wp2_with fail
      refine (flush_nil _).mono ?_
      rintro e u12 ⟨T2, y2, rfl, he, hd⟩
      have HO12 := Lib.hid (HO11.out.on hd)
      have HE12 := Lib.hid he
      clear hd he HO11
      go_wp2_with fail
      refine (Err.code_c _ 1 _ HE12 (Lib.hid (hg.out.on HO12.out.bel))).mono ?_
      rintro e u13 ⟨rfl, hd⟩
      have HO13 := Lib.hid (HO12.out.on hd)
      clear hd HO12 HE12
      go_wp2_with fail
      refine (size_nil _).mono ?_
      rintro e u14 ⟨rfl, hd⟩
      have HO14 := Lib.hid (HO13.out.on hd)
      clear hd HO13
      go_wp2_with fail
      refine (soft_nil _).mono ?_
      rintro e u15 ⟨rfl, hd⟩
      have HO15 := Lib.hid (HO14.out.on hd)
      clear hd HO14
      go_wp2_with fail
      go_ret
      exact ⟨rfl, HO15.out.bel⟩
    | succ k1 =>
      have hin : i < n := by omega
      have hil : i < l.length := by have := HNn.out; omega
      have c5 : decide ((i : Int) < (n : Int)) = true := decide_eq_true (by omega)
      have c5' : decide (i < n) = true := decide_eq_true (by omega)
      have q5 : IntKind.i64.wrap ((i : Int) + 1) = (i : Int) + 1 := IntWalk.i64_in _ (by omega)
      have p1 : (0 ≤ (i : Int)) = True := eq_true (by omega)
      have p2 : ((i : Int) < (n : Int)) = True := eq_true (by omega)
      obtain ⟨ad, b, o, rfl, hab, hao, x0, x1, x2, hbl⟩ := act_at hA.out i hil
      obtain ⟨x, hx⟩ : ∃ x, l[i] = x := ⟨_, rfl⟩
      rw [hx] at x0 x1 x2
      obtain ⟨j, hj8, hj⟩ := and7 x.at_
      have X1 := Lib.hid x1
      have X2 := Lib.hid x2
      clear x0 x1 x2 hx
      have p3 : (0 ≤ (j : Int)) = True := eq_true (by omega)
      have p4 : ((j : Int) < 8) = True := eq_true (by omega)
      have hu30 := Tryd.underlying30
      have hi30 : (Tryd.prog.info? 30).map (·.size) = some (pcs x.p).length := by rw [pcs_length]; exact size30
      obtain ⟨P, hP⟩ : ∃ P, rd (ds s (kk - i)) (j : Int) = P := ⟨_, rfl⟩
      have hPP : (P.1 != P.1) = false := by simp
      have y1 := (act_keep HO.out.bel X1.out X2.out hbl).1
      go_wp2_with fail
      refine (read_ok wr R M v (ds s (kk - i)) (j : Int) (Lib.hid HO.out.dsk) (mayN_zero rfl (by omega) (by show (j : Int) < 8; omega)) (by show s.length ≤ 1000; omega)).mono ?_
      rintro e wr1 ⟨rfl, hd⟩
      rw [hP]
      have HOr1 := Lib.hid (HO.out.on hd)
      clear hd HO y1
      go_wp2_with (first | (refine wl_alloc30 rfl rfl ?_) | (refine wl_store30n pz P rfl _ _ rfl rfl rfl ?_))
      have hfr1 := HOr1.out.dsk.ft_lt
      have hbn1 : Below wr1.heap.size wr1 (wr1.alloc (Obj.cells (pa P) 30 (0, 0))) := (Below.refl _ _).alloc (Nat.le_refl _) _
      have HOs1 := Lib.hid (HOr1.out.on hbn1)
      have HK1 := Lib.hid (heap_alloc_last wr1 (Obj.cells (pa P) 30 (0, 0)))
      obtain ⟨K1, hK1⟩ : ∃ K1, wr1.heap.size = K1 := ⟨_, rfl⟩
      obtain ⟨ws1, hws1⟩ : ∃ ws1, wr1.alloc (Obj.cells (pa P) 30 (0, 0)) = ws1 := ⟨_, rfl⟩
      rw [hws1] at HOs1 HK1
      rw [hK1] at HK1 hfr1
      rw [hws1]
      simp only [hK1]
      have hn1 : ∀ i, Ft R M v i → i ≠ K1 := fun i hi e => by have := hfr1 i hi; omega
      clear hbn1 hws1 hK1 hfr1 HOr1
      have HOd := Lib.hid (HOs1.out.on (Below.refl _ _).drew)
      have HKd := Lib.hid (show ws1.drew.heap[K1]? = some (Obj.cells (pa P) 30 (0, 0)) from HK1.out)
      have hS0 := act_keep HOd.out.bel X1.out X2.out hbl
      by_cases hik : i < kk
      · have d1 : decide ((i : Int) < (kk : Int)) = true := decide_eq_true (by omega)
        have d1' : decide (i < kk) = true := decide_eq_true hik
        have d2 : decide ((i : Int) ≥ (kk : Int)) = false := decide_eq_false (by omega)
        have d2' : decide (i ≥ kk) = false := decide_eq_false (by omega)
        have d3 : decide ((kk : Int) ≤ (i : Int)) = false := decide_eq_false (by omega)
        have d3' : decide (kk ≤ i) = false := decide_eq_false (by omega)
        go_region_held3 (fun w' => w'.cell? ⟨b, o + 1, none⟩ = some (.int .i64 x.at_) ∧ w'.rangeAt b (o + 2) (pcs x.p))
          (first | with_reducible exact hS0 | with_reducible assumption)
          (first
            | (go_at_call 12
               refine (write_ok ws1.drew R M v (ds s (kk - i)) (j : Int) x.p (Lib.hid HOd.out.dsk) (Lib.hid rfl) (by omega) (by show (j : Int) < 8; omega) (by show ((kk - i : Nat) : Int) ≠ 0; omega) (by show (-1 : Int) ≤ ((kk - i : Nat) : Int); omega) (by show ((kk - i : Nat) : Int) < _; omega) (by show s.length ≤ 1000; omega)).mono ?_
               rintro e w5 ⟨rfl, v5, hm5, hd5, hv5⟩
               have HO5 := Lib.hid (show One w w5 R M v5 (ds (s ++ [((j : Int), x.p)]) (kk - (i + 1))) from by
                 have z := HOd.out.mods hm5 hd5 (ft_write hv5)
                 have e : max (((kk - i : Nat) : Int) - 1) (-1) = ((kk - (i + 1) : Nat) : Int) := by omega
                 rw [show (ds s (kk - i)).budget = ((kk - i : Nat) : Int) from rfl, e] at z
                 exact z)
               have hS5 := act_keep HO5.out.bel X1.out X2.out hbl
               clear hm5 hd5 hv5))
        have y5 := hS5.1
        clear hS0 hS5 HOd HKd HK1 HOs1
        obtain ⟨P2, hP2⟩ : ∃ P2, rd (ds (s ++ [((j : Int), x.p)]) (kk - (i + 1))) (j : Int) = P2 := ⟨_, rfl⟩
        have hsl5 : (s ++ [((j : Int), x.p)]).length = min (i + 1) kk := by rw [List.length_append, hsl]; simp; omega
        obtain ⟨s5, hs5⟩ : ∃ s5, s ++ [((j : Int), x.p)] = s5 := ⟨_, rfl⟩
        rw [hs5] at HO5 hP2 hsl5
        clear hs5
        go_wp2_with fail
        refine (read_ok w5 R M v5 (ds s5 (kk - (i + 1))) (j : Int) (Lib.hid HO5.out.dsk) (mayN_zero rfl (by omega) (by show (j : Int) < 8; omega)) (by show s5.length ≤ 1000; omega)).mono ?_
        rintro e wr2 ⟨rfl, hd⟩
        rw [hP2]
        have HOr2 := Lib.hid (HO5.out.on hd)
        clear hd HO5 y5
        have hfr2 := HOr2.out.dsk.ft_lt
        have hbn2 : Below wr2.heap.size wr2 (wr2.alloc (Obj.cells (pa P2) 30 (0, 0))) := (Below.refl _ _).alloc (Nat.le_refl _) _
        have HOs2 := Lib.hid (HOr2.out.on hbn2)
        have HK2 := Lib.hid (heap_alloc_last wr2 (Obj.cells (pa P2) 30 (0, 0)))
        clear hfr2 hbn2 HOr2
        go_wp2_with (first | (refine wl_alloc30 rfl rfl ?_) | (refine wl_store30n pz P2 rfl _ _ rfl rfl rfl ?_))
        refine (code_nil _).mono ?_
        rintro e w7 ⟨rfl, hd⟩
        have HO7 := Lib.hid (HOs2.out.on hd)
        clear hd HOs2
        go_wp2_with fail
        go_roundg k1
        case measure => exact Nat.lt_succ_self _
        case rel => exact ⟨i + 1, v5, s5, by simp, by omega, hsl5, HO7⟩
      · have d1 : decide ((i : Int) < (kk : Int)) = false := decide_eq_false (by omega)
        have d1' : decide (i < kk) = false := decide_eq_false hik
        have d2 : decide ((i : Int) ≥ (kk : Int)) = true := decide_eq_true (by omega)
        have d2' : decide (i ≥ kk) = true := decide_eq_true (by omega)
        have d3 : decide ((kk : Int) ≤ (i : Int)) = true := decide_eq_true (by omega)
        have d3' : decide (kk ≤ i) = true := decide_eq_true (by omega)
        have hz : kk - i = 0 := by omega
        have hsk : s.length = kk := by omega
        rw [hz] at HOd hP
        go_region_held3 (fun w' => w'.cell? ⟨b, o + 1, none⟩ = some (.int .i64 x.at_) ∧ w'.rangeAt b (o + 2) (pcs x.p))
          (first | with_reducible exact hS0 | with_reducible assumption)
          (first
            | (go_at_call 12
               refine (write_spent ws1.drew R M v (ds s 0) (j : Int) x.p (Lib.hid HOd.out.dsk) (mayN_zero rfl (by omega) (by show (j : Int) < 8; omega)) rfl).mono ?_
               rintro e w5 ⟨T, u, rfl, he5, hd5⟩
               have HO5 := Lib.hid (HOd.out.on hd5)
               have HE5 := Lib.hid he5
               have HK5 := blk_to HKd hd5
               have hS5 := act_keep HO5.out.bel X1.out X2.out hbl
               clear hd5 he5))
        have y5 := hS5.1
        clear hS0 hS5 HOd HKd HK1 HOs1
        go_wp2_with fail
        refine (read_ok w5 R M v (ds s 0) (j : Int) (Lib.hid HO5.out.dsk) (mayN_zero rfl (by omega) (by show (j : Int) < 8; omega)) (by show s.length ≤ 1000; omega)).mono ?_
        rintro e wr2 ⟨rfl, hd⟩
        rw [hP]
        have HOr2 := Lib.hid (HO5.out.on hd)
        have HE6 := Lib.hid (HE5.out.on hd)
        have HK6 := blk_to HK5 hd
        clear hd HO5 y5 HE5 HK5
        have hfr2 := HOr2.out.dsk.ft_lt
        have hbn2 : Below wr2.heap.size wr2 (wr2.alloc (Obj.cells (pa P) 30 (0, 0))) := (Below.refl _ _).alloc (Nat.le_refl _) _
        have HOs2 := Lib.hid (HOr2.out.on hbn2)
        have HK2 := Lib.hid (heap_alloc_last wr2 (Obj.cells (pa P) 30 (0, 0)))
        have HE7 := Lib.hid (HE6.out.on hbn2)
        have HK7 := blk_to HK6 hbn2
        clear hfr2 hbn2 HOr2 HE6 HK6
        go_wp2_with (first | (refine wl_alloc30 rfl rfl ?_) | (refine wl_store30n pz P rfl _ _ rfl rfl rfl ?_))
        refine (Err.code_c _ 10 _ HE7 (Lib.hid (hg.out.on HOs2.out.bel))).mono ?_
        rintro e w7 ⟨rfl, hd⟩
        have HO7 := Lib.hid (HOs2.out.on hd)
        have HE8 := Lib.hid (HE7.out.on hd)
        have HK8 := blk_to HK7 hd
        have HKb8 := blk_to HK2 hd
        clear hd HOs2 HE7 HK7 HK2
        go_wp2_with fail
        refine (Err.code_c _ 10 _ HE8 (Lib.hid (hg.out.on HO7.out.bel))).mono ?_
        rintro e w8 ⟨rfl, hd⟩
        have HO8 := Lib.hid (HO7.out.on hd)
        have HK9 := blk_to HK8 hd
        have HKb9 := blk_to HKb8 hd
        clear hd HO7 HE8 HK8 HKb8
        go_wp2_with (first | (refine wg_load30 wr2.heap.size P HKb9.out (by rfl) _ rfl rfl ?_) | (refine wg_load30 K1 P HK9.out (by rfl) _ rfl rfl ?_) | (refine wg_neq P P (by rfl) _ _ rfl rfl rfl ?_))
        refine (soft_c _ R M _ _ (Lib.hid HO8.out.dsk)).mono ?_
        rintro e w9 ⟨rfl, hd⟩
        have HO9 := Lib.hid (HO8.out.on hd)
        rw [show (((ds s 0).soft.length : Nat) : Int) = (kk : Int) from by show ((s.length : Nat) : Int) = _; rw [hsk]]
        clear hd HO8
        go_wp2_with fail
        go_roundg k1
        case measure => exact Nat.lt_succ_self _
        case rel => exact ⟨i + 1, v, s, by simp, by omega, by omega, by rw [show kk - (i + 1) = 0 by omega]; exact HO9⟩
theorem walk (q : Int) (A : Option Addr) (n c : Nat) (l : List Dk.Act) (w : World) (hk : (Lit.int .u8 q).wf = true) (hn : l.length = n) (hc : n ≤ c) (hA : Kd.C ak w A n l) (hb : ∀ x ∈ l, (Lit.int .u8 x.dO).wf = true ∧ (Lit.int .i64 x.at_).wf = true ∧ x.mask < 2 ^ 64) (hg : Hid (Laid w)) :
    Calls Tryd.prog 7 #[.int .u8 q, .slice A n c] w fun e w' => e = .returned (.bool true) ∧ Below w.heap.size w w' := by
  have hm0 : 0 ≤ q ∧ q ≤ 255 := by
    simp [Lit.wf, IntKind.min, IntKind.max, IntKind.bits, IntKind.signed] at hk
    omega
  have hw : wrap64 q = q := by unfold wrap64; omega
  have hq : (wrap64 q).tmod 30 = ((q % 30).toNat : Int) := by rw [hw, Int.tmod_eq_emod_of_nonneg hm0.1]; omega
  by_cases h1 : n ≤ 80
  · exact few A n c q _ l w hq (by omega) hn h1 hc (by rw [hn]; exact hA) hg
  · exact many A n c q w (by omega) hg
end Go.Proofs.YtoanhafbofphgaaDoor.RowDiskSpent
