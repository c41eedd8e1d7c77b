/- Words that the proof uses. -/
import Derived.Test.YtaodgnladjafoaaGreatDoorStoreAny2V
import Derived.Test.YtaodgnladjafoaaGreatDoorPagesArgV
import Derived.Test.YtaodgnladjafoaaGreatDoorManiUses0V
set_option linter.unusedVariables false
set_option linter.unusedSimpArgs false
namespace Go.Proofs.YtaodgnladjafoaaGreatDoor.Sto
open Go.RowKit Go.Proofs.YtaodgnladjafoaaGreatDoorW.PrintWords Go.Proofs.YtaodgnladjafoaaGreatDoorW.PrintLast Go.Proofs.YtaodgnladjafoaaGreatDoorW.PrintMore Go.Proofs.YtaodgnladjafoaaGreatDoor.Md Go.Proofs.YtaodgnladjafoaaGreatDoor.Mni Go.Proofs.YtaodgnladjafoaaGreatDoor.QStoreLasts
open Go.Proofs.YtaodgnladjafoaaGreatDoor.Dk (Dsk IsD Ft mayN rd Pg pa pz pcs write_ok wl_loadBx wl_loadPg page_at Fr)
open Go.Proofs.YtaodgnladjafoaaGreatDoor.Blb (One ft_new)
open Go.Proofs.YtaodgnladjafoaaGreatDoor.Slt (Sl switched bestOf slA slotOf pick pick_z pick_zz slotOf_zero slotOf_nonneg bestOf_two best_c BestAt)
open Go.Proofs.YtaodgnladjafoaaGreatDoor.Err (Laid IsErr code_nil code_c Chain at_some at_nil)
theorem best_zeroA (d : Dsk) (h : ¬ 0 < (bestOf d 2).g) : bestOf d 2 = Sl.zero := by
  rw [bestOf_two] at h ⊢
  have ha := slotOf_nonneg (rd d 0)
  have hb := slotOf_nonneg (rd d 1)
  have l1 : ∀ {a b : Sl}, a.g < b.g → pick a b = b := fun h => by unfold pick; exact if_pos h
  have l2 : ∀ {a b : Sl}, ¬ a.g < b.g → pick a b = a := fun h => by unfold pick; exact if_neg h
  by_cases h0 : 0 < (slotOf (rd d 0)).g
  · rw [pick_z h0] at h
    by_cases h1 : (slotOf (rd d 0)).g < (slotOf (rd d 1)).g
    · rw [l1 h1] at h; omega
    · rw [l2 h1] at h; omega
  · rw [slotOf_zero h0, pick_zz] at h ⊢
    by_cases h1 : 0 < (slotOf (rd d 1)).g
    · rw [pick_z h1] at h; omega
    · rw [slotOf_zero h1, pick_zz]
theorem sizes_of {m : Man} {n : Int} (h : rightM m n = true) : m.snaps.length ≤ 1000000 ∧ (∀ l ∈ m.snaps, l.length ≤ 1000000) ∧ m.refs.length ≤ 1000000 ∧ m.stack.length ≤ 1000000 := by
  obtain ⟨_, _, h3, _⟩ := rightM_parts h
  unfold sizedB at h3
  rw [Bool.and_eq_true, decide_eq_true_eq] at h3
  obtain ⟨⟨h4, h5, h6, _⟩, h7⟩ := h3
  refine ⟨by omega, fun l hl => ?_, by omega, by omega⟩
  by_cases h9 : l.length > 9
  · have : anyLong m.snaps = true := List.any_eq_true.2 ⟨l, hl, decide_eq_true h9⟩
    rw [this] at h7
    cases h7
  · omega
theorem gen_o (Z R M H : Nat) (v : Value) (o : Mni.Loc) (m : Man) (d : Dsk) (b0 b1 b2 b3 : Int) (w : World) (h : Hid (IsS w ⟨Z, R, M, H, v, .slice none 0 0⟩ o m (sO d ⟨b0, b1, b2, b3⟩))) :
    Calls Tryz.prog 15 #[.pointer (some ⟨Z, 0, none⟩)] w fun e w' => e = .returned (.int .u32 b0) ∧ Below w.heap.size w w' := Gen_c Z R M H _ _ o m _ w h
theorem Dz.wr {d : Dsk} {k : Nat} (h : Dz d k) (j : Int) (p : Pg) : Dz { d with soft := d.soft ++ [(j, p)], budget := max (d.budget - 1) (-1) } (k + 1) :=
  ⟨h.dn, h.sz, by show max (d.budget - 1) (-1) = -1; rw [h.bu]; decide, by show (d.soft ++ [(j, p)]).length ≤ _; rw [List.length_append, List.length_singleton]; have := h.so; omega⟩
set_option maxHeartbeats 2000000 in
set_option maxRecDepth 100000 in
theorem any_out (p q : Pg) (A : Option Addr) (n c : Nat) (W : World) (hn : 30 < n) : Calls Tryz.prog 5 #[Dk.pv p, Dk.pv q, .slice A n c] W fun e w' => e = .returned (.bool true) ∧ Below W.heap.size W w' := by
  have hpv := Dk.pv_eq p
  have hqv := Dk.pv_eq q
  have c1 : decide ((n : Int) > 30) = true := decide_eq_true (by omega)
  have c1b : decide (n > 30) = true := decide_eq_true hn
  have c2 : decide ((30 : Int) < (n : Int)) = true := decide_eq_true (by omega)
  have c2b : decide (30 < n) = true := decide_eq_true hn
  go_enter Tryz.func5, Tryz.ntmps5
  go_wp2_with fail
  obtain ⟨_, _, HX1⟩ := Slt.alloc2 W (Obj.cells (pa p) 58 (0, 0)) (Obj.cells (pa q) 58 (0, 0))
  generalize ((W.alloc (Obj.cells (pa p) 58 (0, 0))).alloc (Obj.cells (pa q) 58 (0, 0))) = w1 at *
  refine (awake_c w1).mono ?_
  rintro e w2 ⟨rfl, hd⟩
  have HX2 := below_to HX1 (Nat.le_refl _) hd
  clear hd
  go_wp2_with fail
  refine (awake_c w2).mono ?_
  rintro e w3 ⟨rfl, hd⟩
  have HX3 := below_to HX2 (Nat.le_refl _) hd
  clear hd
  go_wp2_with fail
  go_ret
  exact ⟨rfl, HX3.out⟩
set_option maxHeartbeats 16000000 in
set_option maxRecDepth 100000 in
theorem any_in (p q : Pg) (A : Option Addr) (n c : Nat) (xs : List Pg) (W : World) (hxl : xs.length = n) (hn : n ≤ 30) (HA : Hid (Kd.C Dk.pgk W A n xs)) (HLW : Hid (Laid W)) : Calls Tryz.prog 5 #[Dk.pv p, Dk.pv q, .slice A n c] W fun e w' => e = .returned (.bool true) ∧ Below W.heap.size W w' := by
  have hpv := Dk.pv_eq p
  have hqv := Dk.pv_eq q
  have c1 : decide ((n : Int) > 30) = false := decide_eq_false (by omega)
  have c1b : decide (n > 30) = false := decide_eq_false (by omega)
  have c2 : decide ((30 : Int) < (n : Int)) = false := decide_eq_false (by omega)
  have c2b : decide (30 < n) = false := decide_eq_false (by omega)
  have HXl := Lib.hid hxl
  clear hxl
  go_enter Tryz.func5, Tryz.ntmps5
  go_wp2_with fail
  obtain ⟨HP1, HQ1, HB1⟩ := Slt.alloc2 W (Obj.cells (pa p) 58 (0, 0)) (Obj.cells (pa q) 58 (0, 0))
  obtain ⟨B, hB⟩ : ∃ B, W.heap.size = B := ⟨_, rfl⟩
  rw [hB] at HP1 HQ1
  (try rw [alloc_size])
  simp only [hB]
  generalize ((W.alloc (Obj.cells (pa p) 58 (0, 0))).alloc (Obj.cells (pa q) 58 (0, 0))) = w1 at *
  refine (awake_c w1).mono ?_
  rintro e w2 ⟨rfl, hd⟩
  have HP2 := blk_to HP1 hd
  have HQ2 := blk_to HQ1 hd
  have HB2 := below_to HB1 (Nat.le_refl _) hd
  clear hd HP1 HQ1 HB1
  go_wp2_with fail
  clear c1 c1b c2 c2b
  refine (Dk.new_c w2 40 (by decide) (by decide)).mono ?_
  rintro e w3 ⟨R, M, hR, hM, rfl, hd, hdd⟩
  have hs2 := HB2.out.size
  have HP3 := blk_to HP2 hd
  have HQ3 := blk_to HQ2 hd
  have hb3 := (below_to HB2 (Nat.le_refl _) hd).out
  have hPlt : B < w2.heap.size := Err.lt_of_block HP2.out
  have hQlt : B + 1 < w2.heap.size := Err.lt_of_block HQ2.out
  have HPn3 := Lib.hid (show ∀ i, Ft R M (.slice none 0 0) i → i ≠ B ∧ i ≠ B + 1 from fun i h => by have := Fr.nil hR hM i h; omega)
  have HO3 := Lib.hid (show One W w3 R M (.slice none 0 0) (d0 40) from ⟨hb3, hdd, Fr.nil (by omega) (by omega)⟩)
  have hz3 : Dz (d0 40) 0 := ⟨rfl, rfl, rfl, Nat.le_refl _⟩
  clear hd hdd hR hM hb3 HP2 HQ2 HB2 hs2 hPlt hQlt
  go_wp2_with (first | (refine wl_loadBx B p HP3.out rfl _ rfl rfl ?_))
  refine (write_ok w3 R M _ (d0 40) 0 p (Lib.hid HO3.out.dsk) (Lib.hid hz3.dn) (by decide) (by rw [hz3.sz]; decide) (by rw [hz3.bu]; decide) (by rw [hz3.bu]; decide) (by rw [hz3.bu]; decide) (by have := hz3.so; omega)).mono ?_
  rintro e w4 ⟨rfl, v4, hm, hdd, hv⟩
  have HP4 := HP3
  have HQ4 := Lib.hid (hm.blk HQ3.out (fun hf => (HPn3.out _ hf).2 rfl))
  have HPn4 := HPn3
  have HO4 := Lib.hid (HO3.out.mods hm hdd (ft_new hv))
  have hz4 := hz3.wr 0 p
  obtain ⟨d4, hd4⟩ : ∃ d4, ({ (d0 40) with soft := (d0 40).soft ++ [((0 : Int), p)], budget := max ((d0 40).budget - 1) (-1) } : Dsk) = d4 := ⟨_, rfl⟩
  rw [hd4] at HO4 hz4
  clear hm hdd hv hd4 HO3 hz3 HP3 HQ3 HPn3
  go_wp2_with (first | (refine wl_loadBx (B + 1) q HQ4.out rfl _ rfl rfl ?_))
  refine (write_ok w4 R M _ d4 1 q (Lib.hid HO4.out.dsk) (Lib.hid hz4.dn) (by decide) (by rw [hz4.sz]; decide) (by rw [hz4.bu]; decide) (by rw [hz4.bu]; decide) (by rw [hz4.bu]; decide) (by have := hz4.so; omega)).mono ?_
  rintro e w5 ⟨rfl, v5, hm, hdd, hv⟩
  have HO5 := Lib.hid (HO4.out.mods hm hdd (ft_new hv))
  have hz5 := hz4.wr 1 q
  obtain ⟨d5, hd5⟩ : ∃ d5, ({ d4 with soft := d4.soft ++ [((1 : Int), q)], budget := max (d4.budget - 1) (-1) } : Dsk) = d5 := ⟨_, rfl⟩
  rw [hd5] at HO5 hz5
  clear hm hdd hv hd5 HO4 hz4 HP4 HQ4 HPn4
  go_wp2_with fail
  go_loopg [9] n (fun kq v9 wr => ∃ (j : Nat) (v : Value) (d : Dsk), v9 = .int .i64 (j : Int) ∧ kq + j = n ∧ Hid (One W wr R M v d) ∧ Dz d (2 + j))
  case atStart => exact ⟨0, _, _, rfl, rfl, HO5, hz5⟩
  case round =>
    clear HO5 hz5
    obtain ⟨j, v, d, rfl, hk, HO, hz⟩ := hrel
    cases gk with
    | succ k1 =>
      have hj : j < n := by omega
      have hjl : j < xs.length := by rw [HXl.out]; exact hj
      have d1 : decide ((j : Int) < (n : Int)) = true := decide_eq_true (by omega)
      have d1b : decide (j < n) = true := decide_eq_true hj
      have p1 : (0 ≤ (j : Int)) = True := eq_true (by omega)
      have p2 : ((j : Int) < (n : Int)) = True := eq_true (by omega)
      have q5 : IntKind.i64.wrap ((j : Int) + 1) = (j : Int) + 1 := IntWalk.i64_in _ (by omega)
      have q6 : IntKind.i64.wrap (2 + (j : Int)) = 2 + (j : Int) := IntWalk.i64_in _ (by omega)
      obtain ⟨x, hx⟩ : ∃ x, xs[j]? = some x := ⟨xs[j], List.getElem?_eq_getElem hjl⟩
      obtain ⟨ad, ead, hpg⟩ := page_at (C_to HA.out HO.out.bel) j x hx
      have HPg := Lib.hid hpg
      obtain rfl : A = some ad := ead
      clear hx hpg
      go_wp2_with (first | (refine wl_loadPg (ad.add (j * 64)) x HPg.out rfl _ rfl rfl ?_))
      refine (write_ok wr R M _ d (2 + (j : Int)) x (Lib.hid HO.out.dsk) (Lib.hid hz.dn) (by omega) (by rw [hz.sz]; omega) (by rw [hz.bu]; decide) (by rw [hz.bu]; decide) (by rw [hz.bu]; decide) (by have := hz.so; omega)).mono ?_
      rintro e w7 ⟨rfl, v7, hm, hdd, hv⟩
      have HO7 := Lib.hid (HO.out.mods hm hdd (ft_new hv))
      have hz7 := hz.wr (2 + (j : Int)) x
      clear hm hdd hv HO hz HPg
      go_wp2_with fail
      go_roundg k1
      case measure => exact Nat.lt_succ_self _
      case rel => exact ⟨j + 1, _, _, by simp, by omega, HO7, hz7⟩
    | zero =>
      have hj : j = n := by omega
      have d1 : decide ((j : Int) < (n : Int)) = false := decide_eq_false (by omega)
      have d1b : decide (j < n) = false := decide_eq_false (by omega)
      have hz : Dz d 32 := ⟨hz.dn, hz.sz, hz.bu, by have := hz.so; omega⟩
      clear hk hj HA HXl
      go_wp2_with fail
      clear d1 d1b
      refine (best_c wr R M v d (Lib.hid HO.out.dsk) (by have := hz.so; omega)).mono ?_
      rintro e w9 hba
      have m0 : mayN d 0 = 0 := may_ofA hz.dn (by decide) (by rw [hz.sz]; decide)
      have m1 : mayN d 1 = 0 := may_ofA hz.dn (by decide) (by rw [hz.sz]; decide)
      have HM := Lib.hid (And.intro m0 m1)
      have HO9 := Lib.hid (HO.out.on hba.1)
      have HBa := Lib.hid hba.2
      clear hba m0 m1 HO
      by_cases hp : 0 < (bestOf d 2).g
      · have e9 := HBa.out.1 HM.out.1 HM.out.2 hp
        subst e9
        obtain ⟨⟨b0, b1, b2, b3⟩, hbq⟩ : ∃ bq, bestOf d 2 = bq := ⟨_, rfl⟩
        rw [hbq]
        have HBq := Lib.hid hbq
        clear hbq
        go_wp2_with (first | (refine Slt.wl_allocS rfl rfl ?_) | (refine Slt.wl_storeSn 0 0 0 0 b0 b1 b2 b3 rfl _ _ rfl rfl (by rfl) ?_))
        have hd : Below w9.heap.size w9 (w9.alloc (Obj.cells (slA b0 b1 b2 b3) 62 (0, 0))) := (Below.refl _ _).alloc (Nat.le_refl _) _
        have hx := heap_alloc_last w9 (Obj.cells (slA b0 b1 b2 b3) 62 (0, 0))
        have HXn := Lib.hid (show ¬ Ft R M v w9.heap.size from fun f => Nat.lt_irrefl _ (HO9.out.dsk.ft_lt _ f))
        have HO10 := Lib.hid (HO9.out.on hd)
        obtain ⟨X, hX⟩ : ∃ X, w9.heap.size = X := ⟨_, rfl⟩
        rw [hX] at hx HXn
        have HX10 := Lib.hid (show (w9.alloc (Obj.cells (slA b0 b1 b2 b3) 62 (0, 0))).heap[X]? = some (Obj.cells (bestOf d 2).a 62 (0, 0)) by rw [hx, HBq.out])
        simp only [hX]
        generalize (w9.alloc (Obj.cells (slA b0 b1 b2 b3) 62 (0, 0))) = w10 at *
        clear hd hx hX HO9
        refine (Open_any w10 R M v d (Lib.hid HO10.out.dsk) (by rw [hz.sz]; decide) (by rw [hz.sz]; decide) HM.out.1 HM.out.2 (Lib.hid hz.dn) (by have := hz.so; omega)).mono ?_
        rintro e w11 ⟨hd, hop⟩
        have HO11 := Lib.hid (HO10.out.on hd)
        have HX11 := blk_to HX10 hd
        rw [HBq.out, hz.sz] at hop
        clear hd HO10 HX10
        rcases hop with ⟨Z, rfl, _, H, o, m, hrm, hi⟩ | ⟨T, u, rfl, k, he, hk0, _⟩
        · have HS11 := Lib.hid hi
          obtain ⟨z1, z2, z3, z4⟩ := sizes_of hrm
          have HRm := Lib.hid hrm
          have tb : (b0 != b0) = false := by simp
          clear hi hrm
          go_wp2_with fail
          refine (code_nil w11).mono ?_
          rintro e w12 ⟨rfl, hd⟩
          have HO12 := Lib.hid (HO11.out.on hd)
          have HX12 := blk_to HX11 hd
          have HS12 := Lib.hid (HS11.out.on hd)
          clear hd HO11 HX11 HS11
          go_upto_region 13 with fail
          have hd : Below w12.heap.size w12 (World.drew w12) := (Below.refl _ _).drew
          have cX := fun {w1 : World} (h : w1.heap[X]? = some (Obj.cells (bestOf d 2).a 62 (0, 0))) => (show w1.cell? ⟨X, 0, none⟩ = some (.int .u32 b0) by rw [HBq.out] at h; exact Err.cell_of_blk h 0)
          have HO13 := Lib.hid (HO12.out.on hd)
          have HX13 := blk_to HX12 hd
          have HS13 := Lib.hid (HS12.out.on hd)
          refine start_ (n := 16) (S := fun w' => w'.cell? ⟨X, 0, none⟩ = some (.int .u32 b0)) (ds := []) #[false, false, false, false, false, false, false, false, false, false, false, false, false, false, false, false] (by kernel_rfl) rfl rfl ((cX HX13.out)) (fun hHeld => ?_)
          refine pure_ (i := 0) (N := some 72) (v := ?_) (a' := ?_) #[true, false, false, false, false, false, false, false, false, false, false, false, false, false, false, false] rfl rfl (by kernel_rfl) (fun _ _ _ h => h) (Or.inl ⟨by rfl, ?_⟩) ?_ ?_
          rotate_left
          · intro w'
            go_simp
            with_reducible rfl
          rotate_left
          · simp only [Act.put, List.setIfInBounds_toArray, List.set_cons_zero, List.set_cons_succ, i64_w, i32_w]
            rfl
          refine one_ (i := 1) (N := some 73) #[true, true, false, false, false, false, false, false, false, false, false, false, false, false, false, false] rfl rfl (by kernel_rfl) (by decide) (fun K hK => ?_)
          refine goes_ Tryz.func10 (by kernel_rfl) rfl #[.nilIface] (by rfl) rfl rfl (by simp only [List.map_toArray, List.map_cons, List.map_nil]; rfl) ?_
          with_reducible refine (code_nil _).mono ?_
          rintro e w14 ⟨rfl, hd⟩
          refine ⟨_, rfl, ?_⟩
          have HO14 := Lib.hid (HO13.out.on hd)
          have HX14 := blk_to HX13 hd
          have HS14 := Lib.hid (HS13.out.on hd)
          clear hd HO13 HX13 HS13
          refine hK.out _ _ ((cX HX14.out)) (fun hHeld => ?_)
          clear hK K
          refine norm_ (a' := ?_) ?_ ?_
          rotate_left
          · show Act.put _ (some 73) _ = _
            simp only [Act.put, List.setIfInBounds_toArray, List.set_cons_zero, List.set_cons_succ, i64_w, i32_w]
            rfl
          refine pure_ (i := 2) (N := some 74) (v := ?_) (a' := ?_) #[true, true, true, false, false, false, false, false, false, false, false, false, false, false, false, false] rfl rfl (by kernel_rfl) (fun _ _ _ h => h) (Or.inl ⟨by rfl, ?_⟩) ?_ ?_
          rotate_left
          · intro w'
            go_simp
            with_reducible rfl
          rotate_left
          · simp only [Act.put, List.setIfInBounds_toArray, List.set_cons_zero, List.set_cons_succ, i64_w, i32_w]
            rfl
          refine pure_ (i := 3) (N := some 75) (v := ?_) (a' := ?_) #[true, true, true, true, false, false, false, false, false, false, false, false, false, false, false, false] rfl rfl (by kernel_rfl) (fun _ _ _ h => h) (Or.inl ⟨by rfl, ?_⟩) ?_ ?_
          rotate_left
          · intro w'
            go_simp
            with_reducible rfl
          rotate_left
          · simp only [Act.put, List.setIfInBounds_toArray, List.set_cons_zero, List.set_cons_succ, i64_w, i32_w]
            rfl
          refine pure_ (i := 4) (N := some 76) (v := ?_) (a' := ?_) #[true, true, true, true, true, false, false, false, false, false, false, false, false, false, false, false] rfl rfl (by kernel_rfl) (fun _ _ _ h => h) (Or.inl ⟨by rfl, ?_⟩) ?_ ?_
          rotate_left
          · intro w'
            go_simp
            with_reducible rfl
          rotate_left
          · simp only [Act.put, List.setIfInBounds_toArray, List.set_cons_zero, List.set_cons_succ, i64_w, i32_w]
            rfl
          refine pure_ (i := 6) (N := some 78) (v := ?_) (a' := ?_) #[true, true, true, true, true, false, true, false, false, false, false, false, false, false, false, false] rfl rfl (by kernel_rfl) (fun _ _ _ h => h) (Or.inl ⟨by rfl, ?_⟩) ?_ ?_
          rotate_left
          · intro w'
            go_simp
            with_reducible rfl
          rotate_left
          · simp only [Act.put, List.setIfInBounds_toArray, List.set_cons_zero, List.set_cons_succ, i64_w, i32_w]
            rfl
          refine take_ (i := 7) (N := some 79) (v := ?_) (a' := ?_) #[true, true, true, true, true, false, true, true, false, false, false, false, false, false, false, false] rfl rfl (by kernel_rfl) (fun _ _ _ h => h) (Or.inl ⟨by rfl, ?_⟩) hHeld ?_ ?_
          rotate_left
          · intro w' s0
            go_simp
            with_reducible rfl
          rotate_left
          · simp only [Act.put, List.setIfInBounds_toArray, List.set_cons_zero, List.set_cons_succ, i64_w, i32_w]
            rfl
          refine one_ (i := 5) (N := some 77) #[true, true, true, true, true, true, true, true, false, false, false, false, false, false, false, false] rfl rfl (by kernel_rfl) (by decide) (fun K hK => ?_)
          refine goes_ Tryz.func15 (by kernel_rfl) rfl #[.pointer (some ⟨Z, 0, none⟩)] (by rfl) rfl rfl (by simp only [List.map_toArray, List.map_cons, List.map_nil]; rfl) ?_
          with_reducible refine (gen_o Z R M H v o m d b0 b1 b2 b3 _ HS14).mono ?_
          rintro e w15 ⟨rfl, hd⟩
          refine ⟨_, rfl, ?_⟩
          have HO15 := Lib.hid (HO14.out.on hd)
          have HX15 := blk_to HX14 hd
          have HS15 := Lib.hid (HS14.out.on hd)
          clear hd HO14 HX14 HS14
          refine hK.out _ _ ((cX HX15.out)) (fun hHeld => ?_)
          clear hK K
          refine norm_ (a' := ?_) ?_ ?_
          rotate_left
          · show Act.put _ (some 77) _ = _
            simp only [Act.put, List.setIfInBounds_toArray, List.set_cons_zero, List.set_cons_succ, i64_w, i32_w]
            rfl
          refine pure_ (i := 8) (N := some 80) (v := ?_) (a' := ?_) #[true, true, true, true, true, true, true, true, true, false, false, false, false, false, false, false] rfl rfl (by kernel_rfl) (fun _ _ _ h => h) (Or.inl ⟨by rfl, ?_⟩) ?_ ?_
          rotate_left
          · intro w'
            go_simp
            with_reducible rfl
          rotate_left
          · simp only [Act.put, List.setIfInBounds_toArray, List.set_cons_zero, List.set_cons_succ, i64_w, i32_w]
            rfl
          refine pure_ (i := 9) (N := some 81) (v := ?_) (a' := ?_) #[true, true, true, true, true, true, true, true, true, true, false, false, false, false, false, false] rfl rfl (by kernel_rfl) (fun _ _ _ h => h) (Or.inl ⟨by rfl, ?_⟩) ?_ ?_
          rotate_left
          · intro w'
            go_simp
            with_reducible rfl
          rotate_left
          · simp only [Act.put, List.setIfInBounds_toArray, List.set_cons_zero, List.set_cons_succ, i64_w, i32_w]
            rfl
          refine pure_ (i := 10) (N := some 82) (v := ?_) (a' := ?_) #[true, true, true, true, true, true, true, true, true, true, true, false, false, false, false, false] rfl rfl (by kernel_rfl) (fun _ _ _ h => h) (Or.inl ⟨by rfl, ?_⟩) ?_ ?_
          rotate_left
          · intro w'
            go_simp
            with_reducible rfl
          rotate_left
          · simp only [Act.put, List.setIfInBounds_toArray, List.set_cons_zero, List.set_cons_succ, i64_w, i32_w]
            rfl
          refine pure_ (i := 11) (N := some 83) (v := ?_) (a' := ?_) #[true, true, true, true, true, true, true, true, true, true, true, true, false, false, false, false] rfl rfl (by kernel_rfl) (fun _ _ _ h => h) (Or.inl ⟨by rfl, ?_⟩) ?_ ?_
          rotate_left
          · intro w'
            go_simp
            with_reducible rfl
          rotate_left
          · simp only [Act.put, List.setIfInBounds_toArray, List.set_cons_zero, List.set_cons_succ, i64_w, i32_w]
            rfl
          refine one_ (i := 12) (N := some 84) #[true, true, true, true, true, true, true, true, true, true, true, true, true, false, false, false] rfl rfl (by kernel_rfl) (by decide) (fun K hK => ?_)
          refine goes_ Tryz.func17 (by kernel_rfl) rfl #[.pointer (some ⟨Z, 0, none⟩)] (by rfl) rfl rfl (by simp only [List.map_toArray, List.map_cons, List.map_nil]; rfl) ?_
          with_reducible refine (Manifest_a Z R M H v (.slice none 0 0) o m _ _ HS15 z1 z2 z3 z4).mono ?_
          rintro e w16 ⟨o2, rfl, hat, hd⟩
          refine ⟨_, rfl, ?_⟩
          have HAt := Lib.hid hat
          have HO16 := Lib.hid (HO15.out.on hd)
          have HX16 := blk_to HX15 hd
          have HS16 := Lib.hid (HS15.out.on hd)
          clear hd hat HO15 HX15 HS15
          refine hK.out _ _ ((cX HX16.out)) (fun hHeld => ?_)
          clear hK K
          refine norm_ (a' := ?_) ?_ ?_
          rotate_left
          · show Act.put _ (some 84) _ = _
            simp only [Act.put, List.setIfInBounds_toArray, List.set_cons_zero, List.set_cons_succ, i64_w, i32_w]
            rfl
          refine one_ (i := 13) (N := some 85) #[true, true, true, true, true, true, true, true, true, true, true, true, true, true, false, false] rfl rfl (by kernel_rfl) (by decide) (fun K hK => ?_)
          refine goes_ Tryz.func26 (by kernel_rfl) rfl #[.agg (Loc.a o2 m), .int .i64 40] (by rfl) rfl rfl (by simp only [List.map_toArray, List.map_cons, List.map_nil]; rfl) ?_
          with_reducible refine (Mni.right_c o2 m 40 _ HAt z1 z3).mono ?_
          rintro e w17 ⟨rfl, hd⟩
          refine ⟨_, rfl, ?_⟩
          rw [HRm.out]
          have HO17 := Lib.hid (HO16.out.on hd)
          have HX17 := blk_to HX16 hd
          have HS17 := Lib.hid (HS16.out.on hd)
          clear hd HO16 HX16 HS16
          refine hK.out _ _ ((cX HX17.out)) (fun hHeld => ?_)
          clear hK K
          refine norm_ (a' := ?_) ?_ ?_
          rotate_left
          · show Act.put _ (some 85) _ = _
            simp only [Act.put, List.setIfInBounds_toArray, List.set_cons_zero, List.set_cons_succ, i64_w, i32_w]
            rfl
          refine pure_ (i := 14) (N := some 86) (v := ?_) (a' := ?_) #[true, true, true, true, true, true, true, true, true, true, true, true, true, true, true, false] rfl rfl (by kernel_rfl) (fun _ _ _ h => h) (Or.inl ⟨by rfl, ?_⟩) ?_ ?_
          rotate_left
          · intro w'
            go_simp
            with_reducible rfl
          rotate_left
          · simp only [Act.put, List.setIfInBounds_toArray, List.set_cons_zero, List.set_cons_succ, i64_w, i32_w]
            rfl
          refine pure_ (i := 15) (N := some 87) (v := ?_) (a' := ?_) #[true, true, true, true, true, true, true, true, true, true, true, true, true, true, true, true] rfl rfl (by kernel_rfl) (fun _ _ _ h => h) (Or.inl ⟨by rfl, ?_⟩) ?_ ?_
          rotate_left
          · intro w'
            go_simp
            with_reducible rfl
          rotate_left
          · simp only [Act.put, List.setIfInBounds_toArray, List.set_cons_zero, List.set_cons_succ, i64_w, i32_w]
            rfl
          refine done_ (by kernel_rfl) ?_
          clear hHeld
          go_upto_if 87 with fail
          repeat (first | exact any_fmt W w17 X R M v d ⟨hz.dn, hz.sz, hz.bu, by have := hz.so; omega⟩ HLW (Lib.hid HO17.out.bel) HX17 HXn.out HO17.out.fr (Lib.hid HO17.out.dsk) | go_step)
        · have HE11 := Lib.hid he
          have tk : (k == 0) = false := beq_eq_false_iff_ne.2 hk0
          clear he hk0
          go_wp2_with fail
          refine (code_c _ k w11 HE11 (Lib.hid (HLW.out.on HO11.out.bel))).mono ?_
          rintro e w12 ⟨rfl, hd⟩
          have HO12 := Lib.hid (HO11.out.on hd)
          have HX12 := blk_to HX11 hd
          have HE12 := Lib.hid (HE11.out.on hd)
          clear hd HO11 HX11 HE11
          go_wp2_with fail
          refine (code_nil w12).mono ?_
          rintro e w13 ⟨rfl, hd⟩
          have HO13 := Lib.hid (HO12.out.on hd)
          have HX13 := blk_to HX12 hd
          have HE13 := Lib.hid (HE12.out.on hd)
          clear hd HO12 HX12 HE12
          go_upto_if 97 with fail
          repeat (first | exact any_fmt W w13 X R M v d ⟨hz.dn, hz.sz, hz.bu, by have := hz.so; omega⟩ HLW (Lib.hid HO13.out.bel) HX13 HXn.out HO13.out.fr (Lib.hid HO13.out.dsk) | go_step)
      · obtain ⟨T, u, rfl, he⟩ := HBa.out.2.1 HM.out.1 HM.out.2 hp
        have hbz := best_zeroA d hp
        have HE9 := Lib.hid he
        clear he
        go_wp2_with (first | (refine Slt.wl_allocS rfl rfl ?_) | (refine Slt.wl_storeSn 0 0 0 0 0 0 0 0 rfl _ _ rfl rfl (by rfl) ?_))
        have hd : Below w9.heap.size w9 (w9.alloc (Obj.cells (slA 0 0 0 0) 62 (0, 0))) := (Below.refl _ _).alloc (Nat.le_refl _) _
        have hx := heap_alloc_last w9 (Obj.cells (slA 0 0 0 0) 62 (0, 0))
        have HXn := Lib.hid (show ¬ Ft R M v w9.heap.size from fun f => Nat.lt_irrefl _ (HO9.out.dsk.ft_lt _ f))
        have HO10 := Lib.hid (HO9.out.on hd)
        have HE10 := Lib.hid (HE9.out.on hd)
        obtain ⟨X, hX⟩ : ∃ X, w9.heap.size = X := ⟨_, rfl⟩
        rw [hX] at hx HXn
        have HX10 := Lib.hid (show (w9.alloc (Obj.cells (slA 0 0 0 0) 62 (0, 0))).heap[X]? = some (Obj.cells (bestOf d 2).a 62 (0, 0)) by rw [hx, hbz]; rfl)
        simp only [hX]
        generalize (w9.alloc (Obj.cells (slA 0 0 0 0) 62 (0, 0))) = w10 at *
        clear hd hx hX HO9 HE9
        refine (Open_any w10 R M v d (Lib.hid HO10.out.dsk) (by rw [hz.sz]; decide) (by rw [hz.sz]; decide) HM.out.1 HM.out.2 (Lib.hid hz.dn) (by have := hz.so; omega)).mono ?_
        rintro e w11 ⟨hd, hop⟩
        have HO11 := Lib.hid (HO10.out.on hd)
        have HE11 := Lib.hid (HE10.out.on hd)
        have HX11 := blk_to HX10 hd
        rw [hbz, hz.sz] at hop
        clear hd HO10 HE10 HX10
        rcases hop with ⟨Z, rfl, h0, _⟩ | ⟨T2, u2, rfl, k, he, hk0, hk3⟩
        · exact absurd h0 (by decide)
        obtain rfl : k = 3 := hk3 (by decide)
        have HD11 := Lib.hid he
        clear he hk0 hk3
        go_wp2_with fail
        refine (code_c _ 3 w11 HD11 (Lib.hid (HLW.out.on HO11.out.bel))).mono ?_
        rintro e w12 ⟨rfl, hd⟩
        have HO12 := Lib.hid (HO11.out.on hd)
        have HE12 := Lib.hid (HE11.out.on hd)
        have HX12 := blk_to HX11 hd
        have HD12 := Lib.hid (HD11.out.on hd)
        clear hd HO11 HE11 HX11 HD11
        go_wp2_with fail
        refine (code_c _ 3 w12 HE12 (Lib.hid (HLW.out.on HO12.out.bel))).mono ?_
        rintro e w13 ⟨rfl, hd⟩
        have HO13 := Lib.hid (HO12.out.on hd)
        have HE13 := Lib.hid (HE12.out.on hd)
        have HX13 := blk_to HX12 hd
        have HD13 := Lib.hid (HD12.out.on hd)
        clear hd HO12 HE12 HX12 HD12
        go_wp2_with fail
        refine (code_c _ 3 w13 HD13 (Lib.hid (HLW.out.on HO13.out.bel))).mono ?_
        rintro e w14 ⟨rfl, hd⟩
        have HO14 := Lib.hid (HO13.out.on hd)
        have HE14 := Lib.hid (HE13.out.on hd)
        have HX14 := blk_to HX13 hd
        have HD14 := Lib.hid (HD13.out.on hd)
        clear hd HO13 HE13 HX13 HD13
        go_wp2_with fail
        refine (code_c _ 3 w14 HE14 (Lib.hid (HLW.out.on HO14.out.bel))).mono ?_
        rintro e w15 ⟨rfl, hd⟩
        have HO15 := Lib.hid (HO14.out.on hd)
        have HE15 := Lib.hid (HE14.out.on hd)
        have HX15 := blk_to HX14 hd
        have HD15 := Lib.hid (HD14.out.on hd)
        clear hd HO14 HE14 HX14 HD14
        go_upto_if 97 with fail
        repeat (first | exact any_fmt W w15 X R M v d ⟨hz.dn, hz.sz, hz.bu, by have := hz.so; omega⟩ HLW (Lib.hid HO15.out.bel) HX15 HXn.out HO15.out.fr (Lib.hid HO15.out.dsk) | go_step)
theorem any_walk (p q : Pg) (A : Option Addr) (n c : Nat) (xs : List Pg) (W : World) (hxl : xs.length = n) (hc : n ≤ c) (hA : Kd.C Dk.pgk W A n xs) (hg : Hid (Laid W)) : Calls Tryz.prog 5 #[Dk.pv p, Dk.pv q, .slice A n c] W fun e w' => e = .returned (.bool true) ∧ Below W.heap.size W w' := by
  by_cases h : n ≤ 30
  · exact any_in p q A n c xs W hxl h (Lib.hid hA) hg
  · exact any_out p q A n c W (by omega)
end Go.Proofs.YtaodgnladjafoaaGreatDoor.Sto
