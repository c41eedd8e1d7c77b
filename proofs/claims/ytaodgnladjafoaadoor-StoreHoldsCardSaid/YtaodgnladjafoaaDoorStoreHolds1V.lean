/- StoreHolds, the walk. -/
import Derived.Test.YtaodgnladjafoaaDoorStore78V
set_option linter.unusedVariables false
set_option linter.unusedSimpArgs false
namespace Go.Proofs.YtaodgnladjafoaaDoor.Sto
open Go.RowKit Go.Proofs.YtaodgnladjafoaaDoorW.PrintWords Go.Proofs.YtaodgnladjafoaaDoorW.PrintLast Go.Proofs.YtaodgnladjafoaaDoorW.PrintMore Go.Proofs.YtaodgnladjafoaaDoor.Md Go.Proofs.YtaodgnladjafoaaDoor.Mni Go.Proofs.YtaodgnladjafoaaDoor.QStorePuts
open Go.Proofs.YtaodgnladjafoaaDoor.Dk (Dsk IsD Ft mayN rd)
open Go.Proofs.YtaodgnladjafoaaDoor.Slt (Sl switched bestOf)
open Go.Proofs.YtaodgnladjafoaaDoor.Err (Laid IsErr code_nil code_c Chain at_some at_nil)
theorem taken_N (N : Nat) (Z R M H : Nat) (v p : Value) (s : St) (w : World) (h : Hid (IsS w ⟨Z, R, M, H, v, p⟩ oE emptyM s)) (hok : Ok emptyM s) (hN : s.d.size = (N : Int)) :
    Calls Tryd.prog 10 #[.pointer (some ⟨Z, 0, none⟩)] w fun e w' => ∃ A c, e = .returned (.slice A N c) ∧ Kd.C Kd.bool w' A N (used emptyM s) ∧ N ≤ c ∧ Below w.heap.size w w' := by
  refine (Taken_c Z R M H v p oE emptyM s w h hok.ms hok.mr (Lib.hid hok.rt) hok.rf hok.pl).mono ?_
  rintro e w' ⟨u, rfl, hu, hd⟩
  obtain ⟨A, c, rfl, hc, hC⟩ := Kd.R_reads hu
  have eu : taken ((marks emptyM s.d.size).getD []) s = used emptyM s := rfl
  rw [eu, used_size s N hN] at hc hC
  rw [eu, used_size s N hN]
  exact ⟨A, c, rfl, hC, hc, hd⟩
def rT (t : ByteArray) : Rf := ⟨3, (t.size : Int), AdM.sum t⟩
def sH (t : ByteArray) (n : Nat) (put : List Rf) (held : List (Rf × Int)) : St := { putS (sF 100) 3 t n with put := put, held := held }
theorem put_T (Z R M H : Nat) (t : ByteArray) (n : Nat) (w : World) (h : Hid (IsS w ⟨Z, R, M, H, .slice none 0 0, .slice none 0 0⟩ oE emptyM (sF 100))) (hp : Hid (Blb.pagesV (t.size : Int) = (n : Int))) (hk : 1 ≤ n) (hts : t.size ≤ 16384) (hn : 3 + n ≤ 100) :
    Calls Tryd.prog 12 #[.pointer (some ⟨Z, 0, none⟩), .string t] w fun e w' => e = .returned (.tuple #[.agg (ra (rT t)), .nilIface]) ∧ ∃ v' p', IsS w' ⟨Z, R, M, H, v', p'⟩ oE emptyM (sH t n [rT t] []) ∧ Stp w ⟨Z, R, M, H, .slice none 0 0, .slice none 0 0⟩ w' ⟨Z, R, M, H, v', p'⟩ :=
  put_F 100 (by decide) (by decide) Z R M H t n w h hp hk hts hn
theorem covers_T (t : ByteArray) (n i : Nat) (hp : Blb.pagesV (t.size : Int) = (n : Int)) : covers (rT t) i = decide (3 ≤ (i : Int) ∧ (i : Int) < 3 + (n : Int)) := covers_eq 3 _ _ i n hp
theorem used_held (t : ByteArray) (n i : Nat) (c : Int) (hp : Blb.pagesV (t.size : Int) = (n : Int)) (hi : i < 100) : (used emptyM (sH t n [] [(rT t, c)]))[i]? = some (decide (i < 3 + n)) := by
  rw [used_get _ 100 i rfl hi]
  have : (((sH t n [] [(rT t, c)]).own :: (sH t n [] [(rT t, c)]).put ++ keys (sH t n [] [(rT t, c)])).any fun r => covers r i) = (decide ((2 : Int) = (i : Int)) || decide (3 ≤ (i : Int) ∧ (i : Int) < 3 + (n : Int))) := by
    show ([(⟨2, (tE.size : Int), AdM.sum tE⟩ : Rf), rT t].any fun r => covers r i) = _
    simp only [List.any_cons, List.any_nil, Bool.or_false]
    rw [own_c, covers_T t n i hp]
  rw [this, ← Bool.decide_or, ← Bool.decide_or]
  exact congrArg some (decide_eq_decide.2 (by omega))
theorem used_3 (t : ByteArray) (n : Nat) (c : Int) (hp : Blb.pagesV (t.size : Int) = (n : Int)) (hn : 1 ≤ n) : (used emptyM (sH t n [] [(rT t, c)]))[3]? = some true := by
  have h3 : 3 < 3 + n := by omega
  rw [used_held t n 3 c hp (by decide), decide_eq_true h3]
theorem ok_H (t : ByteArray) (n : Nat) (c : Int) : Ok emptyM (sH t n [] [(rT t, c)]) := by
  refine ok_e ⟨by show (2 : Int) ≤ 100; decide, by show (100 : Int) ≤ 2048; decide⟩ (fun r hr => ?_) (Nat.zero_le _)
  have hr2 : r ∈ [(⟨2, (tE.size : Int), AdM.sum tE⟩ : Rf), rT t] := hr
  simp only [List.mem_cons, List.not_mem_nil, or_false] at hr2
  rcases hr2 with rfl | rfl
  · exact ⟨show (0 : Int) ≤ 2 by decide, show (2 : Int) ≤ 1000000 by decide⟩
  · exact ⟨show (0 : Int) ≤ 3 by decide, show (3 : Int) ≤ 1000000 by decide⟩
/-- behind the switch -/
def sW (t : ByteArray) (n : Nat) (held : List (Rf × Int)) : St := { swS (sH t n [] [(rT t, 1)]) ((3 + n : Nat) : Int) with held := held }
theorem used_last (t : ByteArray) (n : Nat) (hn : 1 ≤ n) : (used emptyM (sW t n []))[3]? = some false := by
  rw [used_get _ 100 3 rfl (by decide)]
  have : (((sW t n []).own :: (sW t n []).put ++ keys (sW t n [])).any fun r => covers r 3) = decide (((3 + n : Nat) : Int) = ((3 : Nat) : Int)) := by
    show ([(⟨((3 + n : Nat) : Int), (tE.size : Int), AdM.sum tE⟩ : Rf)].any fun r => covers r 3) = _
    simp only [List.any_cons, List.any_nil, Bool.or_false]
    exact own_c _ _ 3
  have hne : ¬ (((3 + n : Nat) : Int) = ((3 : Nat) : Int)) := by omega
  rw [this, decide_eq_false hne]
  rfl
theorem ok_W (t : ByteArray) (n : Nat) (hn : n ≤ 1000) : Ok emptyM (sW t n []) := by
  refine ok_e ⟨by show (2 : Int) ≤ 100; decide, by show (100 : Int) ≤ 2048; decide⟩ (fun r hr => ?_) (Nat.zero_le _)
  have hr2 : r ∈ [(⟨((3 + n : Nat) : Int), (tE.size : Int), AdM.sum tE⟩ : Rf)] := hr
  simp only [List.mem_cons, List.not_mem_nil, or_false] at hr2
  subst hr2
  exact ⟨by show (0 : Int) ≤ ((3 + n : Nat) : Int); omega, by show ((3 + n : Nat) : Int) ≤ 1000000; omega⟩
theorem text_W (t : ByteArray) (n : Nat) (held : List (Rf × Int)) (hn : t.size ≤ n * 64) (hn1 : 1 ≤ n) : strOfNums ((Blb.gs (sW t n held).d 3 n).take ((rT t).f1).toNat) = t := by
  show strOfNums ((Blb.gs (sW t n held).d 3 n).take ((t.size : Int)).toNat) = t
  rw [Int.toNat_natCast]
  refine Blb.gs_text _ 3 n t hn (fun i hi => ?_)
  show rd (switched { (sH t n [] [(rT t, 1)]).d with soft := (sH t n [] [(rT t, 1)]).d.soft ++ Blb.pgs tE ((3 + n : Nat) : Int) 1 } ⟨1 + 1, ((3 + n : Nat) : Int), (tE.size : Int), AdM.sum tE⟩) (3 + (i : Int)) = _
  rw [Slt.rd_switched, if_neg (by show ¬ (3 + (i : Int) = (1 + 1) % 2); omega), Blb.rd_pgs, if_neg (by omega)]
  show rd { (sF 100).d with soft := (sF 100).d.soft ++ Blb.pgs t 3 n } (3 + (i : Int)) = _
  rw [Blb.rd_pgs, if_pos (by omega)]
  congr 1
  omega
theorem Hl.ck {W w : World} {q : Pl} {s : St} {K L : Nat} {t : ByteArray} (h : Hl W w q s K L (rT t)) : w.cell? ⟨K, 0, none⟩ = some (.int .i64 3) := Err.cell_of_blk h.k 0
theorem Hl.hold {W w w' : World} {Z R M H : Nat} {v p : Value} {s s' : St} {K L : Nat} {r : Rf} (h : Hl W w ⟨Z, R, M, H, v, p⟩ s K L r) (k : Mod (· = H) w w') (h' : IsS w' ⟨Z, R, M, H, v, p⟩ oE emptyM s') : Hl W w' ⟨Z, R, M, H, v, p⟩ s' K L r := h.step (stp_held k) h'
set_option maxHeartbeats 2000000 in
set_option maxRecDepth 100000 in
theorem holds_out (t : ByteArray) (w : World) (h : t.size < 1 ∨ 2000 < t.size) (hs : t.size ≤ 140737488351232) :
    Calls Tryd.prog 4 #[.string t] w fun e w' => e = .returned (.bool true) ∧ Below w.heap.size w w' := by
  have hw := Lib.hid (Below.refl w.heap.size w)
  by_cases h0 : t.size < 1
  · clear h
    have c0 : decide ((t.size : Int) < 1) = true := decide_eq_true (by omega)
    have c0' : decide (t.size < 1) = true := decide_eq_true (by omega)
    have c1 : decide ((t.size : Int) > 2000) = false := decide_eq_false (by omega)
    have c1' : decide (t.size > 2000) = false := decide_eq_false (by omega)
    go_enter Tryd.func4, Tryd.ntmps4
    go_wp2_with fail
    refine (awake_c w).mono ?_
    rintro e w1 ⟨rfl, hd⟩
    have HB1 := below_to hw (Nat.le_refl _) hd
    clear hd
    go_wp2_with fail
    refine (awake_c _).mono ?_
    rintro e w2 ⟨rfl, hd⟩
    have HB2 := below_to HB1 (Nat.le_refl _) hd
    clear hd
    go_wp2_with fail
    go_ret
    exact ⟨rfl, HB2.out⟩
  · have h1 : 2000 < t.size := by omega
    clear h
    have c0 : decide ((t.size : Int) < 1) = false := decide_eq_false (by omega)
    have c0' : decide (t.size < 1) = false := decide_eq_false (by omega)
    have c1 : decide ((t.size : Int) > 2000) = true := decide_eq_true (by omega)
    have c1' : decide (t.size > 2000) = true := decide_eq_true (by omega)
    have c2 : decide ((2000 : Int) < (t.size : Int)) = true := decide_eq_true (by omega)
    have c2' : decide (2000 < t.size) = true := decide_eq_true (by omega)
    go_enter Tryd.func4, Tryd.ntmps4
    go_wp2_with fail
    refine (awake_c w).mono ?_
    rintro e w1 ⟨rfl, hd⟩
    have HB1 := below_to hw (Nat.le_refl _) hd
    clear hd
    go_wp2_with fail
    refine (awake_c _).mono ?_
    rintro e w2 ⟨rfl, hd⟩
    have HB2 := below_to HB1 (Nat.le_refl _) hd
    clear hd
    go_wp2_with fail
    go_ret
    exact ⟨rfl, HB2.out⟩
set_option maxHeartbeats 4000000 in
set_option maxRecDepth 100000 in
theorem holds_in (t : ByteArray) (w : World) (h1 : 1 ≤ t.size) (h2 : t.size ≤ 2000) :
    Calls Tryd.prog 4 #[.string t] w fun e w' => e = .returned (.bool true) ∧ Below w.heap.size w w' := by
  have hw := Lib.hid (Below.refl w.heap.size w)
  have c0 : decide ((t.size : Int) < 1) = false := decide_eq_false (by omega)
  have c0' : decide (t.size < 1) = false := decide_eq_false (by omega)
  have c1 : decide ((t.size : Int) > 2000) = false := decide_eq_false (by omega)
  have c1' : decide (t.size > 2000) = false := decide_eq_false (by omega)
  have c2 : decide ((2000 : Int) < (t.size : Int)) = false := decide_eq_false (by omega)
  have c2' : decide (2000 < t.size) = false := decide_eq_false (by omega)
  obtain ⟨n, hn⟩ : ∃ n, (t.size + 63) / 64 = n := ⟨_, rfl⟩
  have hn1 : 1 ≤ n := by omega
  have hn2 : 3 + n + 1 ≤ 100 := by omega
  have hn3 : t.size ≤ n * 64 := by omega
  have hpg := Blb.pages_of t h1 (by omega)
  rw [hn] at hpg
  have HP := Lib.hid hpg
  clear hn hpg
  go_enter Tryd.func4, Tryd.ntmps4
  go_wp2_with fail
  refine (awake_c w).mono ?_
  rintro e w1 ⟨rfl, hd⟩
  have HB1 := below_to hw (Nat.le_refl _) hd
  clear hd hw
  go_wp2_with fail
  clear c0 c0' c1 c1' c2 c2'
  refine (Dk.new_c w1 100 (by decide) (by decide)).mono ?_
  rintro e w2 ⟨R, M, hR, hM, rfl, hd, hi⟩
  have H2 := Lib.hid (show IsD w2 R M (.slice none 0 0) (d0 100) from hi)
  have HB2 := below_to HB1 (Nat.le_refl _) hd
  have HRM := Lib.hid (And.intro (Nat.le_trans HB1.out.size hR) (Nat.le_trans HB1.out.size hM))
  clear hR hM hd hi HB1
  go_wp2_with fail
  refine (Format_new w2 R M _ 100 H2 (by decide) (by decide)).mono ?_
  rintro e w3 ⟨Z, H, hZ, hH, rfl, hi, hm⟩
  have HU := Lib.hid (Run.new HB2.out HRM.out.1 HRM.out.2 hZ hH hm hi)
  clear hZ hH hi hm H2 HB2 HRM
  go_wp2_with fail
  refine (put_T Z R M H t n w3 (Lib.hid HU.out.is) HP hn1 (by omega) (by omega)).mono ?_
  rintro e w4 ⟨rfl, v, p, hi, hs⟩
  have HU4 := Lib.hid (HU.out.step hs hi)
  clear hi hs HU
  go_upto_region 6 with (first | (refine wl_allocR rfl rfl ?_) | (refine wl_storeRn #[.int .i64 0, .int .i64 0, .int .u32 0] rfl (rT t) rfl _ _ rfl rfl rfl ?_))
  have hd5 : Below w4.heap.size w4 (w4.alloc (Obj.cells (ra (rT t)) 44 (0, 0))) := (Below.refl _ _).alloc (Nat.le_refl _) _
  have HK5 := Lib.hid (heap_alloc_last w4 (Obj.cells (ra (rT t)) 44 (0, 0)))
  have HU5 := Lib.hid (HU4.out.on hd5)
  have hl4 := HU4.out.is.lt
  obtain ⟨K, hK⟩ : ∃ K, w4.heap.size = K := ⟨_, rfl⟩
  rw [hK] at HK5 hl4
  simp only [hK]
  generalize (w4.alloc (Obj.cells (ra (rT t)) 44 (0, 0))) = w5 at *
  have hnk : ¬ Fs ⟨Z, R, M, H, v, p⟩ K := fun f => Nat.lt_irrefl _ (hl4 K f)
  have HNk := Lib.hid hnk
  clear hK hd5 HU4 hl4 hnk
  go_upto_region 7 with (first | (refine wl_loadR K (rT t) HK5.out rfl _ rfl rfl ?_) | (refine Kd.event_run rfl (exec_litR (a := (rT t).f0) (b := (rT t).f1) (c := (rT t).f2) rfl rfl _) ?_))
  have hd6 : Below w5.heap.size w5 (w5.alloc (Obj.cells (ra (rT t)) 44 (0, 0))) := (Below.refl _ _).alloc (Nat.le_refl _) _
  have hL6 := heap_alloc_last w5 (Obj.cells (ra (rT t)) 44 (0, 0))
  have hl5 := HU5.out.is.lt
  have HU6 := HU5.out.on hd6
  have HK6 := blk_to HK5 hd6
  obtain ⟨L, hL⟩ : ∃ L, w5.heap.size = L := ⟨_, rfl⟩
  rw [hL] at hL6 hl5
  have hx : w5.alloc (Obj.cells #[.int .i64 (rT t).f0, .int .i64 (rT t).f1, .int .u32 (rT t).f2] 44 (0, 0)) = w5.alloc (Obj.cells (ra (rT t)) 44 (0, 0)) := rfl
  rw [hx]
  simp only [hL]
  generalize (w5.alloc (Obj.cells (ra (rT t)) 44 (0, 0))) = w6 at *
  have H6 : Hid (Hl w w6 ⟨Z, R, M, H, v, p⟩ (sH t n [rT t] []) K L (rT t)) := Lib.hid ⟨HU6, HK6.out, hL6, HNk.out, fun f => Nat.lt_irrefl _ (hl5 L f)⟩
  clear hL hx hd6 hL6 hl5 HU6 HK6 HU5 HK5 HNk
  have hown : ∀ (q : Pl), ¬ Fs q L → ∀ b, (Value.slice (some ⟨L, 0, none⟩) 1 1).ownBlock = some b → ¬ Fs q b := fun q hq b hb => by
    cases hb; exact hq
  have HOwn := Lib.hid hown
  clear hown
  go_wp2_with fail
  refine (Hold_c Z R M H v p (.slice (some ⟨L, 0, none⟩) 1 1) oE emptyM _ [rT t] w6 (Lib.hid H6.out.run.is) (by show 1 ≤ 1000000; decide) (Lib.hid H6.out.row) (HOwn.out _ H6.out.nl)).mono ?_
  rintro e w7 ⟨rfl, hi, hm⟩
  have H7 : Hid (Hl w w7 ⟨Z, R, M, H, v, p⟩ (sH t n [rT t] [(rT t, 1)]) K L (rT t)) := Lib.hid (H6.out.hold hm (by rw [← hold_1]; exact hi))
  clear hi hm H6
  go_wp2_with fail
  refine (Hold_c Z R M H v p (.slice (some ⟨L, 0, none⟩) 1 1) oE emptyM _ [rT t] w7 (Lib.hid H7.out.run.is) (by show 1 ≤ 1000000; decide) (Lib.hid H7.out.row) (HOwn.out _ H7.out.nl)).mono ?_
  rintro e w8 ⟨rfl, hi, hm⟩
  have H8 : Hid (Hl w w8 ⟨Z, R, M, H, v, p⟩ (sH t n [rT t] [(rT t, 2)]) K L (rT t)) := Lib.hid (H7.out.hold hm (by rw [← hold_2]; exact hi))
  clear hi hm H7
  go_wp2_with fail
  refine (Forget_c Z R M H v p oE emptyM _ w8 (Lib.hid H8.out.run.is)).mono ?_
  rintro e w9 ⟨rfl, hi, hs⟩
  have H9 : Hid (Hl w w9 ⟨Z, R, M, H, v, .slice none 0 0⟩ (sH t n [] [(rT t, 2)]) K L (rT t)) := Lib.hid (H8.out.step hs hi)
  clear hi hs H8
  go_upto_region 10 with fail
  have hdd : Below w9.heap.size w9 (World.drew w9) := (Below.refl _ _).drew
  have HD := Lib.hid (H9.out.on hdd)
  clear hdd H9
  refine start_ (n := 7) (S := fun w' => w'.cell? ⟨K, 0, none⟩ = some (.int .i64 3)) (ds := []) #[false, false, false, false, false, false, false] (by kernel_rfl) rfl rfl (HD.out.ck) (fun hHeld => ?_)
  refine pure_ (i := 0) (N := some 54) (v := ?_) (a' := ?_) #[true, false, false, false, false, false, false] rfl rfl (by kernel_rfl) (fun _ _ _ h => h) (Or.inl ⟨by rfl, ?_⟩) ?_ ?_
  rotate_left
  · intro w'
    go_simp
    with_reducible rfl
  rotate_left
  · simp only [Act.put, List.setIfInBounds_toArray, List.set_cons_zero, List.set_cons_succ, i64_w, i32_w]
    rfl
  refine pure_ (i := 2) (N := some 56) (v := ?_) (a' := ?_) #[true, false, true, false, false, false, false] rfl rfl (by kernel_rfl) (fun _ _ _ h => h) (Or.inl ⟨by rfl, ?_⟩) ?_ ?_
  rotate_left
  · intro w'
    go_simp
    with_reducible rfl
  rotate_left
  · simp only [Act.put, List.setIfInBounds_toArray, List.set_cons_zero, List.set_cons_succ, i64_w, i32_w]
    rfl
  refine take_ (i := 3) (N := some 57) (v := ?_) (a' := ?_) #[true, false, true, true, false, false, false] rfl rfl (by kernel_rfl) (fun _ _ _ h => h) (Or.inl ⟨by rfl, ?_⟩) hHeld ?_ ?_
  rotate_left
  · intro w' s0
    go_simp
    with_reducible rfl
  rotate_left
  · simp only [Act.put, List.setIfInBounds_toArray, List.set_cons_zero, List.set_cons_succ, i64_w, i32_w]
    rfl
  refine one_ (i := 1) (N := some 55) #[true, true, true, true, false, false, false] rfl rfl (by kernel_rfl) (by decide) (fun K hK => ?_)
  refine goes_ Tryd.func10 (by kernel_rfl) rfl #[.pointer (some ⟨Z, 0, none⟩)] (by rfl) rfl rfl (by simp only [List.map_toArray, List.map_cons, List.map_nil]; rfl) ?_
  with_reducible refine (taken_N 100 Z R M H v (.slice none 0 0) (sH t n [] [(rT t, 2)]) _ (Lib.hid HD.out.run.is) (ok_H t n 2) rfl).mono ?_
  rintro e w10 ⟨A, c, rfl, hC, hc, hd⟩
  refine ⟨_, rfl, ?_⟩
  obtain ⟨ad, rfl, cg0⟩ := at_B hC (used_3 t n 2 HP.out hn1)
  have cg : w10.cell? ⟨ad.block, ad.off + 3, none⟩ = some (.bool true) := by
    unfold Addr.add at cg0
    rw [if_neg (by decide)] at cg0
    exact cg0
  have H10 := Lib.hid (HD.out.on hd)
  clear hC hc hd cg0
  refine hK.out _ _ (H10.out.ck) (fun hHeld => ?_)
  clear hK K
  refine norm_ (a' := ?_) ?_ ?_
  rotate_left
  · show Act.put _ (some 55) _ = _
    simp only [Act.put, List.setIfInBounds_toArray, List.set_cons_zero, List.set_cons_succ, i64_w, i32_w]
    rfl
  refine pure_ (i := 4) (N := some 58) (v := ?_) (a' := ?_) #[true, true, true, true, true, false, false] rfl rfl (by kernel_rfl) (fun _ _ _ h => h) (Or.inl ⟨by rfl, ?_⟩) ?_ ?_
  rotate_left
  · intro w'
    go_simp
    with_reducible rfl
  rotate_left
  · simp only [Act.put, List.setIfInBounds_toArray, List.set_cons_zero, List.set_cons_succ, i64_w, i32_w]
    rfl
  refine one_ (i := 5) (N := some 59) #[true, true, true, true, true, true, false] rfl rfl (by kernel_rfl) (by decide) (fun K hK => ?_)
  refine value_ (w1 := ?_) (v := ?_) (by rfl) rfl ?_ ?_
  rotate_left 2
  · go_simp
    constructor
    · rfl
    · rfl
  refine hK.out _ _ (H10.out.ck) (fun hHeld => ?_)
  clear hK K
  refine norm_ (a' := ?_) ?_ ?_
  rotate_left
  · show Act.put _ (some 59) _ = _
    simp only [Act.put, List.setIfInBounds_toArray, List.set_cons_zero, List.set_cons_succ, i64_w, i32_w]
    rfl
  refine pure_ (i := 6) (N := some 10) (v := ?_) (a' := ?_) #[true, true, true, true, true, true, true] rfl rfl (by kernel_rfl) (fun _ _ _ h => h) (Or.inl ⟨by rfl, ?_⟩) ?_ ?_
  rotate_left
  · intro w'
    go_simp
    with_reducible rfl
  rotate_left
  · simp only [Act.put, List.setIfInBounds_toArray, List.set_cons_zero, List.set_cons_succ, i64_w, i32_w]
    rfl
  refine done_ (by kernel_rfl) ?_
  clear hHeld HD cg
  go_wp2_with fail
  refine (Free_c Z R M H v (.slice none 0 0) (.slice (some ⟨L, 0, none⟩) 1 1) oE emptyM _ [rT t] w10 (Lib.hid H10.out.run.is) (by show 1 ≤ 1000000; decide) (Lib.hid H10.out.row) (HOwn.out _ H10.out.nl)).mono ?_
  rintro e w11 ⟨rfl, hi, hm⟩
  have H11 : Hid (Hl w w11 ⟨Z, R, M, H, v, .slice none 0 0⟩ (sH t n [] [(rT t, 1)]) K L (rT t)) := Lib.hid (H10.out.hold hm (by rw [← free_2]; exact hi))
  clear hi hm H10
  go_upto_region 12 with fail
  have hdd : Below w11.heap.size w11 (World.drew w11) := (Below.refl _ _).drew
  have HD := Lib.hid (H11.out.on hdd)
  clear hdd H11
  refine start_ (n := 7) (S := fun w' => w'.cell? ⟨K, 0, none⟩ = some (.int .i64 3)) (ds := []) #[false, false, false, false, false, false, false] (by kernel_rfl) rfl rfl (HD.out.ck) (fun hHeld => ?_)
  refine pure_ (i := 0) (N := some 63) (v := ?_) (a' := ?_) #[true, false, false, false, false, false, false] rfl rfl (by kernel_rfl) (fun _ _ _ h => h) (Or.inl ⟨by rfl, ?_⟩) ?_ ?_
  rotate_left
  · intro w'
    go_simp
    with_reducible rfl
  rotate_left
  · simp only [Act.put, List.setIfInBounds_toArray, List.set_cons_zero, List.set_cons_succ, i64_w, i32_w]
    rfl
  refine pure_ (i := 2) (N := some 65) (v := ?_) (a' := ?_) #[true, false, true, false, false, false, false] rfl rfl (by kernel_rfl) (fun _ _ _ h => h) (Or.inl ⟨by rfl, ?_⟩) ?_ ?_
  rotate_left
  · intro w'
    go_simp
    with_reducible rfl
  rotate_left
  · simp only [Act.put, List.setIfInBounds_toArray, List.set_cons_zero, List.set_cons_succ, i64_w, i32_w]
    rfl
  refine take_ (i := 3) (N := some 66) (v := ?_) (a' := ?_) #[true, false, true, true, false, false, false] rfl rfl (by kernel_rfl) (fun _ _ _ h => h) (Or.inl ⟨by rfl, ?_⟩) hHeld ?_ ?_
  rotate_left
  · intro w' s0
    go_simp
    with_reducible rfl
  rotate_left
  · simp only [Act.put, List.setIfInBounds_toArray, List.set_cons_zero, List.set_cons_succ, i64_w, i32_w]
    rfl
  refine one_ (i := 1) (N := some 64) #[true, true, true, true, false, false, false] rfl rfl (by kernel_rfl) (by decide) (fun K hK => ?_)
  refine goes_ Tryd.func10 (by kernel_rfl) rfl #[.pointer (some ⟨Z, 0, none⟩)] (by rfl) rfl rfl (by simp only [List.map_toArray, List.map_cons, List.map_nil]; rfl) ?_
  with_reducible refine (taken_N 100 Z R M H v (.slice none 0 0) (sH t n [] [(rT t, 1)]) _ (Lib.hid HD.out.run.is) (ok_H t n 1) rfl).mono ?_
  rintro e w12 ⟨A, c, rfl, hC, hc, hd⟩
  refine ⟨_, rfl, ?_⟩
  obtain ⟨ad, rfl, cg0⟩ := at_B hC (used_3 t n 1 HP.out hn1)
  have cg : w12.cell? ⟨ad.block, ad.off + 3, none⟩ = some (.bool true) := by
    unfold Addr.add at cg0
    rw [if_neg (by decide)] at cg0
    exact cg0
  have H12 := Lib.hid (HD.out.on hd)
  clear hC hc hd cg0
  refine hK.out _ _ (H12.out.ck) (fun hHeld => ?_)
  clear hK K
  refine norm_ (a' := ?_) ?_ ?_
  rotate_left
  · show Act.put _ (some 64) _ = _
    simp only [Act.put, List.setIfInBounds_toArray, List.set_cons_zero, List.set_cons_succ, i64_w, i32_w]
    rfl
  refine pure_ (i := 4) (N := some 67) (v := ?_) (a' := ?_) #[true, true, true, true, true, false, false] rfl rfl (by kernel_rfl) (fun _ _ _ h => h) (Or.inl ⟨by rfl, ?_⟩) ?_ ?_
  rotate_left
  · intro w'
    go_simp
    with_reducible rfl
  rotate_left
  · simp only [Act.put, List.setIfInBounds_toArray, List.set_cons_zero, List.set_cons_succ, i64_w, i32_w]
    rfl
  refine one_ (i := 5) (N := some 68) #[true, true, true, true, true, true, false] rfl rfl (by kernel_rfl) (by decide) (fun K hK => ?_)
  refine value_ (w1 := ?_) (v := ?_) (by rfl) rfl ?_ ?_
  rotate_left 2
  · go_simp
    constructor
    · rfl
    · rfl
  refine hK.out _ _ (H12.out.ck) (fun hHeld => ?_)
  clear hK K
  refine norm_ (a' := ?_) ?_ ?_
  rotate_left
  · show Act.put _ (some 68) _ = _
    simp only [Act.put, List.setIfInBounds_toArray, List.set_cons_zero, List.set_cons_succ, i64_w, i32_w]
    rfl
  refine pure_ (i := 6) (N := some 11) (v := ?_) (a' := ?_) #[true, true, true, true, true, true, true] rfl rfl (by kernel_rfl) (fun _ _ _ h => h) (Or.inl ⟨by rfl, ?_⟩) ?_ ?_
  rotate_left
  · intro w'
    go_simp
    with_reducible rfl
  rotate_left
  · simp only [Act.put, List.setIfInBounds_toArray, List.set_cons_zero, List.set_cons_succ, i64_w, i32_w]
    rfl
  refine done_ (by kernel_rfl) ?_
  clear hHeld HD cg
  go_wp2_with fail
  have hus := used_size (sH t n [] [(rT t, 1)]) 100 rfl
  have hfc := find_c (used emptyM (sH t n [] [(rT t, 1)])) (3 + n) 1 (Nat.le_refl _) (by rw [hus]; omega) (fun i hi => used_held t n i 1 HP.out (by rw [hus] at hi; exact hi))
  refine (Switch_ok Z R M H v (.slice none 0 0) oE emptyM (sH t n [] [(rT t, 1)]) ((3 + n : Nat) : Int) w12 (Lib.hid H12.out.run.is) (ok_H t n 1) (by show (0 : Int) ≤ 1; decide) (by show (1 : Int) < 4294967295; decide) (fun x hx => by cases hx) (Lib.hid hfc) (by omega) (by show ((3 + n : Nat) : Int) + 1 ≤ 100; omega) (Lib.hid rfl) (Lib.hid rfl) (by show ([] ++ Blb.pgs t 3 n).length + 1 ≤ 9000; rw [List.nil_append, Blb.pgs_length]; omega)).mono ?_
  rintro e w13 ⟨rfl, hi, hs⟩
  have H13 : Hid (Hl w w13 ⟨Z, R, M, H, .slice none 0 0, .slice none 0 0⟩ (sW t n [(rT t, 1)]) K L (rT t)) := Lib.hid (H12.out.step hs hi)
  clear hi hs H12 hus hfc
  have HTx := Lib.hid (text_W t n [(rT t, 1)] hn3 hn1)
  go_wp2_with (first | (refine wl_loadR K (rT t) H13.out.k rfl _ rfl rfl ?_))
  refine (Get_ok Z R M H _ _ oE emptyM (sW t n [(rT t, 1)]) (rT t) n t w13 (Lib.hid H13.out.run.is) (Lib.hid rfl) HP hn1 (by show (0 : Int) ≤ 3; decide) (by show (3 : Int) + (n : Int) ≤ 100; omega) (by show (100 : Int) ≤ 2048; decide) (by show ([] : List (Int × Dk.Pg)).length ≤ 9000; decide) HTx rfl).mono ?_
  rintro e w14 ⟨rfl, hd⟩
  have H14 := Lib.hid (H13.out.on hd)
  clear hd H13 HTx
  go_wp2_with fail
  refine (Free_c Z R M H _ _ (.slice (some ⟨L, 0, none⟩) 1 1) oE emptyM _ [rT t] w14 (Lib.hid H14.out.run.is) (by show 1 ≤ 1000000; decide) (Lib.hid H14.out.row) (HOwn.out _ H14.out.nl)).mono ?_
  rintro e w15 ⟨rfl, hi, hm⟩
  have H15 : Hid (Hl w w15 ⟨Z, R, M, H, .slice none 0 0, .slice none 0 0⟩ (sW t n []) K L (rT t)) := Lib.hid (H14.out.hold hm (by rw [← free_1 (rT t)]; exact hi))
  clear hi hm H14
  go_upto_region 16 with fail
  have hdd : Below w15.heap.size w15 (World.drew w15) := (Below.refl _ _).drew
  have HD := Lib.hid (H15.out.on hdd)
  clear hdd H15
  refine start_ (n := 7) (S := fun w' => w'.cell? ⟨K, 0, none⟩ = some (.int .i64 3)) (ds := []) #[false, false, false, false, false, false, false] (by kernel_rfl) rfl rfl (HD.out.ck) (fun hHeld => ?_)
  refine pure_ (i := 0) (N := some 81) (v := ?_) (a' := ?_) #[true, false, false, false, false, false, false] rfl rfl (by kernel_rfl) (fun _ _ _ h => h) (Or.inl ⟨by rfl, ?_⟩) ?_ ?_
  rotate_left
  · intro w'
    go_simp
    with_reducible rfl
  rotate_left
  · simp only [Act.put, List.setIfInBounds_toArray, List.set_cons_zero, List.set_cons_succ, i64_w, i32_w]
    rfl
  refine pure_ (i := 2) (N := some 83) (v := ?_) (a' := ?_) #[true, false, true, false, false, false, false] rfl rfl (by kernel_rfl) (fun _ _ _ h => h) (Or.inl ⟨by rfl, ?_⟩) ?_ ?_
  rotate_left
  · intro w'
    go_simp
    with_reducible rfl
  rotate_left
  · simp only [Act.put, List.setIfInBounds_toArray, List.set_cons_zero, List.set_cons_succ, i64_w, i32_w]
    rfl
  refine take_ (i := 3) (N := some 84) (v := ?_) (a' := ?_) #[true, false, true, true, false, false, false] rfl rfl (by kernel_rfl) (fun _ _ _ h => h) (Or.inl ⟨by rfl, ?_⟩) hHeld ?_ ?_
  rotate_left
  · intro w' s0
    go_simp
    with_reducible rfl
  rotate_left
  · simp only [Act.put, List.setIfInBounds_toArray, List.set_cons_zero, List.set_cons_succ, i64_w, i32_w]
    rfl
  refine one_ (i := 1) (N := some 82) #[true, true, true, true, false, false, false] rfl rfl (by kernel_rfl) (by decide) (fun K hK => ?_)
  refine goes_ Tryd.func10 (by kernel_rfl) rfl #[.pointer (some ⟨Z, 0, none⟩)] (by rfl) rfl rfl (by simp only [List.map_toArray, List.map_cons, List.map_nil]; rfl) ?_
  with_reducible refine (taken_N 100 Z R M H _ _ (sW t n []) _ (Lib.hid HD.out.run.is) (ok_W t n (by omega)) rfl).mono ?_
  rintro e w16 ⟨A, c, rfl, hC, hc, hd⟩
  refine ⟨_, rfl, ?_⟩
  obtain ⟨ad, rfl, cg0⟩ := at_B hC (used_last t n hn1)
  have cg : w16.cell? ⟨ad.block, ad.off + 3, none⟩ = some (.bool false) := by
    unfold Addr.add at cg0
    rw [if_neg (by decide)] at cg0
    exact cg0
  have H16 := Lib.hid (HD.out.on hd)
  clear hC hc hd cg0
  refine hK.out _ _ (H16.out.ck) (fun hHeld => ?_)
  clear hK K
  refine norm_ (a' := ?_) ?_ ?_
  rotate_left
  · show Act.put _ (some 82) _ = _
    simp only [Act.put, List.setIfInBounds_toArray, List.set_cons_zero, List.set_cons_succ, i64_w, i32_w]
    rfl
  refine pure_ (i := 4) (N := some 85) (v := ?_) (a' := ?_) #[true, true, true, true, true, false, false] rfl rfl (by kernel_rfl) (fun _ _ _ h => h) (Or.inl ⟨by rfl, ?_⟩) ?_ ?_
  rotate_left
  · intro w'
    go_simp
    with_reducible rfl
  rotate_left
  · simp only [Act.put, List.setIfInBounds_toArray, List.set_cons_zero, List.set_cons_succ, i64_w, i32_w]
    rfl
  refine one_ (i := 5) (N := some 86) #[true, true, true, true, true, true, false] rfl rfl (by kernel_rfl) (by decide) (fun K hK => ?_)
  refine value_ (w1 := ?_) (v := ?_) (by rfl) rfl ?_ ?_
  rotate_left 2
  · go_simp
    constructor
    · rfl
    · rfl
  refine hK.out _ _ (H16.out.ck) (fun hHeld => ?_)
  clear hK K
  refine norm_ (a' := ?_) ?_ ?_
  rotate_left
  · show Act.put _ (some 86) _ = _
    simp only [Act.put, List.setIfInBounds_toArray, List.set_cons_zero, List.set_cons_succ, i64_w, i32_w]
    rfl
  refine pure_ (i := 6) (N := some 15) (v := ?_) (a' := ?_) #[true, true, true, true, true, true, true] rfl rfl (by kernel_rfl) (fun _ _ _ h => h) (Or.inl ⟨by rfl, ?_⟩) ?_ ?_
  rotate_left
  · intro w'
    go_simp
    with_reducible rfl
  rotate_left
  · simp only [Act.put, List.setIfInBounds_toArray, List.set_cons_zero, List.set_cons_succ, i64_w, i32_w]
    rfl
  refine done_ (by kernel_rfl) ?_
  clear hHeld HD cg
  go_wp2_with fail
  refine (code_nil _).mono ?_
  rintro e wc1 ⟨rfl, hd⟩
  have HC1 := Lib.hid (H16.out.on hd)
  clear hd
  go_wp2_with fail
  refine (code_nil _).mono ?_
  rintro e wc2 ⟨rfl, hd⟩
  have HC2 := Lib.hid (HC1.out.on hd)
  clear hd
  go_wp2_with fail
  refine (code_nil _).mono ?_
  rintro e wc3 ⟨rfl, hd⟩
  have HC3 := Lib.hid (HC2.out.on hd)
  clear hd
  go_wp2_with fail
  refine (code_nil _).mono ?_
  rintro e wc4 ⟨rfl, hd⟩
  have HC4 := Lib.hid (HC3.out.on hd)
  clear hd
  go_wp2_with fail
  refine (code_nil _).mono ?_
  rintro e wc5 ⟨rfl, hd⟩
  have HC5 := Lib.hid (HC4.out.on hd)
  clear hd
  go_wp2_with fail
  go_ret
  exact ⟨rfl, HC5.out.run.bel⟩
theorem holds_walk (t : ByteArray) (w : World) (hs : t.size ≤ 140737488351232) (hg : Hid (Laid w)) :
    Calls Tryd.prog 4 #[.string t] w fun e w' => e = .returned (.bool true) ∧ Below w.heap.size w w' := by
  by_cases h : t.size < 1 ∨ 2000 < t.size
  · exact holds_out t w h hs
  · exact holds_in t w (by omega) (by omega)
end Go.Proofs.YtaodgnladjafoaaDoor.Sto
