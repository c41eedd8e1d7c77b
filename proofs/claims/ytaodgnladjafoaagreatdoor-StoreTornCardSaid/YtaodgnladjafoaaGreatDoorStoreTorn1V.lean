/- Words that the proof uses. -/
import Derived.Test.YtaodgnladjafoaaGreatDoorKeep2V
set_option linter.unusedVariables false
set_option linter.unusedSimpArgs false
namespace Go.Proofs.YtaodgnladjafoaaGreatDoor.Sto
open Go.RowKit Go.Proofs.YtaodgnladjafoaaGreatDoorW.PrintWords Go.Proofs.YtaodgnladjafoaaGreatDoorW.PrintLast Go.Proofs.YtaodgnladjafoaaGreatDoorW.PrintMore Go.Proofs.YtaodgnladjafoaaGreatDoor.Md Go.Proofs.YtaodgnladjafoaaGreatDoor.Mni Go.Proofs.YtaodgnladjafoaaGreatDoor.QStoreLasts
open Go.Proofs.YtaodgnladjafoaaGreatDoor.Dk (Dsk IsD Ft mayN rd stl)
open Go.Proofs.YtaodgnladjafoaaGreatDoor.Slt (Sl switched flushed bestOf)
open Go.Proofs.YtaodgnladjafoaaGreatDoor.Err (Laid IsErr code_nil code_c Chain at_some at_nil)
structure Kp (w : World) (q : Pl) (K : Nat) (r : Rf) : Prop where
  k : w.heap[K]? = some (Obj.cells (ra r) 36 (0, 0))
  n : ¬ Fs q K
theorem Kp.on {w w' : World} {q : Pl} {K : Nat} {r : Rf} (h : Kp w q K r) (k : Below w.heap.size w w') : Kp w' q K r := ⟨(blk_to (Lib.hid h.k) k).out, h.n⟩
theorem Kp.step {w w' : World} {q q' : Pl} {K : Nat} {r : Rf} (h : Kp w q K r) (k : Stp w q w' q') : Kp w' q' K r :=
  have z := k.out (Err.lt_of_block h.k) h.n
  ⟨z.2.trans h.k, z.1⟩
structure Mp (w : World) (q : Pl) (B : Nat) (o : Mni.Loc) (m : Man) : Prop where
  k : w.heap[B]? = some (Obj.cells (Loc.a o m) 43 (0, 0))
  n : ¬ Fs q B
  m : ManOut w q o m
theorem Mp.on {w w' : World} {q : Pl} {B : Nat} {o : Mni.Loc} {m : Man} (h : Mp w q B o m) (k : Below w.heap.size w w') : Mp w' q B o m := ⟨(blk_to (Lib.hid h.k) k).out, h.n, h.m.on k⟩
theorem Mp.step {w w' : World} {q q' : Pl} {B : Nat} {o : Mni.Loc} {m : Man} (h : Mp w q B o m) (k : Stp w q w' q') : Mp w' q' B o m :=
  have z := k.out (Err.lt_of_block h.k) h.n
  ⟨z.2.trans h.k, z.1, h.m.of k⟩
theorem two_txt {d : Dsk} {r q : Rf} {t u : ByteArray} {n m : Nat} (h : Txt d r t n) (k : Txt d q u m) : ∀ (i : Nat) (r' : Rf) (t' : ByteArray), [r, q][i]? = some r' → [t, u][i]? = some t' → ∃ n, Txt d r' t' n
  | 0, r', t', h1, h2 => by cases h1; cases h2; exact ⟨n, h⟩
  | 1, r', t', h1, h2 => by cases h1; cases h2; exact ⟨m, k⟩
  | i + 2, r', t', h1, h2 => by simp at h1
set_option maxHeartbeats 2000000 in
set_option maxRecDepth 100000 in
theorem torn_out (t : ByteArray) (cut mask : Int) (w : World) (h : t.size < 1 ∨ 2000 < t.size) (hs : t.size ≤ 140737488351232) :
    Calls Tryz.prog 4 #[.string t, .int .u8 cut, .int .u64 mask] w fun e w' => e = .returned (.bool true) ∧ Below w.heap.size w w' := by
  have hw := Lib.hid (Below.refl w.heap.size w)
  by_cases h0 : t.size < 1
  · clear h
    have c0 : decide ((t.size : Int) < 1) = true := decide_eq_true (by omega)
    have c0' : decide (t.size < 1) = true := decide_eq_true (by omega)
    have c1 : decide ((t.size : Int) > 2000) = false := decide_eq_false (by omega)
    have c1' : decide (t.size > 2000) = false := decide_eq_false (by omega)
    go_enter Tryz.func4, Tryz.ntmps4
    go_wp2_with fail
    refine (awake_c w).mono ?_
    rintro e w1 ⟨rfl, hd⟩
    have HB1 := below_to hw (Nat.le_refl _) hd
    clear hd
    go_wp2_with fail
    refine (awake_c _).mono ?_
    rintro e w2 ⟨rfl, hd⟩
    have HB2 := below_to HB1 (Nat.le_refl _) hd
    clear hd
    go_wp2_with fail
    go_ret
    exact ⟨rfl, HB2.out⟩
  · have h1 : 2000 < t.size := by omega
    clear h
    have c0 : decide ((t.size : Int) < 1) = false := decide_eq_false (by omega)
    have c0' : decide (t.size < 1) = false := decide_eq_false (by omega)
    have c1 : decide ((t.size : Int) > 2000) = true := decide_eq_true (by omega)
    have c1' : decide (t.size > 2000) = true := decide_eq_true (by omega)
    have c2 : decide ((2000 : Int) < (t.size : Int)) = true := decide_eq_true (by omega)
    have c2' : decide (2000 < t.size) = true := decide_eq_true (by omega)
    go_enter Tryz.func4, Tryz.ntmps4
    go_wp2_with fail
    refine (awake_c w).mono ?_
    rintro e w1 ⟨rfl, hd⟩
    have HB1 := below_to hw (Nat.le_refl _) hd
    clear hd
    go_wp2_with fail
    refine (awake_c _).mono ?_
    rintro e w2 ⟨rfl, hd⟩
    have HB2 := below_to HB1 (Nat.le_refl _) hd
    clear hd
    go_wp2_with fail
    go_ret
    exact ⟨rfl, HB2.out⟩
set_option maxHeartbeats 8000000 in
set_option maxRecDepth 100000 in
theorem torn_in (t : ByteArray) (cut : Int) (mask : Nat) (w0 : World) (h1 : 1 ≤ t.size) (h2 : t.size ≤ 2000) (hc0 : 0 ≤ cut) (hc1 : cut < 256) (hmk : mask < 2 ^ 64) (hg : Hid (Laid w0)) :
    Calls Tryz.prog 4 #[.string t, .int .u8 cut, .int .u64 (mask : Int)] w0 fun e w' => e = .returned (.bool true) ∧ Below w0.heap.size w0 w' := by
  have c0 : decide ((t.size : Int) < 1) = false := decide_eq_false (by omega)
  have c0' : decide (t.size < 1) = false := decide_eq_false (by omega)
  have c1 : decide ((t.size : Int) > 2000) = false := decide_eq_false (by omega)
  have c1' : decide (t.size > 2000) = false := decide_eq_false (by omega)
  have c2 : decide ((2000 : Int) < (t.size : Int)) = false := decide_eq_false (by omega)
  have c2' : decide (2000 < t.size) = false := decide_eq_false (by omega)
  obtain ⟨n, hn⟩ : ∃ n, (t.size + 63) / 64 = n := ⟨_, rfl⟩
  have hn1 : 1 ≤ n := by omega
  have hn2 : n ≤ 32 := by omega
  go_enter Tryz.func4, Tryz.ntmps4
  go_wp2_with fail
  refine (awake_c w0).mono ?_
  rintro e w1 ⟨rfl, hd⟩
  have HB1 := Lib.hid hd
  clear hd
  go_wp2_with fail
  clear c0 c0' c1 c1' c2 c2'
  refine (Dk.new_c w1 120 (by decide) (by decide)).mono ?_
  rintro e w2 ⟨R, M, hR, hM, rfl, hd, hi⟩
  have H2 := Lib.hid (show IsD w2 R M (.slice none 0 0) (d0 120) from hi)
  have HB2 := below_to HB1 (Nat.le_refl _) hd
  have HRM := Lib.hid (And.intro (Nat.le_trans HB1.out.size hR) (Nat.le_trans HB1.out.size hM))
  clear hR hM hd hi HB1
  go_wp2_with fail
  refine (Format_new w2 R M _ 120 H2 (by decide) (by decide)).mono ?_
  rintro e w3 ⟨Z, H, hZ, hH, rfl, hi, hm⟩
  have HU3 : Hid (Run w0 w3 ⟨Z, R, M, H, .slice none 0 0, .slice none 0 0⟩ oE (withM []) (sF 120)) := Lib.hid (Run.new HB2.out HRM.out.1 HRM.out.2 hZ hH hm hi)
  clear hZ hH hi hm H2 HB2 HRM
  have HG0 := Lib.hid (G.start 120 (by decide) (by decide))
  have HC0 := calm_F 120
  obtain ⟨a, ha, hac, haN, haf⟩ := HG0.out.room rfl (und_F 120) (by decide) n hn1 (by omega)
  go_wp2_with fail
  refine (put_g Z R M H _ _ oE t n a w3 (Lib.hid HU3.out.is) HG0 h1 (by omega) hn ha haN haf rfl (by decide) (by decide) (by show 0 + n ≤ 9000; omega) (Nat.zero_le _)).mono ?_
  rintro e w4 (⟨_, rfl, v4, p4, hi, hg1, hs⟩ | ⟨q0, _⟩)
  rotate_left
  · exact absurd q0 (by decide)
  have HU4 := Lib.hid (HU3.out.step hs hi)
  have hC1 := HC0.put (a : Int) t n
  have hu1 := und_more (s' := putB (sF 120) (a : Int) t n) (und_F 120) hac h1 (by omega) hn rfl
  obtain ⟨r, hr⟩ : ∃ r : Rf, r = ⟨(a : Int), (t.size : Int), AdM.sum t⟩ := ⟨_, rfl⟩
  have er : (.agg (ra ⟨(a : Int), (t.size : Int), AdM.sum t⟩) : Value) = .agg (ra r) := by rw [hr]
  rw [← hr] at hg1 hu1
  obtain ⟨s1, hs1⟩ : ∃ s1, putB (sF 120) (a : Int) t n = s1 := ⟨_, rfl⟩
  rw [hs1] at hg1 hu1 hC1
  have hu4 := HU4.out
  rw [hs1] at hu4
  have HG1 := Lib.hid hg1
  have HD1 := Lib.hid hu1
  have HC1 := Lib.hid hC1
  rw [er]
  clear hi hs hg1 hC1 hu1 hs1 HU4 HU3 HG0 HC0 ha hac haN haf hr er
  have HU4 := Lib.hid hu4
  clear hu4
  go_upto_region 6 with (first | (refine wl_allocR rfl rfl ?_) | (refine wl_storeRn #[.int .i64 0, .int .i64 0, .int .u32 0] rfl r rfl _ _ rfl rfl rfl ?_))
  have hd : Below w4.heap.size w4 (w4.alloc (Obj.cells (ra r) 36 (0, 0))) := (Below.refl _ _).alloc (Nat.le_refl _) _
  have hb0 := heap_alloc_last w4 (Obj.cells (ra r) 36 (0, 0))
  have hl0 := HU4.out.is.lt
  have HU5 := Lib.hid (HU4.out.on hd)
  obtain ⟨K, hK⟩ : ∃ K, w4.heap.size = K := ⟨_, rfl⟩
  rw [hK] at hb0 hl0
  try simp only [hK]
  generalize (w4.alloc (Obj.cells (ra r) 36 (0, 0))) = w5 at *
  have HK5 := Lib.hid (show Kp w5 ⟨Z, R, M, H, v4, p4⟩ K r from ⟨hb0, fun f => Nat.lt_irrefl _ (hl0 K f)⟩)
  clear hd hb0 hl0 hK HU4
  go_wp2_with (first
    | (refine wl_loadR K r HK5.out.k rfl _ rfl rfl ?_)
    | (refine Kd.event_run rfl (exec_litR (a := r.f0) (b := r.f1) (c := r.f2) rfl rfl _) ?_
       have hd : Below w5.heap.size w5 (w5.alloc (Obj.cells #[.int .i64 r.f0, .int .i64 r.f1, .int .u32 r.f2] 36 (0, 0))) := (Below.refl _ _).alloc (Nat.le_refl _) _
       have hb0 := heap_alloc_last w5 (Obj.cells #[.int .i64 r.f0, .int .i64 r.f1, .int .u32 r.f2] 36 (0, 0))
       generalize (w5.alloc (Obj.cells #[.int .i64 r.f0, .int .i64 r.f1, .int .u32 r.f2] 36 (0, 0))) = w6 at *))
  have HU6 := Lib.hid (HU5.out.on hd)
  have HK6 := Lib.hid (HK5.out.on hd)
  have hC := (Kd.R_reads' (R_one hb0)).2.2
  have hlt := HU6.out.is.lt
  clear hd hb0 HU5 HK5
  refine (with_c _ 1 1 [r] w6 rfl (by decide) (by decide) hC).mono ?_
  rintro e w7 ⟨o1, rfl, hO, hd⟩
  have HU7 := Lib.hid (HU6.out.on hd)
  have HK7 := Lib.hid (HK6.out.on hd)
  have hA : ManOut w7 ⟨Z, R, M, H, v4, p4⟩ o1 (withM [r]) := fun w2 h2 _ => (hO.step (fun i hi hl => h2 i hl (fun f => by have := hlt i f; omega))).at_
  have HA := Lib.hid hA
  clear hO hd hC hlt hA HU6 HK6
  obtain ⟨m1, m2, m3, m4⟩ := HG1.out.man (rs2 := [r]) (fun x hx => hx) (List.pairwise_singleton _ _) (Nat.le_of_ble_eq_true rfl)
  obtain ⟨t1, ht1⟩ : ∃ t1, layM (withM [r]) = t1 := ⟨_, rfl⟩
  rw [ht1] at m3 m4
  obtain ⟨n1, hn3⟩ : ∃ n1, (t1.size + 63) / 64 = n1 := ⟨_, rfl⟩
  obtain ⟨a1, ha, hac, haN, haf⟩ := HG1.out.room HC1.out.hd HD1.out (by omega) n1 (by omega) (by omega)
  have htx := HG1.out.fr
  go_wp2_with fail
  have hsf := HC1.out.sf
  refine (switch_g Z R M H v4 p4 oE o1 [r] [t] t1 n1 a1 w7 (Lib.hid HU7.out.is) HG1 (fun x hx => hx) (List.pairwise_singleton _ _) (Nat.le_of_ble_eq_true rfl) rfl htx HA ht1 hn3 ha haN haf HC1.out.dn (by rw [HC1.out.b]; decide) (by rw [HC1.out.b]; decide) (by omega) (by rw [HC1.out.gn]; decide) (Nat.le_of_ble_eq_true rfl)).mono ?_
  rintro e w8 (⟨_, rfl, o2, hi, hg1, hs⟩ | ⟨q0, _⟩)
  rotate_left
  · rw [HC1.out.b] at q0
    exact absurd q0 (by decide)
  have HU8 := Lib.hid (HU7.out.step hs hi)
  have HK8 := Lib.hid (HK7.out.step hs)
  have hC1 := HC1.out.sw (a1 : Int) t1 n1
  have hu1 := und_sw (l2 := [r] ++ []) HD1.out (fun x hx => hx) hac m3 (by omega) hn3
  obtain ⟨s2, hs2⟩ : ∃ s2, swB s1 (a1 : Int) t1 n1 = s2 := ⟨_, rfl⟩
  have hu := HU8.out
  rw [hs2] at hg1 hu1 hC1 hu
  have HG2 := Lib.hid hg1
  have HD2 := Lib.hid hu1
  have HC2 := Lib.hid hC1
  clear hi hs hg1 hC1 hu1 hs2 HG1 HC1 HD1 ha hac haN haf htx HA m1 m2 m3 ht1 hsf HU8 HU7 HK7
  have HU8 := Lib.hid hu
  clear hu
  obtain ⟨t2, ht2⟩ : ∃ t2, t ++ ({ data := #[33] } : ByteArray) = t2 := ⟨_, rfl⟩
  have hs2 : t2.size = t.size + 1 := by rw [← ht2, ByteArray.size_append]; rfl
  obtain ⟨n2, hn4⟩ : ∃ n2, (t2.size + 63) / 64 = n2 := ⟨_, rfl⟩
  obtain ⟨a, ha, hac, haN, haf⟩ := HG2.out.room HC2.out.hd HD2.out (by omega) n2 (by omega) (by omega)
  go_wp2_with fail
  have hsf := HC2.out.sf
  try rw [ht2]
  refine (put_g Z R M H _ _ o2 t2 n2 a w8 (Lib.hid HU8.out.is) HG2 (by omega) (by omega) hn4 ha haN haf HC2.out.dn (by rw [HC2.out.b]; decide) (by rw [HC2.out.b]; decide) (by omega) (by decide)).mono ?_
  rintro e w9 (⟨_, rfl, v4, p4, hi, hg1, hs⟩ | ⟨q0, _⟩)
  rotate_left
  · rw [HC2.out.b] at q0
    exact absurd q0 (by decide)
  have HU9 := Lib.hid (HU8.out.step hs hi)
  have HK9 := Lib.hid (HK8.out.step hs)
  have hC1 := HC2.out.put (a : Int) t2 n2
  have hu1 := und_more (s' := putB s2 (a : Int) t2 n2) HD2.out hac (by omega) (by omega) hn4 rfl
  obtain ⟨r2, hr⟩ : ∃ r2 : Rf, r2 = ⟨(a : Int), (t2.size : Int), AdM.sum t2⟩ := ⟨_, rfl⟩
  have er : (.agg (ra ⟨(a : Int), (t2.size : Int), AdM.sum t2⟩) : Value) = .agg (ra r2) := by rw [hr]
  rw [← hr] at hg1 hu1
  obtain ⟨s3, hs3⟩ : ∃ s3, putB s2 (a : Int) t2 n2 = s3 := ⟨_, rfl⟩
  have hu := HU9.out
  rw [hs3] at hg1 hu1 hC1 hu
  have HG3 : Hid (G 120 s3 [r] [t] [r2] [t2]) := Lib.hid hg1
  have HD3 : Hid (Und (3 + n + n1 + n2) s3 [r, r2]) := Lib.hid hu1
  have HC3 := Lib.hid hC1
  rw [er]
  clear hi hs hg1 hC1 hu1 hs3 HG2 HC2 HD2 ha hac haN haf hsf hr er HU9 HU8 HK8
  have HU9 := Lib.hid hu
  clear hu
  go_upto_region 8 with (first | (refine wl_allocR rfl rfl ?_) | (refine wl_storeRn #[.int .i64 0, .int .i64 0, .int .u32 0] rfl r2 rfl _ _ rfl rfl rfl ?_))
  have hd : Below w9.heap.size w9 (w9.alloc (Obj.cells (ra r2) 36 (0, 0))) := (Below.refl _ _).alloc (Nat.le_refl _) _
  have hb0 := heap_alloc_last w9 (Obj.cells (ra r2) 36 (0, 0))
  have hl0 := HU9.out.is.lt
  have HU10 := Lib.hid (HU9.out.on hd)
  have HK10 := Lib.hid (HK9.out.on hd)
  obtain ⟨J, hJ⟩ : ∃ J, w9.heap.size = J := ⟨_, rfl⟩
  rw [hJ] at hb0 hl0
  try simp only [hJ]
  generalize (w9.alloc (Obj.cells (ra r2) 36 (0, 0))) = w10 at *
  have HJ10 := Lib.hid (show Kp w10 ⟨Z, R, M, H, v4, p4⟩ J r2 from ⟨hb0, fun f => Nat.lt_irrefl _ (hl0 J f)⟩)
  clear hd hb0 hl0 hJ HU9 HK9
  go_wp2_with (first
    | (refine wl_loadR J r2 HJ10.out.k rfl _ rfl rfl ?_)
    | (refine wl_loadR K r HK10.out.k rfl _ rfl rfl ?_)
    | (refine Kd.event_run rfl (exec_litR2 (p := r2) (q := r) rfl rfl rfl _) ?_
       have hd : Below w10.heap.size w10 (w10.alloc (Obj.cells #[.int .i64 r2.f0, .int .i64 r2.f1, .int .u32 r2.f2, .int .i64 r.f0, .int .i64 r.f1, .int .u32 r.f2] 36 (0, 0))) := (Below.refl _ _).alloc (Nat.le_refl _) _
       have hb0 := heap_alloc_last w10 (Obj.cells #[.int .i64 r2.f0, .int .i64 r2.f1, .int .u32 r2.f2, .int .i64 r.f0, .int .i64 r.f1, .int .u32 r.f2] 36 (0, 0))
       generalize (w10.alloc (Obj.cells #[.int .i64 r2.f0, .int .i64 r2.f1, .int .u32 r2.f2, .int .i64 r.f0, .int .i64 r.f1, .int .u32 r.f2] 36 (0, 0))) = w11 at *))
  have HU11 := Lib.hid (HU10.out.on hd)
  have HK11 := Lib.hid (HK10.out.on hd)
  have HJ11 := Lib.hid (HJ10.out.on hd)
  have hC := (Kd.R_reads' (R_two hb0)).2.2
  have hlt := HU11.out.is.lt
  clear hd hb0 HU10 HK10 HJ10
  refine (with_c _ 2 2 [r2, r] w11 rfl (by decide) (by decide) hC).mono ?_
  rintro e w12 ⟨o3, rfl, hO, hd⟩
  have HU12 := Lib.hid (HU11.out.on hd)
  have HK12 := Lib.hid (HK11.out.on hd)
  have HJ12 := Lib.hid (HJ11.out.on hd)
  have hA : ManOut w12 ⟨Z, R, M, H, v4, p4⟩ o3 (withM [r2, r]) := fun w2 h2 _ => (hO.step (fun i hi hl => h2 i hl (fun f => by have := hlt i f; omega))).at_
  have HA := Lib.hid hA
  clear hO hd hC hlt hA HU11 HK11 HJ11
  go_upto_region 9 with (first | (refine wl_allocM rfl rfl ?_) | (refine wl_storeMn #[.slice none 0 0, .slice none 0 0, .int .i64 0, .slice none 0 0] rfl o3 (withM [r2, r]) rfl _ _ rfl rfl rfl ?_))
  have hd : Below w12.heap.size w12 (w12.alloc (Obj.cells (Loc.a o3 (withM [r2, r])) 43 (0, 0))) := (Below.refl _ _).alloc (Nat.le_refl _) _
  have hb0 := heap_alloc_last w12 (Obj.cells (Loc.a o3 (withM [r2, r])) 43 (0, 0))
  have hl0 := HU12.out.is.lt
  have HU13 := Lib.hid (HU12.out.on hd)
  have HK13 := Lib.hid (HK12.out.on hd)
  have HJ13 := Lib.hid (HJ12.out.on hd)
  obtain ⟨B, hB⟩ : ∃ B, w12.heap.size = B := ⟨_, rfl⟩
  rw [hB] at hb0 hl0
  try simp only [hB]
  generalize (w12.alloc (Obj.cells (Loc.a o3 (withM [r2, r])) 43 (0, 0))) = w13 at *
  have HB13 := Lib.hid (show Mp w13 ⟨Z, R, M, H, v4, p4⟩ B o3 (withM [r2, r]) from ⟨hb0, fun f => Nat.lt_irrefl _ (hl0 B f), HA.out.on hd⟩)
  clear hd hb0 hl0 hB HU12 HK12 HJ12
  clear HA
  go_wp2_with fail
  refine (code_nil w13).mono ?_
  rintro e w14 ⟨rfl, hd⟩
  have HU14 := Lib.hid (HU13.out.on hd)
  have HK14 := Lib.hid (HK13.out.on hd)
  have HJ14 := Lib.hid (HJ13.out.on hd)
  have HB14 := Lib.hid (HB13.out.on hd)
  clear hd HU13 HK13 HJ13 HB13
  go_wp2_with fail
  refine (code_nil w14).mono ?_
  rintro e w15 ⟨rfl, hd⟩
  have HU15 := Lib.hid (HU14.out.on hd)
  have HK15 := Lib.hid (HK14.out.on hd)
  have HJ15 := Lib.hid (HJ14.out.on hd)
  have HB15 := Lib.hid (HB14.out.on hd)
  clear hd HU14 HK14 HJ14 HB14
  go_wp2_with fail
  refine (code_nil w15).mono ?_
  rintro e w16 ⟨rfl, hd⟩
  have HU16 := Lib.hid (HU15.out.on hd)
  have HK16 := Lib.hid (HK15.out.on hd)
  have HJ16 := Lib.hid (HJ15.out.on hd)
  have HB16 := Lib.hid (HB15.out.on hd)
  clear hd HU15 HK15 HJ15 HB15
  go_wp2_with fail
  refine (code_nil w16).mono ?_
  rintro e w17 ⟨rfl, hd⟩
  have HU17 := Lib.hid (HU16.out.on hd)
  have HK17 := Lib.hid (HK16.out.on hd)
  have HJ17 := Lib.hid (HJ16.out.on hd)
  have HB17 := Lib.hid (HB16.out.on hd)
  clear hd HU16 HK16 HJ16 HB16
  go_wp2_with fail
  refine (code_nil w17).mono ?_
  rintro e w18 ⟨rfl, hd⟩
  have HU18 := Lib.hid (HU17.out.on hd)
  have HK18 := Lib.hid (HK17.out.on hd)
  have HJ18 := Lib.hid (HJ17.out.on hd)
  have HB18 := Lib.hid (HB17.out.on hd)
  clear hd HU17 HK17 HJ17 HB17
  obtain ⟨b, hb⟩ : ∃ b, cut.tmod 6 = b := ⟨_, rfl⟩
  have hb0 : 0 ≤ b := by rw [← hb]; exact Int.tmod_nonneg _ hc0
  have hb6 : b < 6 := by rw [← hb]; exact Int.tmod_lt_of_pos _ (by decide)
  go_wp2_with fail
  clear hb
  refine (Dk.budget_c w18 R M v4 s3.d b (Lib.hid HU18.out.is.dsk)).mono ?_
  rintro e w19 ⟨rfl, hm0, hd⟩
  have hm := hm0.mono (fun _ _ h => (show Ft R M v4 _ from .inl h))
  obtain ⟨hi, hs⟩ := HU18.out.is.disk hm hd (fun i hi => .inl hi)
  have HU19 := Lib.hid (HU18.out.step hs hi)
  have HK19 := Lib.hid (HK18.out.step hs)
  have HJ19 := Lib.hid (HJ18.out.step hs)
  have HB19 := Lib.hid (HB18.out.step hs)
  have hg1 := HG3.out.bud (max b (-1)) s3.d.down
  obtain ⟨s4, hs4⟩ : ∃ s4 : St, { s3 with d := { s3.d with budget := max b (-1) } } = s4 := ⟨_, rfl⟩
  have hg2 : G 120 s4 [r] [t] [r2] [t2] := by rw [← hs4]; exact hg1
  have eb : s4.d.budget = b := by
    rw [← hs4]
    show max b (-1) = b
    omega
  have ed : s4.d.down = false := by rw [← hs4]; exact HC3.out.dn
  have el : s4.d.soft.length ≤ 0 + n2 := by rw [← hs4]; exact HC3.out.sf
  have eg : s4.gen = 1 + 1 := by rw [← hs4]; exact HC3.out.gn
  have eh : s4.held = [] := by rw [← hs4]; exact HC3.out.hd
  have hu1 : Und (3 + n + n1 + n2) s4 ([r] ++ [r2]) := by rw [← hs4]; exact HD3.out
  have hu := HU19.out
  rw [hs4] at hu
  have HG4 := Lib.hid hg2
  have HD4 := Lib.hid hu1
  clear hi hs hm hm0 hd hg1 hg2 hs4 HG3 HD3 HC3 hu1 HU19 HU18 HK18 HJ18 HB18
  have HU19 := Lib.hid hu
  clear hu
  have hpa := HG4.out.apR
  have hap : [r2, r].Pairwise Ap := by
    have z := (List.pairwise_cons.1 hpa).1 r2 (List.mem_singleton.2 rfl)
    exact List.pairwise_cons.2 ⟨fun x hx => by rw [List.mem_singleton] at hx; rw [hx]; exact z.symm, List.pairwise_singleton _ _⟩
  have hsub : ∀ x ∈ [r2, r], x ∈ [r] ++ [r2] := fun x hx => by
    simp only [List.mem_cons, List.not_mem_nil, or_false, List.singleton_append] at hx ⊢
    exact hx.symm
  obtain ⟨k1, hk1⟩ := HG4.out.fr 0 r2 t2 rfl rfl
  obtain ⟨k2, hk2⟩ := HG4.out.read 0 r t rfl rfl
  have htx := two_txt hk1 hk2
  obtain ⟨m1, m2, m3, m4⟩ := HG4.out.man hsub hap (Nat.le_of_ble_eq_true rfl)
  obtain ⟨t3, ht3⟩ : ∃ t3, layM (withM [r2, r]) = t3 := ⟨_, rfl⟩
  rw [ht3] at m3 m4
  obtain ⟨n3, hn5⟩ : ∃ n3, (t3.size + 63) / 64 = n3 := ⟨_, rfl⟩
  obtain ⟨a2, ha, hac, haN, haf⟩ := HG4.out.room eh HD4.out (by omega) n3 (by omega) (by omega)
  clear hpa hk1 hk2
  have HAo := Lib.hid HB19.out.m
  go_wp2_with (first | (refine wl_loadM B o3 (withM [r2, r]) HB19.out.k rfl _ rfl rfl ?_))
  refine (switch_g Z R M H v4 p4 o2 o3 [r2, r] [t2, t] t3 n3 a2 w19 (Lib.hid HU19.out.is) HG4 hsub hap (Nat.le_of_ble_eq_true rfl) rfl htx HAo ht3 hn5 ha haN haf ed (by rw [eb]; omega) (by rw [eb]; omega) (by omega) (by rw [eg]; decide) (Nat.le_of_ble_eq_true rfl)).mono ?_
  rintro e w20 (⟨_, rfl, o4, hi, hg1, hs⟩ | ⟨_, _, ⟨T, u, rfl, he⟩, v5, p5, d5, hi, hg1, hd5, _, hl5, hs⟩)
  · have HU20 := Lib.hid (HU19.out.step hs hi)
    have HK20 := Lib.hid (HK19.out.step hs)
    have HJ20 := Lib.hid (HJ19.out.step hs)
    have HB20 := Lib.hid (HB19.out.step hs)
    obtain ⟨s5, hs5⟩ : ∃ s5, swB s4 (a2 : Int) t3 n3 = s5 := ⟨_, rfl⟩
    have hu := HU20.out
    rw [hs5] at hg1 hu
    have hd5 : s5.d.down = false := by rw [← hs5]; exact ed
    have hl5 : s5.d.soft.length ≤ 9000 := by rw [← hs5]; exact Nat.zero_le _
    have HG5 := Lib.hid hg1
    clear hi hs hg1 hs5 HU20 HG4 HD4 HAo hap hsub htx m1 m2 m3 ht3 ha hac haN haf el eg eh HU19 HK19 HJ19 HB19
    have HU20 := Lib.hid hu
    clear hu
    go_wp2_with fail
    refine (Dk.budget_c w20 R M (.slice none 0 0) s5.d (-1) (Lib.hid HU20.out.is.dsk)).mono ?_
    rintro e w21 ⟨rfl, hm0, hd⟩
    have hm := hm0.mono (fun _ _ h => (show Ft R M (.slice none 0 0) _ from .inl h))
    clear hm0
    obtain ⟨hi, hs⟩ := HU20.out.is.disk hm hd (fun i hi => .inl hi)
    have HU21 := Lib.hid (HU20.out.step hs hi)
    have HK21 := Lib.hid (HK20.out.step hs)
    have HJ21 := Lib.hid (HJ20.out.step hs)
    have HB21 := Lib.hid (HB20.out.step hs)
    clear hi hs hm hd HU20 HK20 HJ20 HB20
    go_wp2_with fail
    refine (Dk.crash_c w21 R M (.slice none 0 0) ({ s5.d with budget := max (-1) (-1) }) mask (Lib.hid HU21.out.is.dsk) hmk hl5).mono ?_
    rintro e w22 ⟨rfl, hm, hd⟩
    obtain ⟨hi, hs⟩ := HU21.out.is.disk hm hd Slt.ft_nil
    have HU22 := Lib.hid (HU21.out.step hs hi)
    have HK22 := Lib.hid (HK21.out.step hs)
    have HJ22 := Lib.hid (HJ21.out.step hs)
    have HB22 := Lib.hid (HB21.out.step hs)
    clear hi hs hm hd HU21 HK21 HJ21 HB21
    go_wp2_with fail
    refine (Dk.up_c w22 R M (.slice none 0 0) ({ ({ s5.d with budget := max (-1) (-1) }) with firm := stl mask (({ s5.d with budget := max (-1) (-1) })).firm (({ s5.d with budget := max (-1) (-1) })).soft 0, soft := [], down := true }) (Lib.hid HU22.out.is.dsk)).mono ?_
    rintro e w23 ⟨rfl, hm0, hd⟩
    have hm := hm0.mono (fun _ _ h => (show Ft R M (.slice none 0 0) _ from .inl h))
    clear hm0
    obtain ⟨hi, hs⟩ := HU22.out.is.disk hm hd (fun i hi => .inl hi)
    have HU23 := Lib.hid (HU22.out.step hs hi)
    have HK23 := Lib.hid (HK22.out.step hs)
    have HJ23 := Lib.hid (HJ22.out.step hs)
    have HB23 := Lib.hid (HB22.out.step hs)
    clear hi hs hm hd HU22 HK22 HJ22 HB22
    have hg1 := HG5.out.crash mask (max (-1) (-1)) false
    obtain ⟨d6, hd6⟩ : ∃ d6 : Dsk, { s5.d with firm := stl mask s5.d.firm s5.d.soft 0, soft := [], down := false, budget := max (-1) (-1) } = d6 := ⟨_, rfl⟩
    have hi6 : IsD w23 R M (.slice none 0 0) d6 := by rw [← hd6]; exact HU23.out.is.dsk
    rw [hd6] at hg1
    have dn6 : d6.down = false := by rw [← hd6]
    have sf6 : d6.soft.length ≤ 9000 := by rw [← hd6]; exact Nat.zero_le _
    obtain ⟨g6, hg6⟩ : ∃ g6, s5.gen = g6 := ⟨_, rfl⟩
    obtain ⟨u6, hu6⟩ : ∃ u6, s5.own = u6 := ⟨_, rfl⟩
    rw [hg6, hu6] at hg1
    have HG6 := Lib.hid hg1
    have HI6 := Lib.hid hi6
    clear hg1 hd6 hi6 HG5 hg6 hu6
    go_wp2_with fail
    refine (open_g w23 R M (.slice none 0 0) d6 g6 u6 HI6 HG6.out dn6 sf6).mono ?_
    rintro e w24 ⟨Z2, H2, o5, _, _, rfl, hx, hd⟩
    have HU24 := Lib.hid (HU23.out.on hd)
    have HK24 := Lib.hid (HK23.out.on hd)
    have HJ24 := Lib.hid (HJ23.out.on hd)
    have HB24 := Lib.hid (HB23.out.on hd)
    have HX24 := Lib.hid hx
    clear hx hd HI6 HU23 HK23 HJ23 HB23
    have sz6 : (sO d6 ⟨g6, u6.f0, u6.f1, u6.f2⟩).d.size ≤ 2048 := by rw [HG6.out.size]; decide
    go_wp2_with fail
    refine (code_nil w24).mono ?_
    rintro e w25 ⟨rfl, hd⟩
    have HU25 := Lib.hid (HU24.out.on hd)
    have HK25 := Lib.hid (HK24.out.on hd)
    have HJ25 := Lib.hid (HJ24.out.on hd)
    have HB25 := Lib.hid (HB24.out.on hd)
    have HX25 := Lib.hid (HX24.out.on hd)
    clear hd HU24 HK24 HJ24 HB24 HX24
    obtain ⟨k3, hk3⟩ := HG6.out.read 1 r t rfl rfl
    go_wp2_with (first | (refine wl_loadR K r HK25.out.k rfl _ rfl rfl ?_))
    refine (get_txt Z2 R M H2 _ _ o5 (withM [r2, r]) (sO d6 ⟨g6, u6.f0, u6.f1, u6.f2⟩) r k3 t w25 HX25 (Lib.hid dn6) sz6 sf6 hk3).mono ?_
    rintro e w26 ⟨rfl, hd⟩
    have HU26 := Lib.hid (HU25.out.on hd)
    have HK26 := Lib.hid (HK25.out.on hd)
    have HJ26 := Lib.hid (HJ25.out.on hd)
    have HB26 := Lib.hid (HB25.out.on hd)
    have HX26 := Lib.hid (HX25.out.on hd)
    clear hd HU25 HK25 HJ25 HB25 HX25
    go_wp2_with fail
    refine (code_nil w26).mono ?_
    rintro e w27 ⟨rfl, hd⟩
    have HU27 := Lib.hid (HU26.out.on hd)
    have HK27 := Lib.hid (HK26.out.on hd)
    have HJ27 := Lib.hid (HJ26.out.on hd)
    have HB27 := Lib.hid (HB26.out.on hd)
    have HX27 := Lib.hid (HX26.out.on hd)
    clear hd HU26 HK26 HJ26 HB26 HX26
    go_wp2_with fail
    refine (code_nil w27).mono ?_
    rintro e w28 ⟨rfl, hd⟩
    have HU28 := Lib.hid (HU27.out.on hd)
    have HK28 := Lib.hid (HK27.out.on hd)
    have HJ28 := Lib.hid (HJ27.out.on hd)
    have HB28 := Lib.hid (HB27.out.on hd)
    have HX28 := Lib.hid (HX27.out.on hd)
    clear hd HU27 HK27 HJ27 HB27 HX27
    obtain ⟨k4, hk4⟩ := HG6.out.read 0 r2 t2 rfl rfl
    go_wp2_with (first | (refine wl_loadR J r2 HJ28.out.k rfl _ rfl rfl ?_))
    refine (get_txt Z2 R M H2 _ _ o5 (withM [r2, r]) (sO d6 ⟨g6, u6.f0, u6.f1, u6.f2⟩) r2 k4 t2 w28 HX28 (Lib.hid dn6) sz6 sf6 hk4).mono ?_
    rintro e w29 ⟨rfl, hd⟩
    have HU29 := Lib.hid (HU28.out.on hd)
    have HK29 := Lib.hid (HK28.out.on hd)
    have HJ29 := Lib.hid (HJ28.out.on hd)
    have HB29 := Lib.hid (HB28.out.on hd)
    have HX29 := Lib.hid (HX28.out.on hd)
    clear hd HU28 HK28 HJ28 HB28 HX28
    have cc : (9223372036854775807 < t.size + 1) = False := eq_false (by omega)
    go_upto_region 24 with fail
    have hd : Below w29.heap.size w29 (World.drew w29) := (Below.refl _ _).drew
    have HU30 := Lib.hid (HU29.out.on hd)
    have HK30 := Lib.hid (HK29.out.on hd)
    have HJ30 := Lib.hid (HJ29.out.on hd)
    have HB30 := Lib.hid (HB29.out.on hd)
    have HX30 := Lib.hid (HX29.out.on hd)
    clear hd HU29 HK29 HJ29 HB29 HX29
    refine start_ (n := 17) (S := fun w' => w'.heap[B]? = some (Obj.cells (Loc.a o3 (withM [r2, r])) 43 (0, 0))) (ds := []) #[false, false, false, false, false, false, false, false, false, false, false, false, false, false, false, false, false] (by kernel_rfl) rfl rfl (HB30.out.k) (fun hHeld => ?_)
    refine pure_ (i := 0) (N := some 137) (v := ?_) (a' := ?_) #[true, false, false, false, false, false, false, false, false, false, false, false, false, false, false, false, false] rfl rfl (by kernel_rfl) (fun _ _ _ h => h) (Or.inl ⟨by rfl, ?_⟩) ?_ ?_
    rotate_left
    · intro w'
      go_simp
      with_reducible rfl
    rotate_left
    · simp only [Act.put, List.setIfInBounds_toArray, List.set_cons_zero, List.set_cons_succ, i64_w, i32_w]
      rfl
    refine take_ (i := 2) (N := some 139) (v := ?_) (a' := ?_) #[true, false, true, false, false, false, false, false, false, false, false, false, false, false, false, false, false] rfl rfl (by kernel_rfl) (fun _ _ _ h => h) (Or.inl ⟨by rfl, ?_⟩) hHeld ?_ ?_
    rotate_left
    · intro w' s0
      refine (exec_loadM (x := .tmp 16) ?_ ?_  s0).trans ?_
      · rfl
      · rfl
      · with_reducible rfl
    rotate_left
    · simp only [Act.put, List.setIfInBounds_toArray, List.set_cons_zero, List.set_cons_succ, i64_w, i32_w]
      rfl
    refine one_ (i := 1) (N := some 138) #[true, true, true, false, false, false, false, false, false, false, false, false, false, false, false, false, false] rfl rfl (by kernel_rfl) (by decide) (fun K hK => ?_)
    refine goes_ Tryz.func17 (by kernel_rfl) rfl #[.pointer (some ⟨Z2, 0, none⟩)] (by rfl) rfl rfl (by simp only [List.map_toArray, List.map_cons, List.map_nil]; rfl) ?_
    with_reducible refine (Manifest_m Z2 R M H2 _ _ o5 (withM [r2, r]) (sO d6 ⟨g6, u6.f0, u6.f1, u6.f2⟩) _ HX30 rfl (Nat.le_of_ble_eq_true rfl) (Nat.le_of_ble_eq_true rfl)).mono ?_
    rintro e w31 ⟨o6, rfl, ha6, hd⟩
    refine ⟨_, rfl, ?_⟩
    have HU31 := Lib.hid (HU30.out.on hd)
    have HK31 := Lib.hid (HK30.out.on hd)
    have HJ31 := Lib.hid (HJ30.out.on hd)
    have HB31 := Lib.hid (HB30.out.on hd)
    have HX31 := Lib.hid (HX30.out.on hd)
    have HQ := Lib.hid ha6
    have HQ2 := Lib.hid HB31.out.m.at
    clear ha6
    clear hd HU30 HK30 HJ30 HB30 HX30
    have HQ31 := HQ
    have HP31 := HQ2
    clear HQ HQ2
    refine hK.out _ _ (HB31.out.k) (fun hHeld => ?_)
    clear hK K
    refine norm_ (a' := ?_) ?_ ?_
    rotate_left
    · show Act.put _ (some 138) _ = _
      simp only [Act.put, List.setIfInBounds_toArray, List.set_cons_zero, List.set_cons_succ, i64_w, i32_w]
      rfl
    refine one_ (i := 3) (N := some 140) #[true, true, true, true, false, false, false, false, false, false, false, false, false, false, false, false, false] rfl rfl (by kernel_rfl) (by decide) (fun K hK => ?_)
    refine goes_ Tryz.func16 (by kernel_rfl) rfl #[.agg (Loc.a o6 (withM [r2, r])), .agg (Loc.a o3 (withM [r2, r]))] (by rfl) rfl rfl (by simp only [List.map_toArray, List.map_cons, List.map_nil]; rfl) ?_
    with_reducible refine (sameM_c o6 o3 (withM [r2, r]) _ HQ31.out HP31.out rfl (Nat.le_of_ble_eq_true rfl) (Nat.le_of_ble_eq_true rfl)).mono ?_
    rintro e w32 ⟨rfl, hd⟩
    refine ⟨_, rfl, ?_⟩
    have HU32 := Lib.hid (HU31.out.on hd)
    have HK32 := Lib.hid (HK31.out.on hd)
    have HJ32 := Lib.hid (HJ31.out.on hd)
    have HB32 := Lib.hid (HB31.out.on hd)
    have HX32 := Lib.hid (HX31.out.on hd)
    have HQ32 := Lib.hid (HQ31.out.on hd)
    have HP32 := Lib.hid (HP31.out.on hd)
    clear hd HU31 HK31 HJ31 HB31 HX31 HQ31 HP31
    refine hK.out _ _ (HB32.out.k) (fun hHeld => ?_)
    clear hK K
    refine norm_ (a' := ?_) ?_ ?_
    rotate_left
    · show Act.put _ (some 140) _ = _
      simp only [Act.put, List.setIfInBounds_toArray, List.set_cons_zero, List.set_cons_succ, i64_w, i32_w]
      rfl
    refine pure_ (i := 4) (N := some 141) (v := ?_) (a' := ?_) #[true, true, true, true, true, false, false, false, false, false, false, false, false, false, false, false, false] rfl rfl (by kernel_rfl) (fun _ _ _ h => h) (Or.inl ⟨by rfl, ?_⟩) ?_ ?_
    rotate_left
    · intro w'
      go_simp
      with_reducible rfl
    rotate_left
    · simp only [Act.put, List.setIfInBounds_toArray, List.set_cons_zero, List.set_cons_succ, i64_w, i32_w]
      rfl
    refine pure_ (i := 5) (N := some 142) (v := ?_) (a' := ?_) #[true, true, true, true, true, true, false, false, false, false, false, false, false, false, false, false, false] rfl rfl (by kernel_rfl) (fun _ _ _ h => h) (Or.inl ⟨by rfl, ?_⟩) ?_ ?_
    rotate_left
    · intro w'
      go_simp
      with_reducible rfl
    rotate_left
    · simp only [Act.put, List.setIfInBounds_toArray, List.set_cons_zero, List.set_cons_succ, i64_w, i32_w]
      rfl
    refine pure_ (i := 6) (N := some 143) (v := ?_) (a' := ?_) #[true, true, true, true, true, true, true, false, false, false, false, false, false, false, false, false, false] rfl rfl (by kernel_rfl) (fun _ _ _ h => h) (Or.inl ⟨by rfl, ?_⟩) ?_ ?_
    rotate_left
    · intro w'
      go_simp
      with_reducible rfl
    rotate_left
    · simp only [Act.put, List.setIfInBounds_toArray, List.set_cons_zero, List.set_cons_succ, i64_w, i32_w]
      rfl
    refine one_ (i := 7) (N := some 144) #[true, true, true, true, true, true, true, true, false, false, false, false, false, false, false, false, false] rfl rfl (by kernel_rfl) (by decide) (fun K hK => ?_)
    refine goes_ Tryz.func10 (by kernel_rfl) rfl #[.nilIface] (by rfl) rfl rfl (by simp only [List.map_toArray, List.map_cons, List.map_nil]; rfl) ?_
    with_reducible refine (code_nil _).mono ?_
    rintro e w33 ⟨rfl, hd⟩
    refine ⟨_, rfl, ?_⟩
    have HU33 := Lib.hid (HU32.out.on hd)
    have HK33 := Lib.hid (HK32.out.on hd)
    have HJ33 := Lib.hid (HJ32.out.on hd)
    have HB33 := Lib.hid (HB32.out.on hd)
    have HX33 := Lib.hid (HX32.out.on hd)
    have HQ33 := Lib.hid (HQ32.out.on hd)
    have HP33 := Lib.hid (HP32.out.on hd)
    clear hd HU32 HK32 HJ32 HB32 HX32 HQ32 HP32
    refine hK.out _ _ (HB33.out.k) (fun hHeld => ?_)
    clear hK K
    refine norm_ (a' := ?_) ?_ ?_
    rotate_left
    · show Act.put _ (some 144) _ = _
      simp only [Act.put, List.setIfInBounds_toArray, List.set_cons_zero, List.set_cons_succ, i64_w, i32_w]
      rfl
    refine pure_ (i := 8) (N := some 145) (v := ?_) (a' := ?_) #[true, true, true, true, true, true, true, true, true, false, false, false, false, false, false, false, false] rfl rfl (by kernel_rfl) (fun _ _ _ h => h) (Or.inl ⟨by rfl, ?_⟩) ?_ ?_
    rotate_left
    · intro w'
      go_simp
      with_reducible rfl
    rotate_left
    · simp only [Act.put, List.setIfInBounds_toArray, List.set_cons_zero, List.set_cons_succ, i64_w, i32_w]
      rfl
    refine pure_ (i := 9) (N := some 146) (v := ?_) (a' := ?_) #[true, true, true, true, true, true, true, true, true, true, false, false, false, false, false, false, false] rfl rfl (by kernel_rfl) (fun _ _ _ h => h) (Or.inl ⟨by rfl, ?_⟩) ?_ ?_
    rotate_left
    · intro w'
      go_simp
      with_reducible rfl
    rotate_left
    · simp only [Act.put, List.setIfInBounds_toArray, List.set_cons_zero, List.set_cons_succ, i64_w, i32_w]
      rfl
    refine pure_ (i := 10) (N := some 147) (v := ?_) (a' := ?_) #[true, true, true, true, true, true, true, true, true, true, true, false, false, false, false, false, false] rfl rfl (by kernel_rfl) (fun _ _ _ h => h) (Or.inl ⟨by rfl, ?_⟩) ?_ ?_
    rotate_left
    · intro w'
      go_simp
      with_reducible rfl
    rotate_left
    · simp only [Act.put, List.setIfInBounds_toArray, List.set_cons_zero, List.set_cons_succ, i64_w, i32_w]
      rfl
    refine pure_ (i := 11) (N := some 148) (v := ?_) (a' := ?_) #[true, true, true, true, true, true, true, true, true, true, true, true, false, false, false, false, false] rfl rfl (by kernel_rfl) (fun _ _ _ h => h) (Or.inl ⟨by rfl, ?_⟩) ?_ ?_
    rotate_left
    · intro w'
      go_simp
      with_reducible rfl
    rotate_left
    · simp only [Act.put, List.setIfInBounds_toArray, List.set_cons_zero, List.set_cons_succ, i64_w, i32_w]
      rfl
    refine pure_ (i := 12) (N := some 149) (v := ?_) (a' := ?_) #[true, true, true, true, true, true, true, true, true, true, true, true, true, false, false, false, false] rfl rfl (by kernel_rfl) (fun _ _ _ h => h) (Or.inl ⟨by rfl, ?_⟩) ?_ ?_
    rotate_left
    · intro w'
      go_simp
      with_reducible rfl
    rotate_left
    · simp only [Act.put, List.setIfInBounds_toArray, List.set_cons_zero, List.set_cons_succ, i64_w, i32_w]
      rfl
    refine pure_ (i := 13) (N := some 150) (v := ?_) (a' := ?_) #[true, true, true, true, true, true, true, true, true, true, true, true, true, true, false, false, false] rfl rfl (by kernel_rfl) (fun _ _ _ h => h) (Or.inl ⟨by rfl, ?_⟩) ?_ ?_
    rotate_left
    · intro w'
      go_simp
      with_reducible rfl
    rotate_left
    · simp only [Act.put, List.setIfInBounds_toArray, List.set_cons_zero, List.set_cons_succ, i64_w, i32_w]
      rfl
    refine pure_ (i := 14) (N := some 151) (v := ?_) (a' := ?_) #[true, true, true, true, true, true, true, true, true, true, true, true, true, true, true, false, false] rfl rfl (by kernel_rfl) (fun _ _ _ h => h) (Or.inl ⟨by rfl, ?_⟩) ?_ ?_
    rotate_left
    · intro w'
      go_simp
      with_reducible rfl
    rotate_left
    · simp only [Act.put, List.setIfInBounds_toArray, List.set_cons_zero, List.set_cons_succ, i64_w, i32_w]
      rfl
    refine pure_ (i := 15) (N := some 152) (v := ?_) (a' := ?_) #[true, true, true, true, true, true, true, true, true, true, true, true, true, true, true, true, false] rfl rfl (by kernel_rfl) (fun _ _ _ h => h) (Or.inl ⟨by rfl, ?_⟩) ?_ ?_
    rotate_left
    · intro w'
      go_simp
      with_reducible rfl
    rotate_left
    · simp only [Act.put, List.setIfInBounds_toArray, List.set_cons_zero, List.set_cons_succ, i64_w, i32_w]
      rfl
    refine pure_ (i := 16) (N := some 6) (v := ?_) (a' := ?_) #[true, true, true, true, true, true, true, true, true, true, true, true, true, true, true, true, true] rfl rfl (by kernel_rfl) (fun _ _ _ h => h) (Or.inl ⟨by rfl, ?_⟩) ?_ ?_
    rotate_left
    · intro w'
      go_simp
      with_reducible rfl
    rotate_left
    · simp only [Act.put, List.setIfInBounds_toArray, List.set_cons_zero, List.set_cons_succ, i64_w, i32_w]
      rfl
    refine done_ (by kernel_rfl) ?_
    go_wp2_with fail
    go_ret
    refine ⟨?_, HU33.out.bel⟩
    first | rfl | simp
  · have HU20 := Lib.hid (HU19.out.step hs hi)
    have HK20 := Lib.hid (HK19.out.step hs)
    have HJ20 := Lib.hid (HJ19.out.step hs)
    have HB20 := Lib.hid (HB19.out.step hs)
    obtain ⟨s5, hs5⟩ : ∃ s5, ({ s4 with d := d5 } : St) = s5 := ⟨_, rfl⟩
    have hu := HU20.out
    rw [hs5] at hg1 hu
    have hd5 : s5.d.down = false := by rw [← hs5]; exact hd5.trans ed
    have hl5 : s5.d.soft.length ≤ 9000 := by rw [← hs5]; show d5.soft.length ≤ 9000; omega
    have HG5 := Lib.hid hg1
    have HE20 := Lib.hid he
    clear hi hs he hg1 hs5 HU20 HG4 HD4 HAo hap hsub htx m1 m2 m3 ht3 ha hac haN haf el eg eh HU19 HK19 HJ19 HB19
    have HU20 := Lib.hid hu
    clear hu
    go_wp2_with fail
    refine (Dk.budget_c w20 R M (v5) s5.d (-1) (Lib.hid HU20.out.is.dsk)).mono ?_
    rintro e w21 ⟨rfl, hm0, hd⟩
    have hm := hm0.mono (fun _ _ h => (show Ft R M (v5) _ from .inl h))
    clear hm0
    obtain ⟨hi, hs⟩ := HU20.out.is.disk hm hd (fun i hi => .inl hi)
    have HU21 := Lib.hid (HU20.out.step hs hi)
    have HK21 := Lib.hid (HK20.out.step hs)
    have HJ21 := Lib.hid (HJ20.out.step hs)
    have HB21 := Lib.hid (HB20.out.step hs)
    have HE21 := Lib.hid (isErr_ft HE20.out HU20.out.is.dsk hm)
    clear hi hs hm hd HU20 HK20 HJ20 HB20 HE20
    go_wp2_with fail
    refine (Dk.crash_c w21 R M (v5) ({ s5.d with budget := max (-1) (-1) }) mask (Lib.hid HU21.out.is.dsk) hmk hl5).mono ?_
    rintro e w22 ⟨rfl, hm, hd⟩
    obtain ⟨hi, hs⟩ := HU21.out.is.disk hm hd Slt.ft_nil
    have HU22 := Lib.hid (HU21.out.step hs hi)
    have HK22 := Lib.hid (HK21.out.step hs)
    have HJ22 := Lib.hid (HJ21.out.step hs)
    have HB22 := Lib.hid (HB21.out.step hs)
    have HE22 := Lib.hid (isErr_ft HE21.out HU21.out.is.dsk hm)
    clear hi hs hm hd HU21 HK21 HJ21 HB21 HE21
    go_wp2_with fail
    refine (Dk.up_c w22 R M (.slice none 0 0) ({ ({ s5.d with budget := max (-1) (-1) }) with firm := stl mask (({ s5.d with budget := max (-1) (-1) })).firm (({ s5.d with budget := max (-1) (-1) })).soft 0, soft := [], down := true }) (Lib.hid HU22.out.is.dsk)).mono ?_
    rintro e w23 ⟨rfl, hm0, hd⟩
    have hm := hm0.mono (fun _ _ h => (show Ft R M (.slice none 0 0) _ from .inl h))
    clear hm0
    obtain ⟨hi, hs⟩ := HU22.out.is.disk hm hd (fun i hi => .inl hi)
    have HU23 := Lib.hid (HU22.out.step hs hi)
    have HK23 := Lib.hid (HK22.out.step hs)
    have HJ23 := Lib.hid (HJ22.out.step hs)
    have HB23 := Lib.hid (HB22.out.step hs)
    have HE23 := Lib.hid (isErr_ft HE22.out HU22.out.is.dsk hm)
    clear hi hs hm hd HU22 HK22 HJ22 HB22 HE22
    have hg1 := HG5.out.crash mask (max (-1) (-1)) false
    obtain ⟨d6, hd6⟩ : ∃ d6 : Dsk, { s5.d with firm := stl mask s5.d.firm s5.d.soft 0, soft := [], down := false, budget := max (-1) (-1) } = d6 := ⟨_, rfl⟩
    have hi6 : IsD w23 R M (.slice none 0 0) d6 := by rw [← hd6]; exact HU23.out.is.dsk
    rw [hd6] at hg1
    have dn6 : d6.down = false := by rw [← hd6]
    have sf6 : d6.soft.length ≤ 9000 := by rw [← hd6]; exact Nat.zero_le _
    obtain ⟨g6, hg6⟩ : ∃ g6, s5.gen = g6 := ⟨_, rfl⟩
    obtain ⟨u6, hu6⟩ : ∃ u6, s5.own = u6 := ⟨_, rfl⟩
    rw [hg6, hu6] at hg1
    have HG6 := Lib.hid hg1
    have HI6 := Lib.hid hi6
    clear hg1 hd6 hi6 HG5 hg6 hu6
    go_wp2_with fail
    refine (open_g w23 R M (.slice none 0 0) d6 g6 u6 HI6 HG6.out dn6 sf6).mono ?_
    rintro e w24 ⟨Z2, H2, o5, _, _, rfl, hx, hd⟩
    have HU24 := Lib.hid (HU23.out.on hd)
    have HK24 := Lib.hid (HK23.out.on hd)
    have HJ24 := Lib.hid (HJ23.out.on hd)
    have HB24 := Lib.hid (HB23.out.on hd)
    have HE24 := Lib.hid (HE23.out.on hd)
    have HX24 := Lib.hid hx
    clear hx hd HI6 HU23 HK23 HJ23 HB23 HE23
    have sz6 : (sO d6 ⟨g6, u6.f0, u6.f1, u6.f2⟩).d.size ≤ 2048 := by rw [HG6.out.size]; decide
    go_wp2_with fail
    refine (code_nil w24).mono ?_
    rintro e w25 ⟨rfl, hd⟩
    have HU25 := Lib.hid (HU24.out.on hd)
    have HK25 := Lib.hid (HK24.out.on hd)
    have HJ25 := Lib.hid (HJ24.out.on hd)
    have HB25 := Lib.hid (HB24.out.on hd)
    have HE25 := Lib.hid (HE24.out.on hd)
    have HX25 := Lib.hid (HX24.out.on hd)
    clear hd HU24 HK24 HJ24 HB24 HE24 HX24
    obtain ⟨k3, hk3⟩ := HG6.out.read 0 r t rfl rfl
    go_wp2_with (first | (refine wl_loadR K r HK25.out.k rfl _ rfl rfl ?_))
    refine (get_txt Z2 R M H2 _ _ o5 (withM [r]) (sO d6 ⟨g6, u6.f0, u6.f1, u6.f2⟩) r k3 t w25 HX25 (Lib.hid dn6) sz6 sf6 hk3).mono ?_
    rintro e w26 ⟨rfl, hd⟩
    have HU26 := Lib.hid (HU25.out.on hd)
    have HK26 := Lib.hid (HK25.out.on hd)
    have HJ26 := Lib.hid (HJ25.out.on hd)
    have HB26 := Lib.hid (HB25.out.on hd)
    have HE26 := Lib.hid (HE25.out.on hd)
    have HX26 := Lib.hid (HX25.out.on hd)
    clear hd HU25 HK25 HJ25 HB25 HE25 HX25
    go_wp2_with fail
    refine (code_nil w26).mono ?_
    rintro e w27 ⟨rfl, hd⟩
    have HU27 := Lib.hid (HU26.out.on hd)
    have HK27 := Lib.hid (HK26.out.on hd)
    have HJ27 := Lib.hid (HJ26.out.on hd)
    have HB27 := Lib.hid (HB26.out.on hd)
    have HE27 := Lib.hid (HE26.out.on hd)
    have HX27 := Lib.hid (HX26.out.on hd)
    clear hd HU26 HK26 HJ26 HB26 HE26 HX26
    go_wp2_with fail
    refine (code_c _ 10 w27 HE27 (Lib.hid (hg.out.on HU27.out.bel))).mono ?_
    rintro e w28 ⟨rfl, hd⟩
    have HU28 := Lib.hid (HU27.out.on hd)
    have HK28 := Lib.hid (HK27.out.on hd)
    have HJ28 := Lib.hid (HJ27.out.on hd)
    have HB28 := Lib.hid (HB27.out.on hd)
    have HE28 := Lib.hid (HE27.out.on hd)
    have HX28 := Lib.hid (HX27.out.on hd)
    clear hd HU27 HK27 HJ27 HB27 HE27 HX27
    go_upto_region 25 with fail
    have hd : Below w28.heap.size w28 (World.drew w28) := (Below.refl _ _).drew
    have HU29 := Lib.hid (HU28.out.on hd)
    have HK29 := Lib.hid (HK28.out.on hd)
    have HJ29 := Lib.hid (HJ28.out.on hd)
    have HB29 := Lib.hid (HB28.out.on hd)
    have HE29 := Lib.hid (HE28.out.on hd)
    have HX29 := Lib.hid (HX28.out.on hd)
    clear hd HU28 HK28 HJ28 HB28 HE28 HX28
    refine start_ (n := 8) (S := fun w' => w'.heap[K]? = some (Obj.cells (ra r) 36 (0, 0))) (ds := []) #[false, false, false, false, false, false, false, false] (by kernel_rfl) rfl rfl (HK29.out.k) (fun hHeld => ?_)
    refine pure_ (i := 0) (N := some 153) (v := ?_) (a' := ?_) #[true, false, false, false, false, false, false, false] rfl rfl (by kernel_rfl) (fun _ _ _ h => h) (Or.inl ⟨by rfl, ?_⟩) ?_ ?_
    rotate_left
    · intro w'
      go_simp
      with_reducible rfl
    rotate_left
    · simp only [Act.put, List.setIfInBounds_toArray, List.set_cons_zero, List.set_cons_succ, i64_w, i32_w]
      rfl
    refine take_ (i := 2) (N := some 155) (v := ?_) (a' := ?_) #[true, false, true, false, false, false, false, false] rfl rfl (by kernel_rfl) (fun _ _ _ h => h) (Or.inl ⟨by rfl, ?_⟩) hHeld ?_ ?_
    rotate_left
    · intro w' s0
      refine (exec_loadR (x := .tmp 11) ?_ ?_  s0).trans ?_
      · rfl
      · rfl
      · with_reducible rfl
    rotate_left
    · simp only [Act.put, List.setIfInBounds_toArray, List.set_cons_zero, List.set_cons_succ, i64_w, i32_w]
      rfl
    refine join_ (σ := Mni.Loc × Nat) 4 #[true, true, true, true, false, false, false, false] (fun s => [(154, .agg (Loc.a s.1 (withM [r]))), (156, .slice (some ⟨s.2, 0, none⟩) 1 1)]) (fun s w' => Below (World.drew w28).heap.size (World.drew w28) w' ∧ At w' s.1 (withM [r]) ∧ w'.heap[s.2]? = some (Obj.cells #[.int .i64 r.f0, .int .i64 r.f1, .int .u32 r.f2] 36 (0, 0))) ?_ ?_
    rotate_left
    · intro hCont
      refine two_ (i := 1) (j := 3) (Ni := some 154) (Nj := some 156) #[true, true, true, false, false, false, false, false] #[true, false, true, true, false, false, false, false] rfl rfl rfl rfl (by kernel_rfl) (by decide) (by decide) (fun K hK => ?_) (fun K hK => ?_)
      · skip
        refine goes_ Tryz.func17 (by kernel_rfl) rfl #[.pointer (some ⟨Z2, 0, none⟩)] (by rfl) rfl rfl (by simp only [List.map_toArray, List.map_cons, List.map_nil]; rfl) ?_
        with_reducible refine (Manifest_m Z2 R M H2 _ _ o5 (withM [r]) (sO d6 ⟨g6, u6.f0, u6.f1, u6.f2⟩) _ HX29 rfl (Nat.le_of_ble_eq_true rfl) (Nat.le_of_ble_eq_true rfl)).mono ?_
        rintro e wm ⟨o6, rfl, ha6, hdm⟩
        refine ⟨_, rfl, ?_⟩
        have HKm := (blk_to (Lib.hid HK29.out.k) hdm)
        refine hK.out _ _ (HKm.out) (fun hHeld => ?_)
        clear hK K
        refine norm_ (a' := ?_) ?_ ?_
        rotate_left
        · show Act.put _ (some 154) _ = _
          simp only [Act.put, List.setIfInBounds_toArray, List.set_cons_zero, List.set_cons_succ, i64_w, i32_w]
          rfl
        refine one_ (i := 3) (N := some 156) #[true, true, true, true, false, false, false, false] rfl rfl (by kernel_rfl) (by decide) (fun K hK => ?_)
        refine value_ (by rfl) rfl (exec_litR (a := r.f0) (b := r.f1) (c := r.f2) rfl rfl _) ?_
        have hdl : Below wm.heap.size wm (World.alloc wm (Obj.cells #[.int .i64 r.f0, .int .i64 r.f1, .int .u32 r.f2] 36 (0, 0))) := (Below.refl _ _).alloc (Nat.le_refl _) _
        have hbl := Lib.hid (heap_alloc_last wm (Obj.cells #[.int .i64 r.f0, .int .i64 r.f1, .int .u32 r.f2] 36 (0, 0)))
        have HKl := (blk_to HKm hdl)
        have hAl := ha6.on hdl
        have hdz := hdm.trans (hdl.mono hdm.size)
        obtain ⟨L, hL⟩ : ∃ L, wm.heap.size = L := ⟨_, rfl⟩
        rw [hL] at hbl
        try simp only [hL]
        generalize (World.alloc wm (Obj.cells #[.int .i64 r.f0, .int .i64 r.f1, .int .u32 r.f2] 36 (0, 0))) = wl at *
        refine hK.out _ _ (HKl.out) (fun hHeld => ?_)
        clear hK K
        refine norm_ (a' := ?_) ?_ ?_
        rotate_left
        · show Act.put _ (some 156) _ = _
          simp only [Act.put, List.setIfInBounds_toArray, List.set_cons_zero, List.set_cons_succ, i64_w, i32_w]
          rfl
        exact norm_ (by simp only [putAll, Act.put, List.setIfInBounds_toArray, List.set_cons_zero, List.set_cons_succ]) (hCont (o6, L) _ ⟨hdz, hAl, hbl.out⟩)
      · skip
        refine value_ (by rfl) rfl (exec_litR (a := r.f0) (b := r.f1) (c := r.f2) rfl rfl _) ?_
        have hdl : Below (World.drew w28).heap.size (World.drew w28) (World.alloc (World.drew w28) (Obj.cells #[.int .i64 r.f0, .int .i64 r.f1, .int .u32 r.f2] 36 (0, 0))) := (Below.refl _ _).alloc (Nat.le_refl _) _
        have hbl := Lib.hid (heap_alloc_last (World.drew w28) (Obj.cells #[.int .i64 r.f0, .int .i64 r.f1, .int .u32 r.f2] 36 (0, 0)))
        have HKl := (blk_to (Lib.hid HK29.out.k) hdl)
        have HXl := Lib.hid (HX29.out.on hdl)
        obtain ⟨L, hL⟩ : ∃ L, (World.drew w28).heap.size = L := ⟨_, rfl⟩
        rw [hL] at hbl
        try simp only [hL]
        generalize (World.alloc (World.drew w28) (Obj.cells #[.int .i64 r.f0, .int .i64 r.f1, .int .u32 r.f2] 36 (0, 0))) = wl at *
        refine hK.out _ _ (HKl.out) (fun hHeld => ?_)
        clear hK K
        refine norm_ (a' := ?_) ?_ ?_
        rotate_left
        · show Act.put _ (some 156) _ = _
          simp only [Act.put, List.setIfInBounds_toArray, List.set_cons_zero, List.set_cons_succ, i64_w, i32_w]
          rfl
        refine one_ (i := 1) (N := some 154) #[true, true, true, true, false, false, false, false] rfl rfl (by kernel_rfl) (by decide) (fun K hK => ?_)
        refine goes_ Tryz.func17 (by kernel_rfl) rfl #[.pointer (some ⟨Z2, 0, none⟩)] (by rfl) rfl rfl (by simp only [List.map_toArray, List.map_cons, List.map_nil]; rfl) ?_
        with_reducible refine (Manifest_m Z2 R M H2 _ _ o5 (withM [r]) (sO d6 ⟨g6, u6.f0, u6.f1, u6.f2⟩) _ HXl rfl (Nat.le_of_ble_eq_true rfl) (Nat.le_of_ble_eq_true rfl)).mono ?_
        rintro e wm ⟨o6, rfl, hAl, hdm⟩
        refine ⟨_, rfl, ?_⟩
        have HKm := (blk_to HKl hdm)
        have hbl := blk_to hbl hdm
        have hdz := hdl.trans (hdm.mono hdl.size)
        refine hK.out _ _ (HKm.out) (fun hHeld => ?_)
        clear hK K
        refine norm_ (a' := ?_) ?_ ?_
        rotate_left
        · show Act.put _ (some 154) _ = _
          simp only [Act.put, List.setIfInBounds_toArray, List.set_cons_zero, List.set_cons_succ, i64_w, i32_w]
          rfl
        exact norm_ (by simp only [putAll, Act.put, List.setIfInBounds_toArray, List.set_cons_zero, List.set_cons_succ]) (hCont (o6, L) _ ⟨hdz, hAl, hbl.out⟩)
    rintro ⟨o6, L⟩ w30 ⟨hd, hA6, hb6⟩
    have HU30 := Lib.hid (HU29.out.on hd)
    have HK30 := Lib.hid (HK29.out.on hd)
    have HJ30 := Lib.hid (HJ29.out.on hd)
    have HB30 := Lib.hid (HB29.out.on hd)
    have HE30 := Lib.hid (HE29.out.on hd)
    have HX30 := Lib.hid (HX29.out.on hd)
    have HQ30 := Lib.hid hA6
    have hHeld : w30.heap[K]? = some (Obj.cells (ra r) 36 (0, 0)) := HK30.out.k
    have hC := (Kd.R_reads' (R_one hb6)).2.2
    clear hA6 hd HU29 HK29 HJ29 HB29 HE29 HX29
    refine norm_ (a' := ?_) ?_ ?_
    rotate_left
    · simp only [putAll, Act.put, List.setIfInBounds_toArray, List.set_cons_zero, List.set_cons_succ]
      rfl
    refine one_ (i := 4) (N := some 157) #[true, true, true, true, true, false, false, false] rfl rfl (by kernel_rfl) (by decide) (fun K hK => ?_)
    refine goes_ Tryz.func13 (by kernel_rfl) rfl #[.slice (some ⟨L, 0, none⟩) 1 1] (by rfl) rfl rfl (by simp only [List.map_toArray, List.map_cons, List.map_nil]; rfl) ?_
    with_reducible refine (with_c _ 1 1 [r] _ rfl (by decide) (by decide) hC).mono ?_
    rintro e w31 ⟨o7, rfl, hO7, hd⟩
    refine ⟨_, rfl, ?_⟩
    have HU31 := Lib.hid (HU30.out.on hd)
    have HK31 := Lib.hid (HK30.out.on hd)
    have HJ31 := Lib.hid (HJ30.out.on hd)
    have HB31 := Lib.hid (HB30.out.on hd)
    have HE31 := Lib.hid (HE30.out.on hd)
    have HX31 := Lib.hid (HX30.out.on hd)
    have HQ31 := Lib.hid (HQ30.out.on hd)
    have HP31 := Lib.hid hO7.at_
    clear hO7 hC
    clear hd HU30 HK30 HJ30 HB30 HE30 HX30 HQ30
    refine hK.out _ _ (HK31.out.k) (fun hHeld => ?_)
    clear hK K
    refine norm_ (a' := ?_) ?_ ?_
    rotate_left
    · show Act.put _ (some 157) _ = _
      simp only [Act.put, List.setIfInBounds_toArray, List.set_cons_zero, List.set_cons_succ, i64_w, i32_w]
      rfl
    refine one_ (i := 5) (N := some 158) #[true, true, true, true, true, true, false, false] rfl rfl (by kernel_rfl) (by decide) (fun K hK => ?_)
    refine goes_ Tryz.func16 (by kernel_rfl) rfl #[.agg (Loc.a o6 (withM [r])), .agg (Loc.a o7 (withM [r]))] (by rfl) rfl rfl (by simp only [List.map_toArray, List.map_cons, List.map_nil]; rfl) ?_
    with_reducible refine (sameM_c o6 o7 (withM [r]) _ HQ31.out HP31.out rfl (Nat.le_of_ble_eq_true rfl) (Nat.le_of_ble_eq_true rfl)).mono ?_
    rintro e w32 ⟨rfl, hd⟩
    refine ⟨_, rfl, ?_⟩
    have HU32 := Lib.hid (HU31.out.on hd)
    have HK32 := Lib.hid (HK31.out.on hd)
    have HJ32 := Lib.hid (HJ31.out.on hd)
    have HB32 := Lib.hid (HB31.out.on hd)
    have HE32 := Lib.hid (HE31.out.on hd)
    have HX32 := Lib.hid (HX31.out.on hd)
    have HQ32 := Lib.hid (HQ31.out.on hd)
    have HP32 := Lib.hid (HP31.out.on hd)
    clear hd HU31 HK31 HJ31 HB31 HE31 HX31 HQ31 HP31
    refine hK.out _ _ (HK32.out.k) (fun hHeld => ?_)
    clear hK K
    refine norm_ (a' := ?_) ?_ ?_
    rotate_left
    · show Act.put _ (some 158) _ = _
      simp only [Act.put, List.setIfInBounds_toArray, List.set_cons_zero, List.set_cons_succ, i64_w, i32_w]
      rfl
    refine pure_ (i := 6) (N := some 159) (v := ?_) (a' := ?_) #[true, true, true, true, true, true, true, false] rfl rfl (by kernel_rfl) (fun _ _ _ h => h) (Or.inl ⟨by rfl, ?_⟩) ?_ ?_
    rotate_left
    · intro w'
      go_simp
      with_reducible rfl
    rotate_left
    · simp only [Act.put, List.setIfInBounds_toArray, List.set_cons_zero, List.set_cons_succ, i64_w, i32_w]
      rfl
    refine pure_ (i := 7) (N := some 6) (v := ?_) (a' := ?_) #[true, true, true, true, true, true, true, true] rfl rfl (by kernel_rfl) (fun _ _ _ h => h) (Or.inl ⟨by rfl, ?_⟩) ?_ ?_
    rotate_left
    · intro w'
      go_simp
      with_reducible rfl
    rotate_left
    · simp only [Act.put, List.setIfInBounds_toArray, List.set_cons_zero, List.set_cons_succ, i64_w, i32_w]
      rfl
    refine done_ (by kernel_rfl) ?_
    go_wp2_with fail
    go_ret
    refine ⟨?_, HU32.out.bel⟩
    first | rfl | simp
theorem torn_walk (t : ByteArray) (cut mask : Int) (w : World) (hs : t.size ≤ 140737488351232) (hc : (Lit.int .u8 cut).wf = true) (hk : (Lit.int .u64 mask).wf = true) (hg : Hid (Laid w)) :
    Calls Tryz.prog 4 #[.string t, .int .u8 cut, .int .u64 mask] w fun e w' => e = .returned (.bool true) ∧ Below w.heap.size w w' := by
  by_cases h : t.size < 1 ∨ 2000 < t.size
  · exact torn_out t cut mask w h hs
  · have hm0 : 0 ≤ mask ∧ mask < 2 ^ 64 := by
      simp [Lit.wf, IntKind.min, IntKind.max, IntKind.bits, IntKind.signed] at hk
      omega
    have hc0 : 0 ≤ cut ∧ cut < 256 := by
      simp [Lit.wf, IntKind.min, IntKind.max, IntKind.bits, IntKind.signed] at hc
      omega
    obtain ⟨mk, rfl⟩ := Int.eq_ofNat_of_zero_le hm0.1
    exact torn_in t cut mk w (by omega) (by omega) hc0.1 hc0.2 (by omega) hg
end Go.Proofs.YtaodgnladjafoaaGreatDoor.Sto
