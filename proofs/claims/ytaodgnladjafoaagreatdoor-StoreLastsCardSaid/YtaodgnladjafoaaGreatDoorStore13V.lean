/- Words that the proof uses. -/
import Derived.Test.YtaodgnladjafoaaGreatDoorStore2V
import Derived.Test.YtaodgnladjafoaaGreatDoorBlobBudV
set_option linter.unusedVariables false
set_option linter.unusedSimpArgs false
namespace Go.Proofs.YtaodgnladjafoaaGreatDoor.Sto
open Go.RowKit Go.Proofs.YtaodgnladjafoaaGreatDoorW.PrintWords Go.Proofs.YtaodgnladjafoaaGreatDoorW.PrintLast Go.Proofs.YtaodgnladjafoaaGreatDoorW.PrintMore Go.Proofs.YtaodgnladjafoaaGreatDoor.Md Go.Proofs.YtaodgnladjafoaaGreatDoor.Mni Go.Proofs.YtaodgnladjafoaaGreatDoor.QStoreLasts
open Go.Proofs.YtaodgnladjafoaaGreatDoor.Dk (Dsk IsD Ft)
open Go.Proofs.YtaodgnladjafoaaGreatDoor.Err (Laid IsErr code_nil code_c Chain at_some at_nil)
def putB (s : St) (a : Int) (t : ByteArray) (n : Nat) : St := { s with d := { s.d with soft := s.d.soft ++ Blb.pgs t a n, budget := Blb.bud s.d.budget n }, put := s.put ++ [⟨a, (t.size : Int), AdM.sum t⟩] }
def noB (s : St) (a : Int) (t : ByteArray) : St := { s with d := { s.d with soft := s.d.soft ++ Blb.pgs t a s.d.budget.toNat, budget := 0 } }
set_option maxHeartbeats 8000000 in
set_option maxRecDepth 100000 in
theorem Put_b (Z R M H : Nat) (v p : Value) (o : Mni.Loc) (m : Man) (s : St) (t : ByteArray) (n : Nat) (a : Int) (w : World) (h : Hid (IsS w ⟨Z, R, M, H, v, p⟩ o m s)) (hok : Ok m s) (hp : Hid (Blb.pagesV (t.size : Int) = (n : Int))) (hn1 : 1 ≤ n) (hts : t.size ≤ 16384) (hf : Hid (SpM.find (used m s) (n : Int) (used m s).length 0 = (a, true))) (ha0 : 0 ≤ a) (hx : a + (n : Int) ≤ s.d.size) (hdn : Hid (s.d.down = false)) (hb0 : -1 ≤ s.d.budget) (hb1 : s.d.budget < 9223372036854775808) (hl : s.d.soft.length + n ≤ 9000) :
  Calls Tryz.prog 11 #[.pointer (some ⟨Z, 0, none⟩), .string t] w fun e w' => ((s.d.budget = -1 ∨ (n : Int) ≤ s.d.budget) ∧ e = .returned (.tuple #[.agg (ra ⟨a, (t.size : Int), AdM.sum t⟩), .nilIface]) ∧ ∃ v' p', IsS w' ⟨Z, R, M, H, v', p'⟩ o m (putB s a t n) ∧ Stp w ⟨Z, R, M, H, v, p⟩ w' ⟨Z, R, M, H, v', p'⟩) ∨
   (0 ≤ s.d.budget ∧ s.d.budget < (n : Int) ∧ (∃ T u, e = .returned (.tuple #[.agg (ra zr), .iface T u]) ∧ IsErr w' (.iface T u) 10) ∧ ∃ v', IsS w' ⟨Z, R, M, H, v', p⟩ o m (noB s a t) ∧ Stp w ⟨Z, R, M, H, v, p⟩ w' ⟨Z, R, M, H, v', p⟩) := by
 have t0 : ((n : Int) == 0) = false := beq_eq_false_iff_ne.2 (by omega)
 have hul := used_len hok
 have hs2 := rightM_sz hok.rt
 have hpl := hok.pl
 have h0 := h
 have c0 := h.out.cs.1
 go_enter Tryz.func11, Tryz.ntmps11
 go_upto_region 3 with (first | (refine wl_allocR rfl rfl ?_))
 have hb1 : Below w.heap.size w (w.alloc (Obj.cells #[.int .i64 0, .int .i64 0, .int .u32 0] 36 (0, 0))) := (Below.refl _ _).alloc (Nat.le_refl _) _
 have HY1 := Lib.hid (show (w.alloc (Obj.cells #[.int .i64 0, .int .i64 0, .int .u32 0] 36 (0, 0))).heap[w.heap.size]? = some (Obj.cells (ra zr) 36 (0, 0)) from heap_alloc_last w (Obj.cells (ra zr) 36 (0, 0)))
 have H1 := Lib.hid (h.out.on hb1)
 have HB1 := Lib.hid hb1
 obtain ⟨Y, hY⟩ : ∃ Y, w.heap.size = Y := ⟨_, rfl⟩
 have HW := Lib.hid hY
 have hZY : Z < Y := by rw [← hY]; exact Err.lt_of_block h.out.blk
 have hfY := h.out.lt
 rw [hY] at HY1 hfY
 simp only [hY]
 generalize hw1 : (w.alloc (Obj.cells #[.int .i64 0, .int .i64 0, .int .u32 0] 36 (0, 0))) = w1 at *
 clear hb1 hw1 hY c0
 go_wp2_with fail
 refine (Blb.pages_c _ (n : Int) hp w1).mono ?_
 rintro e w2 ⟨rfl, hd⟩
 have hd := hd.below
 have H2 := Lib.hid (H1.out.on hd)
 have HB2 := below_to HB1 (Nat.le_refl _) hd
 have HY2 := blk_to HY1 hd
 clear hd H1 HB1 HY1
 go_wp2_with fail
 refine (Taken_c Z R M H v p o m s w2 H2 hok.ms hok.mr (Lib.hid hok.rt) hok.rf hok.pl).mono ?_
 rintro e w3 ⟨u, rfl, hu, hd⟩
 obtain ⟨A, c, rfl, hc, hr⟩ := Kd.R_reads hu
 have H3 := Lib.hid (H2.out.on hd)
 have HB3 := below_to HB2 (Nat.le_refl _) hd
 have HY3 := blk_to HY2 hd
 clear hu hd H2 HB2 HY2
 have eu : taken ((marks m s.d.size).getD []) s = used m s := rfl
 rw [eu] at hc hr
 have HR3 := Lib.hid hr
 clear hr
 rw [eu]
 clear eu
 go_wp2_with fail
 refine (SpC.first_c (used m s) (n : Int) A c w3 (by omega) hc HR3.out).mono ?_
 rintro e w4 ⟨rfl, hd⟩
 rw [hf.out]
 have hd := hd.below
 have H4 := Lib.hid (H3.out.on hd)
 have HB4 := below_to HB3 (Nat.le_refl _) hd
 have HY4 := blk_to HY3 hd
 clear hd H3 HB3 HY3 HR3
 have c0 := H4.out.cs.1
 go_wp2_with fail
 clear c0
 refine (Blb.put_b w4 R M v s.d a t n (Lib.hid H4.out.dsk) hdn hb0 hb1 hts hp hn1 ha0 hx hs2.2 hl).mono ?_
 rintro e w5 (⟨hgo, rfl, v5, hmod, hd5, hft⟩ | ⟨hg0, hg1, ⟨T, u, rfl, he⟩, v5, hmod, hd5, hft⟩)
 ·obtain ⟨hi5, hs5⟩ := H4.out.disk hmod hd5 hft
  have hYF : ¬ Fs ⟨Z, R, M, H, v, p⟩ Y := fun hf => Nat.lt_irrefl _ (hfY Y hf)
  have hS4 : Stp w ⟨Z, R, M, H, v, p⟩ w4 ⟨Z, R, M, H, v, p⟩ := Stp.of_below HB4.out
  have hYw := Err.lt_of_block HY4.out
  have ho5 := hs5.out hYw hYF
  have HY5 := Lib.hid (ho5.2.trans HY4.out)
  have HYF5 := Lib.hid ho5.1
  have H5 := Lib.hid hi5
  have HS5 := Lib.hid (hS4.trans hs5)
  clear hmod hd5 hft hi5 hs5 hYF hS4 hYw ho5 H4 HB4 HY4
  obtain ⟨r, hr⟩ : ∃ r : Rf, r = ⟨a, (t.size : Int), AdM.sum t⟩ := ⟨_, rfl⟩
  have er : Blb.refA a (t.size : Int) (AdM.sum t) = ra r := by rw [hr]; rfl
  have ep : putB s a t n = { s with d := { s.d with soft := s.d.soft ++ Blb.pgs t a n, budget := Blb.bud s.d.budget n }, put := s.put ++ [r] } := by rw [hr]; rfl
  have HEP := Lib.hid ep
  clear ep
  rw [er]
  clear er
  have HR := Lib.hid hr
  clear hr
  go_upto_if 47 with (first | (refine wl_allocR rfl rfl ?_) | (refine wl_storeRn #[.int .i64 0, .int .i64 0, .int .u32 0] rfl r rfl _ _ rfl rfl rfl ?_))
  have hd6 : Below w5.heap.size w5 (w5.alloc (Obj.cells (ra r) 36 (0, 0))) := (Below.refl _ _).alloc (Nat.le_refl _) _
  have HK6 := Lib.hid (heap_alloc_last w5 (Obj.cells (ra r) 36 (0, 0)))
  have hlt5 := H5.out.lt
  have H6 := Lib.hid (H5.out.on hd6)
  have HS6 := Lib.hid (HS5.out.below hd6)
  have HY6 := blk_to HY5 hd6
  obtain ⟨K, hK⟩ : ∃ K, w5.heap.size = K := ⟨_, rfl⟩
  rw [hK] at HK6 hlt5
  simp only [hK]
  generalize (w5.alloc (Obj.cells (ra r) 36 (0, 0))) = w6 at *
  have hKf := Lib.hid (show ¬ Fs ⟨Z, R, M, H, v5, p⟩ K from fun hf => Nat.lt_irrefl _ (hlt5 K hf))
  clear hK hd6 hlt5 H5 HS5 HY5
  go_upto_region 11 with fail
  have hdd : Below w6.heap.size w6 (World.drew w6) := (Below.refl _ _).drew
  have HD6 := Lib.hid (H6.out.on hdd)
  have HKd := blk_to HK6 hdd
  have HYd := blk_to HY6 hdd
  have HSd := Lib.hid (HS6.out.below hdd)
  clear hdd
  refine start_ (n := 11) (S := fun w' => w'.cell? ⟨Z, 9, none⟩ = some p ∧ w'.heap[K]? = some (Obj.cells (ra r) 36 (0, 0))) (ds := [7, 10]) (bzz 11 0) (by kernel_rfl) rfl rfl ⟨HD6.out.cs.2.2.1, HKd.out⟩ (fun hHeld => ?_)
  refine rpz 0 48 ?_ (bzz 11 1) rfl rfl ?_ ?_ ?_ ?_
  rotate_left
  ·intro w'
   go_simp
   with_reducible rfl
  rotate_left
  ·simp only [zaP, zsA, zsZ, zsS, i64_w, i32_w]
   rfl
  refine rpz 1 49 ?_ (bzz 11 3) rfl rfl ?_ ?_ ?_ ?_
  rotate_left
  ·intro w'
   go_simp
   with_reducible rfl
  rotate_left
  ·simp only [zaP, zsA, zsZ, zsS, i64_w, i32_w]
   rfl
  refine rpz 2 50 ?_ (bzz 11 7) rfl rfl ?_ ?_ ?_ ?_
  rotate_left
  ·intro w'
   go_simp
   with_reducible rfl
  rotate_left
  ·simp only [zaP, zsA, zsZ, zsS, i64_w, i32_w]
   rfl
  refine rpz 3 51 ?_ (bzz 11 15) rfl rfl ?_ ?_ ?_ ?_
  rotate_left
  ·intro w'
   go_simp
   with_reducible rfl
  rotate_left
  ·simp only [zaP, zsA, zsZ, zsS, i64_w, i32_w]
   rfl
  refine rtz 4 52 ?_ (bzz 11 31) rfl rfl hHeld ?_ ?_ ?_ ?_
  rotate_left
  ·rintro w' ⟨s0, s1⟩
   go_simp
   with_reducible rfl
  rotate_left
  ·simp only [zaP, zsA, zsZ, zsS, i64_w, i32_w]
   rfl
  refine rtz 5 53 ?_ (bzz 11 63) rfl rfl hHeld ?_ ?_ ?_ ?_
  rotate_left
  ·rintro w' ⟨s0, s1⟩
   refine (exec_loadR (x := .tmp 9) ?_ ?_  s1).trans ?_
   ·rfl
   ·rfl
   ·with_reducible rfl
  rotate_left
  ·simp only [zaP, zsA, zsZ, zsS, i64_w, i32_w]
   rfl
  refine roz 6 54 (bzz 11 127) rfl rfl (fun K hK => ?_)
  refine value_ (by rfl) rfl (exec_litR (a := r.f0) (b := r.f1) (c := r.f2) rfl rfl _) ?_
  have hd7 : Below (World.drew w6).heap.size (World.drew w6) (World.alloc (World.drew w6) (Obj.cells #[.int .i64 r.f0, .int .i64 r.f1, .int .u32 r.f2] 36 (0, 0))) := (Below.refl _ _).alloc (Nat.le_refl _) _
  have H7 := Lib.hid (HD6.out.on hd7)
  have HL7 := Lib.hid (heap_alloc_last (World.drew w6) (Obj.cells #[.int .i64 r.f0, .int .i64 r.f1, .int .u32 r.f2] 36 (0, 0)))
  have HK7 := blk_to HKd hd7
  have HY7 := blk_to HYd hd7
  have HS7 := Lib.hid (HSd.out.below hd7)
  generalize (World.alloc (World.drew w6) (Obj.cells #[.int .i64 r.f0, .int .i64 r.f1, .int .u32 r.f2] 36 (0, 0))) = w7 at *
  clear hd7
  refine hK.out _ _ ⟨H7.out.cs.2.2.1, HK7.out⟩ (fun hHeld => ?_)
  clear hK K
  refine norm_ (a' := ?_) ?_ ?_
  rotate_left
  ·show Act.put _ (some 54) _ = _
   simp only [zaP, zsA, zsZ, zsS, i64_w, i32_w]
   rfl
  refine last_ (i := 7) (N := some 55) (bzz 11 255) rfl rfl (by kernel_rfl) (by decide) (fun K hK => ?_)
  refine Kd.R_append_rows_step rk (w0 := w7) 0 (by rfl) (.tmp 52) (.tmp 54) 33 36 (.agg #[.int .i64 0, .int .i64 0, .int .u32 0]) 24 (by rfl) Tryz.underlying33 infoR rfl (by decide) (by decide) p s.put [r] _ _ _ (fun _ => True) (fun _ => False) (by rfl) (by rfl) H7.out.put (readsR _ _ r HL7.out) (fun y cs hy => by subst hy; exact k36_mkM _ _ _ _) (fun _ h => h.elim) (fun _ _ => trivial) (Below.refl _ _) (Nat.zero_le _) (show (s.put.length + 1) * 24 ≤ 140737488355328 by omega) ?_
  intro v8 w8 ho hb hg hn
  obtain ⟨A8, m8, k8, rfl⟩ := r_sl ho
  have hm8 := mod_grown hg
  obtain ⟨H9, hS9⟩ := H7.out.setPut hm8 ho (hn.elim (fun e => .inr (.inl e)) (fun e => .inr (.inr e)))
  have hbz := hm8.blk H7.out.blk H7.out.n3.1
  have c9 := Err.cell_of_blk hbz 9
  have f9 : w8.frozen? ⟨Z, 9, none⟩ = false := by simp [World.frozen?, hbz]
  have hK9 := hS9.out (Err.lt_of_block HK7.out) hKf.out
  have hY9 := hS9.out (Err.lt_of_block HY7.out) HYF5.out
  have HH9 := Lib.hid H9
  have HS9 := Lib.hid (HS7.out.trans hS9)
  have HK9 := Lib.hid (hK9.2.trans HK7.out)
  have HY9 := Lib.hid (hY9.2.trans HY7.out)
  have HYF9 := Lib.hid hY9.1
  clear ho hb hg hn hm8 hbz H9 hS9 hK9 hY9
  refine hK.out _ _ ?_
  clear hK K
  refine norm_ (a' := ?_) ?_ ?_
  rotate_left
  ·show Act.put _ (some 55) _ = _
   simp only [zaP, zsA, zsZ, zsS, i64_w, i32_w]
   rfl
  refine rpz 8 56 ?_ (bzz 11 511) rfl rfl ?_ ?_ ?_ ?_
  rotate_left
  ·intro w'
   go_simp
   with_reducible rfl
  rotate_left
  ·simp only [zaP, zsA, zsZ, zsS, i64_w, i32_w]
   rfl
  refine rpz 9 57 ?_ (bzz 11 1023) rfl rfl ?_ ?_ ?_ ?_
  rotate_left
  ·intro w'
   go_simp
   with_reducible rfl
  rotate_left
  ·simp only [zaP, zsA, zsZ, zsS, i64_w, i32_w]
   rfl
  refine last_ (i := 10) (N := none) (bzz 11 2047) rfl rfl (by kernel_rfl) (by decide) (fun K hK => ?_)
  refine skip_ (w1 := ?_) (by rfl) rfl ?_ ?_
  rotate_left
  ·go_simp
   rfl
  refine hK.out _ _ ?_
  clear hK K
  refine done_ (by kernel_rfl) ?_
  clear hHeld HD6 HKd HYd HSd H7 HL7 HK7 HY7 HS7 H6 HS6 HK6 HY6
  generalize (w8.setCell ⟨Z, 9, none⟩ (.slice A8 m8 k8)) = w9 at *
  go_wp2_with (first | (refine wl_loadR K r HK9.out rfl _ rfl rfl ?_) | (refine wl_storeR Y (ra zr) rfl r HY9.out rfl _ _ rfl rfl rfl ?_))
  (try simp only [Exit.inBlock, Exit.then])
  have hm := mod_row w9 Y (ra r)
  refine bodyPost_ret (v := .tuple #[.agg (ra r), .nilIface]) ?_ rfl ?_
  ·exact put_results _ _ Y r _ rfl rfl (setRow_heap _ Y _ _ _ _ HY9.out)
  have hSf := HS9.out.row hm (fun i (e : i = Y) => by rw [HW.out, e]; exact Nat.le_refl _)
  rw [HEP.out]
  have hI := HH9.out.row h0.out hSf hm (fun i hi (e : i = Y) => HYF9.out (e ▸ hi))
  first
   | exact .inl ⟨by rw [HR.out], v5, _, hI, hSf⟩
   | exact .inl ⟨hgo, by rw [HR.out], v5, _, hI, hSf⟩
 ·obtain ⟨hi5, hs5⟩ := H4.out.disk hmod hd5 hft
  have hYF : ¬ Fs ⟨Z, R, M, H, v, p⟩ Y := fun hf => Nat.lt_irrefl _ (hfY Y hf)
  have hS4 : Stp w ⟨Z, R, M, H, v, p⟩ w4 ⟨Z, R, M, H, v, p⟩ := Stp.of_below HB4.out
  have ho5 := hs5.out (Err.lt_of_block HY4.out) hYF
  have HY5 := Lib.hid (ho5.2.trans HY4.out)
  have HYF5 := Lib.hid ho5.1
  have H5 := Lib.hid hi5
  have HS5 := Lib.hid (hS4.trans hs5)
  have HE5 := Lib.hid he
  have HBg := Lib.hid (And.intro hg0 hg1)
  clear hmod hd5 hft hi5 hs5 hYF hS4 ho5 H4 HB4 HY4 he hg0 hg1
  have er : Blb.refA 0 0 0 = ra zr := rfl
  rw [er]
  clear er
  go_upto_if 47 with (first | (refine wl_allocR rfl rfl ?_) | (refine wl_storeRn #[.int .i64 0, .int .i64 0, .int .u32 0] rfl zr rfl _ _ rfl rfl rfl ?_))
  have hd6 : Below w5.heap.size w5 (w5.alloc (Obj.cells (ra zr) 36 (0, 0))) := (Below.refl _ _).alloc (Nat.le_refl _) _
  have HK6 := Lib.hid (heap_alloc_last w5 (Obj.cells (ra zr) 36 (0, 0)))
  have H6 := Lib.hid (H5.out.on hd6)
  have HS6 := Lib.hid (HS5.out.below hd6)
  have HY6 := blk_to HY5 hd6
  have HE6 := Lib.hid (HE5.out.on hd6)
  obtain ⟨K, hK⟩ : ∃ K, w5.heap.size = K := ⟨_, rfl⟩
  rw [hK] at HK6
  simp only [hK]
  generalize (w5.alloc (Obj.cells (ra zr) 36 (0, 0))) = w6 at *
  clear hK hd6 H5 HS5 HY5 HE5
  go_wp2_with (first | (refine wl_loadR K zr HK6.out rfl _ rfl rfl ?_) | (refine wl_storeR Y (ra zr) rfl zr HY6.out rfl _ _ rfl rfl rfl ?_))
  (try simp only [Exit.inBlock, Exit.then])
  have hm := mod_row w6 Y (ra zr)
  refine bodyPost_ret (v := .tuple #[.agg (ra zr), .iface T u]) ?_ rfl ?_
  ·exact put_results _ _ Y zr _ rfl rfl (setRow_heap _ Y _ _ _ _ HY6.out)
  have hSf := HS6.out.row hm (fun i (e : i = Y) => by rw [HW.out, e]; exact Nat.le_refl _)
  refine .inr ⟨HBg.out.1, HBg.out.2, ⟨T, u, rfl, isErr_box HE6.out HY6.out hm⟩, v5, ?_, hSf⟩
  exact H6.out.row h0.out hSf hm (fun i hi (e : i = Y) => HYF5.out (e ▸ hi))
end Go.Proofs.YtaodgnladjafoaaGreatDoor.Sto
