/- Several texts in one: words that the proof of the law uses. -/
import Derived.Test.YtaodgnladjafoaaGreatDoorStore10V
import Derived.Test.YtaodgnladjafoaaGreatDoorStore6V
import Derived.Test.YtaodgnladjafoaaGreatDoorManiDV
import Derived.Test.YtaodgnladjafoaaGreatDoorStore78V
set_option linter.unusedVariables false
set_option linter.unusedSimpArgs false
namespace Go.Proofs.YtaodgnladjafoaaGreatDoor.Sto
open Go.RowKit Go.Proofs.YtaodgnladjafoaaGreatDoorW.PrintWords Go.Proofs.YtaodgnladjafoaaGreatDoorW.PrintLast Go.Proofs.YtaodgnladjafoaaGreatDoorW.PrintMore Go.Proofs.YtaodgnladjafoaaGreatDoor.Md Go.Proofs.YtaodgnladjafoaaGreatDoor.Mni Go.Proofs.YtaodgnladjafoaaGreatDoor.QStoreLasts
open Go.Proofs.YtaodgnladjafoaaGreatDoor.Dk (Dsk IsD Ft mayN)
open Go.Proofs.YtaodgnladjafoaaGreatDoor.Slt (Sl switched switch_ok best_c BestAt bestOf slA)
open Go.Proofs.YtaodgnladjafoaaGreatDoor.Err (Laid IsErr code_nil code_c Chain at_some at_nil)
theorem off_m (q : Pl) (o : Mni.Loc) (m : Man) (s : St) : ∀ j v, (Loc.a o m).toList[j]? = some v → (sa q o m s)[2 + j]? = some v := by
 intro j v hj
 rcases j with _ | _ | _ | _ | j
 ·cases hj; rfl
 ·cases hj; rfl
 ·cases hj; rfl
 ·cases hj; rfl
 ·simp [Loc.a] at hj
theorem manifest_results (tmps : Array Value) (W : World) (b : Nat) (cs : Array Value) (hs : cs.size = 4) (h4 : tmps.getD 2 undef = .pointer (some ⟨b, 0, none⟩)) (h : W.heap[b]? = some (Obj.cells cs 43 (0, 0))) : (results Tryz.f17 tmps).run Tryz.prog W = .ok (.agg cs) W := by
 have hl : (loadVar 43 ⟨b, 0, none⟩).run Tryz.prog W = .ok (.agg cs) W := run_loadVar_row W b 43 43 cs (0, 0) _ h Tryz.underlying43 rfl (by rw [sizeM, hs])
 have h4' : tmps[2]?.getD undef = .pointer (some ⟨b, 0, none⟩) := by simpa using h4
 simp [results, Tryz.results17, asAddr, h4', hl]
set_option maxHeartbeats 2000000 in
set_option maxRecDepth 100000 in
theorem Manifest_m (Z R M H : Nat) (v p : Value) (o : Mni.Loc) (m : Man) (s : St) (w : World) (h : Hid (IsS w ⟨Z, R, M, H, v, p⟩ o m s)) (hs : m.snaps = []) (hr : m.refs.length ≤ 1000000) (hk : m.stack.length ≤ 1000000) :
  Calls Tryz.prog 17 #[.pointer (some ⟨Z, 0, none⟩)] w fun e w' => ∃ o', e = .returned (.agg (Loc.a o' m)) ∧ At w' o' m ∧ Below w.heap.size w w' := by
 go_enter Tryz.func17, Tryz.ntmps17
 go_upto_region 1 with (first | (refine wl_allocM rfl rfl ?_))
 have hd1 : Below w.heap.size w (w.alloc (Obj.cells #[.slice none 0 0, .slice none 0 0, .int .i64 0, .slice none 0 0] 43 (0, 0))) := (Below.refl _ _).alloc (Nat.le_refl _) _
 have HX1 := Lib.hid (heap_alloc_last w (Obj.cells #[.slice none 0 0, .slice none 0 0, .int .i64 0, .slice none 0 0] 43 (0, 0)))
 have H1 := Lib.hid (h.out.on hd1)
 have HB1 := Lib.hid hd1
 obtain ⟨X, hX⟩ : ∃ X, w.heap.size = X := ⟨_, rfl⟩
 have HXw := Lib.hid (show w.heap.size ≤ X by omega)
 rw [hX] at HX1
 try simp only [hX]
 generalize (w.alloc (Obj.cells #[.slice none 0 0, .slice none 0 0, .int .i64 0, .slice none 0 0] 43 (0, 0))) = w1 at *
 clear hd1 hX h
 go_wp2_with (first | (refine wl_load_off aggM szM Z 2 (sa ⟨Z, R, M, H, v, p⟩ o m s) 82 (Loc.a o m).toList H1.out.blk rfl (off_m _ o m s) rfl _ rfl rfl ?_))
 refine (copied_m o m hs w1 (Lib.hid H1.out.at) hr hk).mono ?_
 rintro e w2 ⟨o2, rfl, hO, hd⟩
 have HB2 := below_to HB1 (Nat.le_refl _) hd
 have HX2 := blk_to HX1 hd
 have HO2 := Lib.hid hO
 have HXl := Lib.hid (Err.lt_of_block HX1.out)
 clear hO hd H1 HB1 HX1
 go_wp2_with (first | (refine wl_storeM X #[.slice none 0 0, .slice none 0 0, .int .i64 0, .slice none 0 0] rfl o2 m HX2.out rfl _ _ rfl rfl rfl ?_))
 (try simp only [Exit.inBlock, Exit.then])
 refine bodyPost_ret (v := .agg (Loc.a o2 m)) ?_ rfl ?_
 ·exact manifest_results _ _ X _ rfl rfl (setRow_heap _ X _ _ _ _ HX2.out)
 have k := mod_row w2 X (Loc.a o2 m)
 exact ⟨o2, rfl, (HO2.out.step (fun i hi hl => k.block i hl (fun (e : i = X) => by have := HXl.out; omega))).at_, HB2.out.trans (k.below HB2.out.size (fun i hi (e : i = X) => by have := HXw.out; omega))⟩
theorem exec_loadX {ρ : Operand → Value} {oo : Oper} {x : Operand} {W : World} {b : Nat} {g u1 u2 u3 : Int} (ho : oo.op = .load 36 x) (hx : ρ x = .pointer (some ⟨b, 1, none⟩)) (hp : W.heap[b]? = some (Obj.cells (slA g u1 u2 u3) 62 (0, 0))) : (execOp ρ oo).run Tryz.prog W = .ok (.value (.agg (ra ⟨u1, u2, u3⟩))) W := by
 have h := run_load_off aggRf szRf W b 1 (slA g u1 u2 u3) 62 [.int .i64 u1, .int .i64 u2, .int .u32 u3] hp rfl (fun j v hj => by
  rcases j with _ | _ | _ | j
  ·cases hj; rfl
  ·cases hj; rfl
  ·cases hj; rfl
  ·simp at hj)
 unfold execOp; simp only [ho, hx, h, Sem.run_bind, Sem.run_pure, Result.andThen_ok]; rfl
theorem OwnM.of {B : Nat} {w : World} {o : Mni.Loc} {m : Man} (h : Mni.Own B w o m) (ha : At w o m) : OwnM B w o m := ⟨h.1, h.2.1, h.2.2, ha.rc, ha.sc, ha.nc⟩
def sO (d : Dsk) (sl : Sl) : St := { d := d, gen := sl.g, own := ⟨sl.x, sl.y, sl.z⟩, put := [], held := [] }
set_option maxHeartbeats 4000000 in
set_option maxRecDepth 100000 in
theorem Open_ok (w : World) (R M : Nat) (v : Value) (d : Dsk) (g u1 u2 u3 : Int) (t : ByteArray) (m : Man) (n : Nat) (h : Hid (IsD w R M v d)) (hsz : 8 ≤ d.size) (hsz2 : d.size ≤ 2048) (hm0 : mayN d 0 = 0) (hm1 : mayN d 1 = 0) (hbe : Hid (bestOf d 2 = ⟨g, u1, u2, u3⟩)) (hg0 : 0 < g) (hdn : Hid (d.down = false)) (hl : d.soft.length ≤ 9000) (hn : Hid (Blb.pagesV u2 = (n : Int))) (hn1 : 1 ≤ n) (hx0 : 0 ≤ u1) (hx1 : u1 + (n : Int) ≤ d.size) (ht : Hid (strOfNums ((Blb.gs d u1 n).take u2.toNat) = t)) (hsum : AdM.sum t = u3) (hts : t.size ≤ 16384) (hrd : Hid (readP t d.size = some m)) :
  Calls Tryz.prog 14 #[.pointer (some ⟨R, 0, none⟩)] w fun e w' => ∃ Z H o, w.heap.size ≤ Z ∧ w.heap.size ≤ H ∧ e = .returned (.tuple #[.pointer (some ⟨Z, 0, none⟩), .nilIface]) ∧ IsS w' ⟨Z, R, M, H, v, .slice none 0 0⟩ o m (sO d ⟨g, u1, u2, u3⟩) ∧ Below w.heap.size w w' := by
 go_enter Tryz.func14, Tryz.ntmps14
 go_wp2_with fail
 refine (made_ok w R M v d h hsz).mono ?_
 rintro e w1 ⟨Z, H, hZ, hH, rfl, hd, hi⟩
 have H1 := Lib.hid hi
 have HB1 := Lib.hid hd
 have HZH := Lib.hid (And.intro hZ hH)
 clear hd hi h hZ hH
 go_wp2_with fail
 refine (best_c w1 R M v d (Lib.hid H1.out.dsk) (by omega)).mono ?_
 rintro e w2 ⟨hd, h2, _⟩
 have e2 := h2 hm0 hm1 (by rw [hbe.out]; exact hg0)
 rw [hbe.out] at e2
 subst e2
 have H2 := Lib.hid (H1.out.on hd)
 have HB2 := below_to HB1 (Nat.le_refl _) hd
 clear hd h2 H1 HB1 hm0 hm1
 go_upto_region 7 with (first | (refine Slt.wl_allocS rfl rfl ?_) | (refine Slt.wl_storeSn 0 0 0 0 g u1 u2 u3 rfl _ _ rfl rfl (by rfl) ?_))
 have hd3 : Below w2.heap.size w2 (w2.alloc (Obj.cells (slA g u1 u2 u3) 62 (0, 0))) := (Below.refl _ _).alloc (Nat.le_refl _) _
 have HX3 := Lib.hid (heap_alloc_last w2 (Obj.cells (slA g u1 u2 u3) 62 (0, 0)))
 have H3 := Lib.hid (H2.out.on hd3)
 have HB3 := below_to HB2 (Nat.le_refl _) hd3
 obtain ⟨X, hX⟩ : ∃ X, w2.heap.size = X := ⟨_, rfl⟩
 have HXZ0 := Err.lt_of_block H2.out.blk
 have HXZ := Lib.hid (show ¬ (X = Z) by have : Z < w2.heap.size := HXZ0; omega)
 rw [hX] at HX3
 simp only [hX]
 generalize (w2.alloc (Obj.cells (slA g u1 u2 u3) 62 (0, 0))) = w3 at *
 clear hX hd3 H2 HB2 HXZ0
 go_wp2_with (first | (refine Kd.event_run rfl (exec_loadX (g := g) (u1 := u1) (u2 := u2) (u3 := u3) rfl rfl HX3.out) ?_))
 refine (Blb.get_ok w3 R M v d u1 u2 u3 n t (Lib.hid H3.out.dsk) hdn hn hn1 hx0 hx1 hsz2 hl ht).mono ?_
 rintro e w4 ⟨h1, _, hd⟩
 have e4 := h1 hsum
 subst e4
 have H4 := Lib.hid (H3.out.on hd)
 have HB4 := below_to HB3 (Nat.le_refl _) hd
 have HX4 := blk_to HX3 hd
 clear hd h1 H3 HB3 HX3
 go_upto_region 10 with fail
 have hdd : Below w4.heap.size w4 (World.drew w4) := (Below.refl _ _).drew
 have H5 := Lib.hid (H4.out.on hdd)
 have HB5 := below_to HB4 (Nat.le_refl _) hdd
 have HX5 := blk_to HX4 hdd
 have HBZ := Lib.hid H5.out.blk
 have c1 : (World.drew w4).cell? ⟨Z, 1, none⟩ = some (.int .u32 0) := H5.out.cs.2.1
 have f1 : (World.drew w4).frozen? ⟨Z, 1, none⟩ = false := by simp [World.frozen?, HBZ.out]
 have HZl := Lib.hid (show Z < (World.drew w4).heap.size from Err.lt_of_block HBZ.out)
 clear hdd H4 HB4 HX4
 refine start_ (n := 12) (S := fun w' => w'.cell? ⟨X, 0, none⟩ = some (.int .u32 g) ∧ w'.heap[X]? = some (Obj.cells (slA g u1 u2 u3) 62 (0, 0))) (ds := [11]) (bzz 12 0) (by kernel_rfl) rfl rfl ⟨(Err.cell_of_blk HX5.out 0), HX5.out⟩ (fun hHeld => ?_)
 refine rpz 0 34 ?_ (bzz 12 1) rfl rfl ?_ ?_ ?_ ?_
 rotate_left
 ·intro w'
  go_simp
  with_reducible rfl
 rotate_left
 ·simp only [zaP, zsA, zsZ, zsS, i64_w, i32_w]
  rfl
 refine rpz 1 35 ?_ (bzz 12 3) rfl rfl ?_ ?_ ?_ ?_
 rotate_left
 ·intro w'
  go_simp
  with_reducible rfl
 rotate_left
 ·simp only [zaP, zsA, zsZ, zsS, i64_w, i32_w]
  rfl
 refine rpz 2 36 ?_ (bzz 12 7) rfl rfl ?_ ?_ ?_ ?_
 rotate_left
 ·intro w'
  go_simp
  with_reducible rfl
 rotate_left
 ·simp only [zaP, zsA, zsZ, zsS, i64_w, i32_w]
  rfl
 refine rpz 4 38 ?_ (bzz 12 23) rfl rfl ?_ ?_ ?_ ?_
 rotate_left
 ·intro w'
  go_simp
  with_reducible rfl
 rotate_left
 ·simp only [zaP, zsA, zsZ, zsS, i64_w, i32_w]
  rfl
 refine rtz 3 37 ?_ (bzz 12 31) rfl rfl hHeld ?_ ?_ ?_ ?_
 rotate_left
 ·rintro w' ⟨s0, s1⟩
  go_simp
  with_reducible rfl
 rotate_left
 ·simp only [zaP, zsA, zsZ, zsS, i64_w, i32_w]
  rfl
 refine rpz 6 40 ?_ (bzz 12 95) rfl rfl ?_ ?_ ?_ ?_
 rotate_left
 ·intro w'
  go_simp
  with_reducible rfl
 rotate_left
 ·simp only [zaP, zsA, zsZ, zsS, i64_w, i32_w]
  rfl
 refine rpz 7 41 ?_ (bzz 12 223) rfl rfl ?_ ?_ ?_ ?_
 rotate_left
 ·intro w'
  go_simp
  with_reducible rfl
 rotate_left
 ·simp only [zaP, zsA, zsZ, zsS, i64_w, i32_w]
  rfl
 refine rtz 5 39 ?_ (bzz 12 255) rfl rfl hHeld ?_ ?_ ?_ ?_
 rotate_left
 ·rintro w' ⟨s0, s1⟩
  refine (exec_loadX (x := .tmp 38) ?_ ?_  s1).trans ?_
  ·rfl
  ·rfl
  ·with_reducible rfl
 rotate_left
 ·simp only [zaP, zsA, zsZ, zsS, i64_w, i32_w]
  rfl
 refine one_ (i := 8) (N := none) (bzz 12 511) rfl rfl (by kernel_rfl) (by decide) (fun K hK => ?_)
 generalize World.drew w4 = w5 at *
 refine skip_ (w1 := ?_) (by rfl) rfl ?_ ?_
 rotate_left
 ·go_simp
  rfl
 have m8 := Lib.hid (mod_cellZ w5 Z 1 (.int .u32 g))
 have HB8 := Lib.hid (blk_setZ HBZ.out 1 (.int .u32 g))
 have HX8 := Lib.hid (m8.out.blk HX5.out HXZ.out)
 generalize (w5.setCell ⟨Z, 1, none⟩ (.int .u32 g)) = w8 at *
 clear c1 f1
 refine hK.out _ _ ⟨(Err.cell_of_blk HX8.out 0), HX8.out⟩ (fun hHeld => ?_)
 clear hK K
 refine rpz 9 42 ?_ (bzz 12 1023) rfl rfl ?_ ?_ ?_ ?_
 rotate_left
 ·intro w'
  go_simp
  with_reducible rfl
 rotate_left
 ·simp only [zaP, zsA, zsZ, zsS, i64_w, i32_w]
  rfl
 refine rpz 10 43 ?_ (bzz 12 2047) rfl rfl ?_ ?_ ?_ ?_
 rotate_left
 ·intro w'
  go_simp
  with_reducible rfl
 rotate_left
 ·simp only [zaP, zsA, zsZ, zsS, i64_w, i32_w]
  rfl
 refine last_ (i := 11) (N := none) (bzz 12 4095) rfl rfl (by kernel_rfl) (by decide) (fun K hK => ?_)
 obtain ⟨w9, he9, hb9, hm9⟩ := st_off szRf (off := 6) (vs := Array.toList (ra ⟨u1, u2, u3⟩)) HB8.out rfl (Nat.le_of_ble_eq_true rfl) (one_r _)
 refine skip_ (by rfl) rfl (he9 rfl rfl rfl) ?_
 have HB9 := Lib.hid hb9
 have m9 := Lib.hid (m8.out.tr hm9)
 clear he9 hb9 hm9
 refine hK.out _ _ ?_
 clear hK K
 refine done_ (by kernel_rfl) ?_
 clear hHeld HX5 HX8 HB8 HBZ m8
 have hd9 := H5.out.dsk.mod m9.out (fun i hi e => (H5.out.n2 i hi).1 e)
 have HD9 := Lib.hid hd9
 have hB9 := HB5.out.trans (m9.out.below HB5.out.size (fun i hi (e : i = Z) => by have := HZH.out.1; omega))
 have HBb9 := Lib.hid hB9
 clear hd9 hB9
 go_wp2_with fail
 refine (Dk.size_c w9 R M v d HD9).mono ?_
 rintro e w10 ⟨rfl, hd⟩
 have HB10 := blk_to HB9 hd
 have m10 := Lib.hid (m9.out.on_below hd (Nat.le_refl _))
 have HBb10 := below_to HBb9 (Nat.le_refl _) hd
 clear hd HB9 m9 HBb9 HD9
 go_wp2_with fail
 refine (read_o t d.size w10 (by omega)).mono ?_
 rintro e w11 ⟨hd, ⟨m', o, hr, _, _, rfl, hat, hown⟩ | ⟨hr, _⟩⟩
 ·have em : m' = m := by rw [hrd.out] at hr; cases hr; rfl
  subst em
  have HB11 := blk_to HB10 hd
  have m11 := Lib.hid (m10.out.on_below hd (Nat.le_refl _))
  have HBb11 := below_to HBb10 (Nat.le_refl _) hd
  have HO11 := Lib.hid (OwnM.of hown hat)
  have HZ10 := Lib.hid (Err.lt_of_block HB10.out)
  have HLt := Lib.hid (show ∀ i, Fs ⟨Z, R, M, H, v, .slice none 0 0⟩ i → i < w10.heap.size from fun i f => Nat.lt_of_lt_of_le (H5.out.lt i f) m10.out.size)
  clear hd hr hat hown HB10 m10 HBb10
  go_wp2_with (first | (refine wl_store_off szM Z 2 _ 82 (Loc.a o m').toList HB11.out rfl (Nat.le_of_ble_eq_true rfl) (one_m o m') rfl _ _ rfl rfl rfl ?_))
  go_ret2
  have k12 := mod_row w11 Z (((Array.toList ((((sa ⟨Z, R, M, H, v, .slice none 0 0⟩ oE emptyM (s0 d)).setIfInBounds 1 (.int .u32 g)).toList.take 6 ++ Array.toList (ra ⟨u1, u2, u3⟩) ++ ((sa ⟨Z, R, M, H, v, .slice none 0 0⟩ oE emptyM (s0 d)).setIfInBounds 1 (.int .u32 g)).toList.drop (6 + (Array.toList (ra ⟨u1, u2, u3⟩)).length)).toArray)).take 2 ++ (Loc.a o m').toList ++ (Array.toList ((((sa ⟨Z, R, M, H, v, .slice none 0 0⟩ oE emptyM (s0 d)).setIfInBounds 1 (.int .u32 g)).toList.take 6 ++ Array.toList (ra ⟨u1, u2, u3⟩) ++ ((sa ⟨Z, R, M, H, v, .slice none 0 0⟩ oE emptyM (s0 d)).setIfInBounds 1 (.int .u32 g)).toList.drop (6 + (Array.toList (ra ⟨u1, u2, u3⟩)).length)).toArray)).drop (2 + (Loc.a o m').toList.length)).toArray)
  have hb12 := setRow_heap w11 Z _ (((Array.toList ((((sa ⟨Z, R, M, H, v, .slice none 0 0⟩ oE emptyM (s0 d)).setIfInBounds 1 (.int .u32 g)).toList.take 6 ++ Array.toList (ra ⟨u1, u2, u3⟩) ++ ((sa ⟨Z, R, M, H, v, .slice none 0 0⟩ oE emptyM (s0 d)).setIfInBounds 1 (.int .u32 g)).toList.drop (6 + (Array.toList (ra ⟨u1, u2, u3⟩)).length)).toArray)).take 2 ++ (Loc.a o m').toList ++ (Array.toList ((((sa ⟨Z, R, M, H, v, .slice none 0 0⟩ oE emptyM (s0 d)).setIfInBounds 1 (.int .u32 g)).toList.take 6 ++ Array.toList (ra ⟨u1, u2, u3⟩) ++ ((sa ⟨Z, R, M, H, v, .slice none 0 0⟩ oE emptyM (s0 d)).setIfInBounds 1 (.int .u32 g)).toList.drop (6 + (Array.toList (ra ⟨u1, u2, u3⟩)).length)).toArray)).drop (2 + (Loc.a o m').toList.length)).toArray) _ _ HB11.out
  have z := H5.out.switchedM (g := g) (r := ⟨u1, u2, u3⟩) (o2 := o) (m2 := m') (m11.out.tr k12) hb12 (HO11.out.step (fun i hi hl => k12.block i hl (fun (e : i = Z) => by have := HZ10.out; omega))) HLt.out
  exact ⟨Z, H, o, HZH.out.1, HZH.out.2, rfl, z.1, HBb11.out.trans (k12.below HBb11.out.size (fun i hi (e : i = Z) => by have := HZH.out.1; omega))⟩
 ·rw [hrd.out] at hr; cases hr
end Go.Proofs.YtaodgnladjafoaaGreatDoor.Sto
namespace Go.Proofs.YtaodgnladjafoaaGreatDoor.Sto
open Go.RowKit Go.Proofs.YtaodgnladjafoaaGreatDoorW.PrintWords Go.Proofs.YtaodgnladjafoaaGreatDoorW.PrintLast Go.Proofs.YtaodgnladjafoaaGreatDoorW.PrintMore Go.Proofs.YtaodgnladjafoaaGreatDoor.Md Go.Proofs.YtaodgnladjafoaaGreatDoor.Mni Go.Proofs.YtaodgnladjafoaaGreatDoor.QStoreLasts
open Go.Proofs.YtaodgnladjafoaaGreatDoor.Dk (Dsk IsD Ft mayN rd)
open Go.Proofs.YtaodgnladjafoaaGreatDoor.Slt (Sl switched bestOf)
open Go.Proofs.YtaodgnladjafoaaGreatDoor.Err (Laid IsErr code_nil code_c Chain at_some at_nil)
def upTo (n : Nat) : List Int := (List.range n).map fun i => ((i : Nat) : Int)
theorem upTo_succ (n : Nat) : upTo (n + 1) = upTo n ++ [(n : Int)] := by
 unfold upTo
 rw [List.range_succ, List.map_append]
 rfl
theorem upTo_len (n : Nat) : (upTo n).length = n := by simp [upTo]
def withM (l : List Rf) : Man := ⟨l, upTo l.length, -1, []⟩
theorem rd_rf (l : List Rf) (j : Nat) (h : j < l.length) : rd_T36 l (j : Int) = l[j] := by
 unfold rd_T36
 simp [List.getD_eq_getElem?_getD, List.getElem?_eq_getElem h]
theorem ints_run (l : List Int) (hl : l.length ≤ 1000000) : ∀ (d j : Nat), j + d = l.length → shalelaw20_ints.l0 (d + 1) l l (j : Int) = some 1
 | 0, j, hj => by
  unfold shalelaw20_ints.l0
  rw [if_neg (by omega)]
 | d + 1, j, hj => by
  have e1 : wrap64 ((j : Int) + 1) = ((j + 1 : Nat) : Int) := by unfold wrap64; omega
  unfold shalelaw20_ints.l0
  rw [if_pos (by omega), if_pos (by omega), if_pos (by omega), if_pos rfl, e1]
  exact ints_run l hl d (j + 1) (by omega)
theorem ints_mono (l : List Int) (k : Nat) (h : shalelaw20_ints.l0 k l l 0 = some 1) : ∀ m, shalelaw20_ints.l0 (k + m) l l 0 = some 1
 | 0 => h
 | m + 1 => shalelaw20_ints.mono_l (k + m) _ _ _ _ (ints_mono l k h m)
theorem same_run (m : Man) (hs : m.snaps = []) (hr : m.refs.length ≤ 1000000) : ∀ (d j : Nat), j + d = m.refs.length → shalelaw20_Same.l0 (d + 1 + 1) (j : Int) m.refs m.stack m.upper m.snaps m.refs m.stack m.upper m.snaps = some 1
 | 0, j, hj => by
  rw [shalelaw20_Same.l0, if_neg (by omega), shalelaw20_Same.l1, hs]
  rw [if_neg (by decide)]
 | d + 1, j, hj => by
  have e1 : wrap64 ((j : Int) + 1) = ((j + 1 : Nat) : Int) := by unfold wrap64; omega
  rw [shalelaw20_Same.l0, if_pos (by omega), if_pos (by omega), if_pos (by omega), if_neg (by simp), e1]
  exact same_run m hs hr d (j + 1) (by omega)
theorem same_f (m : Man) (hs : m.snaps = []) (hr : m.refs.length ≤ 1000000) (hk : m.stack.length ≤ 1000000) : ∃ k, shalelaw20_Same.f k m.refs m.stack m.upper m.snaps m.refs m.stack m.upper m.snaps = some 1 := by
 refine ⟨m.refs.length + 1 + 1 + 1 + (m.stack.length + 1), ?_⟩
 unfold shalelaw20_Same.f
 rw [if_pos rfl, if_pos rfl, if_pos rfl]
 unfold shalelaw20_ints.f
 rw [if_pos rfl]
 have hi := ints_mono m.stack (m.stack.length + 1) (ints_run m.stack hk m.stack.length 0 (by omega)) (m.refs.length + 1 + 1 + 1)
 have e : m.stack.length + 1 + (m.refs.length + 1 + 1 + 1) = m.refs.length + 1 + 1 + 1 + (m.stack.length + 1) := by omega
 rw [e] at hi
 rw [hi, Option.bind_some]
 have h1 := same_run m hs hr m.refs.length 0 (by omega)
 have h2 : shalelaw20_Same.j0 (m.refs.length + 1 + 1 + 1) ((1 : Int) == 0) m.refs m.stack m.upper m.snaps m.refs m.stack m.upper m.snaps = some 1 := by
  rw [shalelaw20_Same.j0, if_neg (by decide)]
  exact h1
 generalize m.refs.length + 1 + 1 + 1 = k at h2
 generalize m.stack.length + 1 = q
 induction q with
 | zero => exact h2
 | succ q ih => exact (shalelaw20_Same.mono_l (k + q)).1 _ _ _ _ _ _ _ _ _ _ ih
theorem sameM_c (o1 o2 : Mni.Loc) (m : Man) (w : World) (h1 : At w o1 m) (h2 : At w o2 m) (hs : m.snaps = []) (hr : m.refs.length ≤ 1000000) (hk : m.stack.length ≤ 1000000) :
  Calls Tryz.prog 16 #[.agg (Loc.a o1 m), .agg (Loc.a o2 m)] w fun e w' => e = .returned (.int .i64 1) ∧ Below w.heap.size w w' := by
 obtain ⟨k, hk2⟩ := same_f m hs hr hk
 exact shalelaw20_Same.calls k o1.p0 o1.c0 m.refs o1.p1 o1.c1 m.stack m.upper o1.p3 o1.c3 m.snaps o2.p0 o2.c0 m.refs o2.p1 o2.c1 m.stack m.upper o2.p3 o2.c3 m.snaps 1 w h1.r h1.rc h1.s h1.sc h1.n h1.nc h2.r h2.rc h2.s h2.sc h2.n h2.nc hk2
structure Txt (d : Dsk) (r : Rf) (t : ByteArray) (n : Nat) : Prop where
 pg : Blb.pagesV r.f1 = (n : Int)
 n1 : 1 ≤ n
 x0 : 2 ≤ r.f0
 x1 : r.f0 + (n : Int) ≤ d.size
 len : r.f1 = (t.size : Int)
 sum : AdM.sum t = r.f2
 sz : t.size ≤ n * 64
 tx : ∀ i : Nat, i < n → rd d (r.f0 + (i : Int)) = Blb.pgOf t i
theorem Txt.str {d : Dsk} {r : Rf} {t : ByteArray} {n : Nat} (h : Txt d r t n) : strOfNums ((Blb.gs d r.f0 n).take r.f1.toNat) = t := by
 rw [h.len, Int.toNat_natCast]
 exact Blb.gs_text _ _ n t h.sz h.tx
theorem get_txt (Z R M H : Nat) (v p : Value) (o : Mni.Loc) (m : Man) (s : St) (r : Rf) (n : Nat) (t : ByteArray) (w : World) (h : Hid (IsS w ⟨Z, R, M, H, v, p⟩ o m s)) (hdn : Hid (s.d.down = false)) (hsz : s.d.size ≤ 2048) (hl : s.d.soft.length ≤ 9000) (ht : Txt s.d r t n) :
  Calls Tryz.prog 23 #[.pointer (some ⟨Z, 0, none⟩), .agg (ra r)] w fun e w' => e = .returned (.tuple #[.string t, .nilIface]) ∧ Below w.heap.size w w' :=
 Get_ok Z R M H v p o m s r n t w h hdn (Lib.hid ht.pg) ht.n1 (by have := ht.x0; omega) ht.x1 hsz hl (Lib.hid ht.str) ht.sum
theorem at_S {w : World} {A : Option Addr} {n : Nat} {xs : List ByteArray} (h : Kd.C Kd.string w A n xs) {j : Nat} {b : ByteArray} (hj : xs[j]? = some b) : ∃ ad, A = some ad ∧ w.cell? (ad.add j) = some (.string b) := by
 have hn := h.1
 have hl : j < xs.length := (List.getElem?_eq_some_iff.1 hj).1
 obtain ⟨ad, ea, hc⟩ := h.2.2 (by omega)
 obtain ⟨c, hc1, hc2, hc3⟩ := hc j b hj
 refine ⟨ad, ea, ?_⟩
 have e : c = [.string b] := hc2
 have z := hc3 0 (.string b) (by rw [e]; rfl)
 have e1 : j * Kd.string.sz + 0 = j := by
  show j * 1 + 0 = j
  omega
 rw [e1] at z
 exact z
set_option maxHeartbeats 4000000 in
set_option maxRecDepth 100000 in
theorem all_c (Z R M H : Nat) (v p : Value) (o : Mni.Loc) (m : Man) (s : St) (A B : Option Addr) (n c c2 : Nat) (refs : List Rf) (texts : List ByteArray) (w : World) (h : Hid (IsS w ⟨Z, R, M, H, v, p⟩ o m s)) (hdn : Hid (s.d.down = false)) (hsz : s.d.size ≤ 2048) (hl : s.d.soft.length ≤ 9000) (hn : refs.length = n) (ht : texts.length = n) (hn8 : n ≤ 1000) (hr : Hid (Kd.C rk w A n refs)) (htx : Hid (Kd.C Kd.string w B n texts)) (hT : ∀ (i : Nat) (r : Rf) (t : ByteArray), refs[i]? = some r → texts[i]? = some t → ∃ k, Txt s.d r t k) :
  Calls Tryz.prog 18 #[.pointer (some ⟨Z, 0, none⟩), .slice A n c, .slice B n c2] w fun e w' => e = .returned (.int .i64 1) ∧ Below w.heap.size w w' := by
 have HN := Lib.hid hn
 have HTn := Lib.hid ht
 have HT := Lib.hid hT
 clear hn ht hT
 have HB0 := Lib.hid (Below.refl w.heap.size w)
 go_enter Tryz.func18, Tryz.ntmps18
 go_wp2_with fail
 go_loopg [7] n (fun kq v7 wr => ∃ (j : Nat), v7 = .int .i64 (j : Int) ∧ kq + j = n ∧ Hid (Below w.heap.size w wr))
 case atStart => exact ⟨0, rfl, rfl, HB0⟩
 case round =>
  clear HB0
  obtain ⟨j, rfl, hk, HB1⟩ := hrel
  cases gk with
  | zero =>
   have hj : j = n := by omega
   have c1 : decide ((j : Int) < (n : Int)) = false := decide_eq_false (by omega)
   have c1b : decide (j < n) = false := decide_eq_false (by omega)
   clear hk hj
   go_wp2_with fail
   go_ret
   exact ⟨rfl, HB1.out⟩
  | succ k1 =>
   have hj : j < n := by omega
   have hjl : j < refs.length := by rw [HN.out]; exact hj
   have hjt : j < texts.length := by rw [HTn.out]; exact hj
   have c1 : decide ((j : Int) < (n : Int)) = true := decide_eq_true (by omega)
   have c1b : decide (j < n) = true := decide_eq_true hj
   have p1 : (0 ≤ (j : Int)) = True := eq_true (by omega)
   have p2 : ((j : Int) < (n : Int)) = True := eq_true (by omega)
   have q5 : IntKind.i64.wrap ((j : Int) + 1) = (j : Int) + 1 := IntWalk.i64_in _ (by omega)
   obtain ⟨ad, ead, x0, x1, x2⟩ := at_T36 (Kd.C_below hr.out HB1.out) (j : Int) (by omega) (by omega)
   rw [rd_rf refs j hjl] at x0 x1 x2
   simp only [Int.toNat_natCast] at x0 x1 x2
   obtain ⟨x, hx⟩ : ∃ x, refs[j] = x := ⟨_, rfl⟩
   obtain ⟨t, htt⟩ : ∃ t, texts[j] = t := ⟨_, rfl⟩
   obtain ⟨k, hTx⟩ := HT.out j x t (by rw [List.getElem?_eq_getElem hjl, hx]) (by rw [List.getElem?_eq_getElem hjt, htt])
   rw [hx] at x0 x1 x2
   have HX0 := Lib.hid x0
   have HX1 := Lib.hid x1
   have HX2 := Lib.hid x2
   have HTx := Lib.hid hTx
   have hst : texts[j]? = some t := by rw [List.getElem?_eq_getElem hjt, htt]
   obtain ⟨at_, eat, _⟩ := at_S htx.out hst
   have HSt := Lib.hid hst
   obtain rfl : A = some ad := ead
   obtain rfl : B = some at_ := eat
   clear x0 x1 x2 hx htt hTx hst
   go_wp2_with (first | (refine wl_loadRf (ad.add (j * 3)) x HX0.out HX1.out HX2.out rfl _ rfl rfl ?_))
   refine (get_txt Z R M H v p o m s x k t wr (Lib.hid (h.out.on HB1.out)) hdn hsz hl HTx.out).mono ?_
   rintro e w2 ⟨rfl, hd⟩
   have HB2 := below_to HB1 (Nat.le_refl _) hd
   clear hd HX0 HX1 HX2 HB1
   go_wp2_with fail
   refine (code_nil w2).mono ?_
   rintro e w3 ⟨rfl, hd⟩
   have HB3 := below_to HB2 (Nat.le_refl _) hd
   clear hd HB2
   obtain ⟨at2, e2, hcell⟩ := at_S (Kd.C_below htx.out HB3.out) HSt.out
   cases e2
   go_wp2_with fail
   go_roundg k1
   case measure => exact Nat.lt_succ_self _
   case rel => exact ⟨j + 1, by simp, by omega, HB3⟩
end Go.Proofs.YtaodgnladjafoaaGreatDoor.Sto
