/- mani.Read at any bytes. -/
import Derived.Test.YtpijilfkmkdghaaDoorMani16
set_option linter.unusedVariables false
set_option linter.unusedSimpArgs false
namespace Go.Proofs.YtpijilfkmkdghaaDoor.Mni
open Go.RowKit Go.Proofs.YtpijilfkmkdghaaDoorW.PrintWords Go.Proofs.YtpijilfkmkdghaaDoorW.PrintLast Go.Proofs.YtpijilfkmkdghaaDoorW.PrintMore Go.Proofs.YtpijilfkmkdghaaDoor.Md Go.Proofs.YtpijilfkmkdghaaDoor.QManiBack Go.Proofs.YtpijilfkmkdghaaDoor.CdM
open Go.Proofs.YtpijilfkmkdghaaDoor.Err (Laid IsErr code_nil code_c Chain at_some at_nil)
open Go.Proofs.YtpijilfkmkdghaaDoor.Rdr (NumTo NumAt NoNumTo RefAt On Has refA)
open Classical in
noncomputable def readP (s : ByteArray) (size : Int) : Option Man := (partsP s 0).bind fun a => if a.2 = s.size ∧ rightM a.1 size = true then some a.1 else none
def zeroM : Man := ⟨[], [], 0, []⟩
def zeroL : Loc := ⟨none, 0, none, 0, none, 0⟩
theorem read_results (tmps : Array Value) (W : World) (b : Nat) (cs : Array Value) (e : Value) (hs : cs.size = 4) (h4 : tmps.getD 4 undef = .pointer (some ⟨b, 0, none⟩)) (h5 : tmps.getD 5 undef = e) (h : W.heap[b]? = some (Obj.cells cs 32 (0, 0))) : (results Tryd.f15 tmps).run Tryd.prog W = .ok (.tuple #[.agg cs, e]) W := by
  have hl : (loadVar 32 ⟨b, 0, none⟩).run Tryd.prog W = .ok (.agg cs) W := run_loadVar_row W b 32 32 cs (0, 0) _ h Tryd.underlying32 rfl (by rw [sizeM, hs])
  have h4' : tmps[4]?.getD undef = .pointer (some ⟨b, 0, none⟩) := by simpa using h4
  have h5' : tmps[5]?.getD undef = e := by simpa using h5
  simp [results, Tryd.results15, asAddr, h4', h5', hl]
theorem lay_pos (m : Man) : 1 ≤ (layM m).size := by
  unfold layM
  rw [ByteArray.size_append, ByteArray.size_append, ByteArray.size_append, one_numS]
  have := numS_pos m.refs.length
  omega
set_option maxHeartbeats 4000000 in
set_option maxRecDepth 100000 in
theorem read_c (s : ByteArray) (size : Int) (w : World) (hs : s.size ≤ 4611686018427387904) :
    Calls Tryd.prog 15 #[.string s, .int .i64 size] w fun ev w' => Below w.heap.size w w' ∧ ((∃ m o', readP s size = some m ∧ partsP s 0 = some (m, s.size) ∧ rightM m size = true ∧ ev = .returned (.tuple #[.agg (Loc.a o' m), .nilIface]) ∧ At w' o' m) ∨ (readP s size = none ∧ ∃ T x, ev = .returned (.tuple #[.agg (Loc.a zeroL zeroM), .iface T x]) ∧ IsErr w' (.iface T x) 13)) := by
  obtain ⟨U, hU⟩ : ∃ U, readP s size = U := ⟨_, rfl⟩
  have HU := Lib.hid hU
  rw [hU]
  clear hU
  go_enter Tryd.func15, Tryd.ntmps15
  go_upto_region 1 with (first | (refine wl_allocM rfl rfl ?_))
  have HB1 := Lib.hid (show Below w.heap.size w (w.alloc (Obj.cells #[.slice none 0 0, .slice none 0 0, .int .i64 0, .slice none 0 0] 32 (0, 0))) from (Below.refl _ _).alloc (Nat.le_refl _) _)
  have HZ1 := Lib.hid (heap_alloc_last w (Obj.cells #[.slice none 0 0, .slice none 0 0, .int .i64 0, .slice none 0 0] 32 (0, 0)))
  obtain ⟨Z, hZ⟩ : ∃ Z, w.heap.size = Z := ⟨_, rfl⟩
  have hZw : w.heap.size ≤ Z := Nat.le_of_eq hZ
  have HZw := Lib.hid hZw
  rw [hZ] at HZ1
  simp only [hZ]
  generalize (w.alloc (Obj.cells #[.slice none 0 0, .slice none 0 0, .int .i64 0, .slice none 0 0] 32 (0, 0))) = w1 at *
  clear hZ hZw
  go_wp2_with fail
  refine (Rdr.new_c s w1).mono ?_
  rintro e w2 ⟨rfl, hh, hd⟩
  have hRw : w.heap.size ≤ w1.heap.size := HB1.out.size
  have hZR := Err.lt_of_block HZ1.out
  have HB2 := below_to HB1 (Nat.le_refl _) hd
  have HZ2 := blk_to HZ1 hd
  obtain ⟨R, hR⟩ : ∃ R, w1.heap.size = R := ⟨_, rfl⟩
  rw [hR] at hh hRw hZR ⊢
  have HH2 := Lib.hid hh
  have hZ2 : Z < w2.heap.size := Err.lt_of_block HZ2.out
  clear hh hd hR HB1 HZ1
  go_wp2_with fail
  refine (parts_c R s 0 w2 HH2 hs).mono ?_
  rintro e w3 ⟨hm, ⟨m, q, o, hp, rfl, hat, hh⟩ | ⟨hp, o, m, T, x, rfl, hi⟩⟩
  · have HB3 := Lib.hid (HB2.out.trans (hm.below HB2.out.size (fun i hi (e : i = R) => by omega)))
    have HZ3 := Lib.hid (hm.blk HZ2.out (fun (e : Z = R) => by omega))
    have HA3 := Lib.hid hat.1
    have HW3 := Lib.hid hat.2
    have HH3 := Lib.hid hh
    obtain ⟨p1, p2, p3, p4, p5, p6⟩ := parts_on hp
    have hle := p1.le (lay_pos m)
    have hqs : q ≤ s.size := by omega
    have HPp := Lib.hid hp
    clear hm hat hh hp p1 p2 p3 HB2 HZ2 HH2 hle
    go_upto_region 3 with (first
      | (refine wl_allocM rfl rfl ?_)
      | (refine wl_storeMn #[.slice none 0 0, .slice none 0 0, .int .i64 0, .slice none 0 0] rfl o m rfl _ _ rfl rfl rfl ?_))
    have hd : Below w3.heap.size w3 (w3.alloc (Obj.cells (o.a m) 32 (0, 0))) := (Below.refl _ _).alloc (Nat.le_refl _) _
    have HB4 := below_to HB3 (Nat.le_refl _) hd
    have HZ4 := blk_to HZ3 hd
    have HA4 := Lib.hid (HA3.out.on hd)
    have HW4 := Lib.hid (HW3.out.on hd)
    have HH4 := Lib.hid (has_b HH3.out hd (Err.lt_of_block HH3.out))
    have HO4 := Lib.hid (heap_alloc_last w3 (Obj.cells (o.a m) 32 (0, 0)))
    obtain ⟨O, hO⟩ : ∃ O, w3.heap.size = O := ⟨_, rfl⟩
    rw [hO] at HO4
    simp only [hO]
    generalize (w3.alloc (Obj.cells (o.a m) 32 (0, 0))) = w4 at *
    clear hd hO HB3 HZ3 HA3 HH3 HW3
    go_wp2_with fail
    refine (Rdr.left_c R s q w4 HH4 hqs hs).mono ?_
    rintro e w5 ⟨rfl, _, hd⟩
    have HB5 := below_to HB4 (Nat.le_refl _) hd
    have HZ5 := blk_to HZ4 hd
    have HO5 := blk_to HO4 hd
    have HA5 := Lib.hid (HA4.out.on hd)
    have HW5 := Lib.hid (HW4.out.on hd)
    clear hd HB4 HZ4 HO4 HA4 HH4 HW4
    by_cases hq : q = s.size
    · obtain ⟨L, hL⟩ : ∃ L : Int, ((s.size : Int) - (q : Int)) = L := ⟨_, rfl⟩
      have hL0 : L = 0 := by omega
      subst hL0
      rw [hL]
      clear hL
      go_wp2_with (first | (refine wg_loadM O o m HO5.out (by rfl) _ rfl rfl ?_))
      refine (right_c o m size w5 HA5 (by omega) (by omega)).mono ?_
      rintro e w6 ⟨rfl, hd⟩
      have HB6 := below_to HB5 (Nat.le_refl _) hd
      have HZ6 := blk_to HZ5 hd
      have HO6 := blk_to HO5 hd
      have HA6 := Lib.hid (HA5.out.on hd)
      have HW6 := Lib.hid (HW5.out.on hd)
      clear hd HB5 HZ5 HO5 HA5 HW5
      obtain ⟨b, hb⟩ : ∃ b, rightM m size = b := ⟨_, rfl⟩
      rw [hb]
      cases b with
      | true =>
        have HUs := Lib.hid (show U = some m by rw [← HU.out]; unfold readP; rw [HPp.out, Option.bind_some, if_pos ⟨hq, hb⟩])
        have HRb := Lib.hid hb
        clear hb HU
        go_wp2_with (first
          | (refine wl_loadM O o m HO6.out rfl _ rfl rfl ?_)
          | (refine wl_storeM Z #[.slice none 0 0, .slice none 0 0, .int .i64 0, .slice none 0 0] rfl o m HZ6.out rfl _ _ rfl rfl rfl ?_))
        (try simp only [Exit.inBlock, Exit.then])
        refine bodyPost_ret (v := .tuple #[.agg (Loc.a o m), .nilIface]) ?_ rfl ?_
        · exact read_results _ _ Z _ .nilIface rfl rfl rfl (setRow_heap w6 Z _ _ _ _ HZ6.out)
        have hm := mod_row w6 Z (Loc.a o m)
        have hbel := HB6.out.trans (hm.below HB6.out.size (fun i hi (e : i = Z) => by have := HZw.out; omega))
        exact ⟨hbel, .inl ⟨m, o, HUs.out, by rw [HPp.out, hq], HRb.out, rfl, HW6.out.at_ HA6.out hm hZ2⟩⟩
      | false =>
        have HUn := Lib.hid (show U = none by rw [← HU.out]; unfold readP; rw [HPp.out, Option.bind_some, if_neg (fun h => by rw [hb] at h; cases h.2)])
        clear hb HU
        go_wp2_with fail
        refine (at_err _ _ 13 w6).mono ?_
        rintro e w7 ⟨T, x, rfl, he, hd⟩
        have HB7 := below_to HB6 (Nat.le_refl _) hd
        have HZ7 := blk_to HZ6 hd
        have HE7 := Lib.hid he
        clear he hd HB6 HZ6 HO6 HA6
        go_wp2_with (first
          | (refine wl_storeM Z #[.slice none 0 0, .slice none 0 0, .int .i64 0, .slice none 0 0] rfl zeroL zeroM HZ7.out rfl _ _ rfl rfl rfl ?_))
        (try simp only [Exit.inBlock, Exit.then])
        refine bodyPost_ret (v := .tuple #[.agg (Loc.a zeroL zeroM), .iface T x]) ?_ rfl ?_
        · exact read_results _ _ Z _ (.iface T x) rfl rfl rfl (setRow_heap w7 Z _ _ _ _ HZ7.out)
        have hm := mod_row w7 Z (Loc.a zeroL zeroM)
        have hbel := HB7.out.trans (hm.below HB7.out.size (fun i hi (e : i = Z) => by have := HZw.out; omega))
        exact ⟨hbel, .inr ⟨HUn.out, T, x, rfl, isErr_o HE7.out HZ7.out hm⟩⟩
    · obtain ⟨L, hL⟩ : ∃ L : Int, ((s.size : Int) - (q : Int)) = L := ⟨_, rfl⟩
      have hL0 : 0 < L := by omega
      rw [hL]
      have t1 : decide (L > 0) = true := decide_eq_true hL0
      have t1b : decide (0 < L) = true := decide_eq_true hL0
      have HUn := Lib.hid (show U = none by rw [← HU.out]; unfold readP; rw [HPp.out, Option.bind_some, if_neg (fun h => hq h.1)])
      clear hL HU hq
      go_wp2_with fail
      refine (at_err _ _ 13 w5).mono ?_
      rintro e w7 ⟨T, x, rfl, he, hd⟩
      have HB7 := below_to HB5 (Nat.le_refl _) hd
      have HZ7 := blk_to HZ5 hd
      have HE7 := Lib.hid he
      clear he hd HB5 HZ5 HO5 HA5
      go_wp2_with (first
        | (refine wl_storeM Z #[.slice none 0 0, .slice none 0 0, .int .i64 0, .slice none 0 0] rfl zeroL zeroM HZ7.out rfl _ _ rfl rfl rfl ?_))
      (try simp only [Exit.inBlock, Exit.then])
      refine bodyPost_ret (v := .tuple #[.agg (Loc.a zeroL zeroM), .iface T x]) ?_ rfl ?_
      · exact read_results _ _ Z _ (.iface T x) rfl rfl rfl (setRow_heap w7 Z _ _ _ _ HZ7.out)
      have hm := mod_row w7 Z (Loc.a zeroL zeroM)
      have hbel := HB7.out.trans (hm.below HB7.out.size (fun i hi (e : i = Z) => by have := HZw.out; omega))
      exact ⟨hbel, .inr ⟨HUn.out, T, x, rfl, isErr_o HE7.out HZ7.out hm⟩⟩
  · have HB3 := Lib.hid (HB2.out.trans (hm.below HB2.out.size (fun i hi (e : i = R) => by omega)))
    have HZ3 := Lib.hid (hm.blk HZ2.out (fun (e : Z = R) => by omega))
    have HE3 := Lib.hid hi
    have HUn := Lib.hid (show U = none by rw [← HU.out]; unfold readP; rw [hp]; rfl)
    clear hm hi hp HB2 HZ2 HH2 HU
    go_upto_region 3 with (first
      | (refine wl_allocM rfl rfl ?_)
      | (refine wl_storeMn #[.slice none 0 0, .slice none 0 0, .int .i64 0, .slice none 0 0] rfl o m rfl _ _ rfl rfl rfl ?_))
    have hd : Below w3.heap.size w3 (w3.alloc (Obj.cells (o.a m) 32 (0, 0))) := (Below.refl _ _).alloc (Nat.le_refl _) _
    have HB4 := below_to HB3 (Nat.le_refl _) hd
    have HZ4 := blk_to HZ3 hd
    generalize (w3.alloc (Obj.cells (o.a m) 32 (0, 0))) = w4 at *
    clear hd HB3 HZ3 HE3
    go_wp2_with fail
    refine (at_err _ _ 13 w4).mono ?_
    rintro e w7 ⟨T2, x2, rfl, he, hd⟩
    have HB7 := below_to HB4 (Nat.le_refl _) hd
    have HZ7 := blk_to HZ4 hd
    have HE7 := Lib.hid he
    clear he hd HB4 HZ4
    go_wp2_with (first
      | (refine wl_storeM Z #[.slice none 0 0, .slice none 0 0, .int .i64 0, .slice none 0 0] rfl zeroL zeroM HZ7.out rfl _ _ rfl rfl rfl ?_))
    (try simp only [Exit.inBlock, Exit.then])
    refine bodyPost_ret (v := .tuple #[.agg (Loc.a zeroL zeroM), .iface T2 x2]) ?_ rfl ?_
    · exact read_results _ _ Z _ (.iface T2 x2) rfl rfl rfl (setRow_heap w7 Z _ _ _ _ HZ7.out)
    have hm := mod_row w7 Z (Loc.a zeroL zeroM)
    have hbel := HB7.out.trans (hm.below HB7.out.size (fun i hi (e : i = Z) => by have := HZw.out; omega))
    exact ⟨hbel, .inr ⟨HUn.out, T2, x2, rfl, isErr_o HE7.out HZ7.out hm⟩⟩
end Go.Proofs.YtpijilfkmkdghaaDoor.Mni
