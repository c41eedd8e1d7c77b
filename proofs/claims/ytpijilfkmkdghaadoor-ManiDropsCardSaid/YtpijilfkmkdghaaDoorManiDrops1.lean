/- ManiDrops, the walk. -/
import Derived.Test.YtpijilfkmkdghaaDoorMani11
import Derived.Test.YtpijilfkmkdghaaDoorManiDrops0
import Derived.Test.YtpijilfkmkdghaaDoorManiUses1
set_option linter.unusedVariables false
set_option linter.unusedSimpArgs false
namespace Go.Proofs.YtpijilfkmkdghaaDoor.Mni
open Go.RowKit Go.Proofs.YtpijilfkmkdghaaDoorW.PrintWords Go.Proofs.YtpijilfkmkdghaaDoorW.PrintLast Go.Proofs.YtpijilfkmkdghaaDoorW.PrintMore Go.Proofs.YtpijilfkmkdghaaDoor.Md Go.Proofs.YtpijilfkmkdghaaDoor.QManiBack Go.Proofs.YtpijilfkmkdghaaDoor.CdM
open Go.Proofs.YtpijilfkmkdghaaDoor.Err (Laid IsErr code_nil code_c Chain at_some at_nil)
set_option maxHeartbeats 8000000 in
set_option maxRecDepth 100000 in
theorem dropsW (o : Loc) (g : Arg) (W : World) (hw : Hid (Wf W o g)) (hg : Hid (Laid W)) :
    Calls Tryd.prog 4 #[.agg (o.b g)] W fun e w' => e = .returned (.bool true) ∧ Below W.heap.size W w' := by
  have HS1 := Lib.hid (Bx.new hw.out.at_)
  go_enter Tryd.func4, Tryd.ntmps4
  go_upto_region 1 with fail
  obtain ⟨X, hX⟩ : ∃ X, W.heap.size = X := ⟨_, rfl⟩
  rw [hX] at HS1
  simp only [hX]
  generalize (W.alloc (Obj.cells (o.b g) 26 (0, 0))) = w1 at *
  clear hX
  go_wp2_with fail
  refine (awake_c w1 (HS1.out.laid hg)).mono ?_
  rintro e w2 ⟨rfl, hd⟩
  have HS2 := Lib.hid (HS1.out.on hd)
  clear hd HS1
  go_wp2_with (first | (refine wg_loadG X o g HS2.out.box (by rfl) _ rfl rfl ?_))
  refine (few_c o g w2 (Lib.hid HS2.out.arg)).mono ?_
  rintro e w3 ⟨r, rfl, hr01, hr1, hd⟩
  have HS3 := Lib.hid (HS2.out.on hd)
  clear hd HS2
  by_cases hr0 : r = 0
  · subst hr0
    clear hr01 hr1
    go_wp2_with fail
    refine (awake_c w3 (HS3.out.laid hg)).mono ?_
    rintro e w4 ⟨rfl, hd⟩
    have HS4 := Lib.hid (HS3.out.on hd)
    clear hd HS3
    go_wp2_with fail
    go_ret
    exact ⟨rfl, HS4.out.bel⟩
  · obtain rfl : r = 1 := hr01.resolve_left hr0
    obtain ⟨b80, bs20, b20, bl20⟩ := hr1 rfl
    clear hr01 hr0 hr1
    go_wp2_with (first | (refine wg_loadG X o g HS3.out.box (by rfl) _ rfl rfl ?_))
    refine (of_c o g w3 (Lib.hid HS3.out.arg) (by omega)).mono ?_
    rintro e w4 ⟨o1, rfl, ha, hd⟩
    have HS4 := Lib.hid (HS3.out.on hd)
    have HA4 := Lib.hid ha
    clear ha hd HS3
    go_wp2_with fail
    refine (right_c o1 g.m 2048 w4 HA4 (by show g.snaps.length ≤ _; omega) (by rw [gm_len]; omega)).mono ?_
    rintro e w5 ⟨rfl, hd⟩
    have HS5 := Lib.hid (HS4.out.on hd)
    clear hd HS4 HA4
    obtain ⟨b, hb⟩ : ∃ b, rightM g.m 2048 = b := ⟨_, rfl⟩
    rw [hb]
    cases b with
    | false =>
      clear hb
      go_wp2_with fail
      refine (awake_c w5 (HS5.out.laid hg)).mono ?_
      rintro e w6 ⟨rfl, hd⟩
      have HS6 := Lib.hid (HS5.out.on hd)
      clear hd HS5
      go_wp2_with fail
      go_ret
      exact ⟨rfl, HS6.out.bel⟩
    | true =>
      obtain ⟨nmA, ea1, ea2⟩ := drops (m' := { g.m with snaps := [] }) hb rfl rfl (.inl rfl) (.inr rfl)
      obtain ⟨nmB, eb1, eb2⟩ := drops (m' := { g.m with upper := -1 }) hb rfl rfl (.inr rfl) (.inl rfl)
      have HNA := Lib.hid ea1
      have HNB := Lib.hid eb1
      have HRA := Lib.hid ea2
      have HRB := Lib.hid eb2
      clear ea1 ea2 eb1 eb2 hb
      obtain ⟨ns, hns⟩ : ∃ ns, g.stack.length = ns := ⟨_, rfl⟩
      obtain ⟨nq, hnq⟩ : ∃ nq, g.snaps.length = nq := ⟨_, rfl⟩
      rw [hns] at bs20
      rw [hnq] at b20
      have HNs := Lib.hid hns
      have HNq := Lib.hid hnq
      have HBl := Lib.hid bl20
      clear hns hnq bl20
      go_wp2_with (first | (refine wl_loadG X o g HS5.out.box rfl _ rfl rfl ?_))
      refine (of_c o g w5 (Lib.hid HS5.out.arg) (by omega)).mono ?_
      rintro e w6 ⟨oa, rfl, ha, hd⟩
      have HS6 := Lib.hid (HS5.out.on hd)
      have HM6 := Lib.hid ha
      clear ha hd HS5
      go_upto_region 4 with (first
        | (refine wl_allocM rfl rfl ?_)
        | (refine wl_storeMn #[.slice none 0 0, .slice none 0 0, .int .i64 0, .slice none 0 0] rfl oa g.m rfl _ _ rfl rfl rfl ?_))
      have hd : Below w6.heap.size w6 (w6.alloc (Obj.cells (oa.a g.m) 32 (0, 0))) := (Below.refl _ _).alloc (Nat.le_refl _) _
      have HS7 := Lib.hid (HS6.out.on hd)
      have HM7 := Lib.hid (HM6.out.on hd)
      have HP7 := Lib.hid (heap_alloc_last w6 (Obj.cells (oa.a g.m) 32 (0, 0)))
      have hXP := Err.lt_of_block HS6.out.box
      have hWP := HS6.out.bel.size
      obtain ⟨P, hP⟩ : ∃ P, w6.heap.size = P := ⟨_, rfl⟩
      have hP6 : w6.heap.size ≤ P := Nat.le_of_eq hP
      rw [hP] at HP7 hXP hWP
      simp only [hP]
      generalize hw7 : (w6.alloc (Obj.cells (oa.a g.m) 32 (0, 0))) = w7 at *
      have hs67 : Below w6.heap.size w6 w7 := hd
      have HD67 := Lib.hid hs67
      have HP6 := Lib.hid hP6
      clear hd hP hs67 hP6 hw7
      have c9 := Err.cell_of_blk HP7.out 3
      have f9 : w7.frozen? ⟨P, 3, none⟩ = false := by simp [World.frozen?, HP7.out]
      have hm : Mod (· = P) w7 (w7.setCell ⟨P, 3, none⟩ (.slice none 0 0)) := (Mod.refl (· = P) w7).set ⟨P, 3, none⟩ _ (.inl rfl)
      have hbl : Below w6.heap.size w6 (w7.setCell ⟨P, 3, none⟩ (.slice none 0 0)) := HD67.out.trans (hm.below HD67.out.size (fun i hi (e : i = P) => by have := HP6.out; omega))
      have HS8 := Lib.hid (HS6.out.on hbl)
      have HM8 := Lib.hid (HM6.out.on hbl)
      have HP8 := Lib.hid (show (w7.setCell ⟨P, 3, none⟩ (.slice none 0 0)).heap[P]? = some (Obj.cells (Loc.a ⟨oa.p0, oa.c0, oa.p1, oa.c1, none, 0⟩ { g.m with snaps := [] }) 32 (0, 0)) from by simpa [Loc.a] using blk_set HP7.out 3 (.slice none 0 0))
      clear hm hbl HS6 HM6 HS7 HM7 HP7 HD67 HP6
      go_upto_region 5 with fail
      generalize (w7.setCell ⟨P, 3, none⟩ (.slice none 0 0)) = w8 at *
      clear c9 f9
      have HAa := Lib.hid (show At w8 ⟨oa.p0, oa.c0, oa.p1, oa.c1, none, 0⟩ { g.m with snaps := [] } from ⟨HM8.out.r, HM8.out.rc, HM8.out.s, HM8.out.sc, Kd.C_nil _ _, Nat.le_refl _⟩)
      clear HM8
      go_wp2_with (first | (refine wl_loadM P ⟨oa.p0, oa.c0, oa.p1, oa.c1, none, 0⟩ { g.m with snaps := [] } HP8.out rfl _ rfl rfl ?_))
      refine (swept_yes ⟨oa.p0, oa.c0, oa.p1, oa.c1, none, 0⟩ { g.m with snaps := [] } nmA w8 HAa HNA (by rw [show ({ g.m with snaps := [] } : Man).refs.length = g.refs.length from gm_len g]; omega) (by show g.stack.length ≤ _; rw [HNs.out]; omega) (Nat.zero_le _) (Lib.hid (fun l hl => (List.not_mem_nil hl).elim))).mono ?_
      rintro e w9 ⟨ox, rfl, ha, hd⟩
      obtain ⟨mx, hmx⟩ : ∃ mx, sweptM { g.m with snaps := [] } nmA = mx := ⟨_, rfl⟩
      have hx1 : mx.snaps.length = 0 := by rw [← hmx]; rfl
      have hx2 : mx.stack.length = ns := by rw [← hmx]; show (g.stack.map _).length = ns; rw [List.length_map, HNs.out]
      have hRx := HRA.out
      have hx3 : mx.refs.length ≤ 80 := by rw [← hmx]; refine Nat.le_trans (keepR_sub nmA _).length_le ?_; rw [show ({ g.m with snaps := [] } : Man).refs.length = g.refs.length from gm_len g]; exact b80
      rw [hmx] at ha hRx ⊢
      have HRx := Lib.hid hRx
      have HX1 := Lib.hid hx1
      have HX2 := Lib.hid hx2
      have HS9 := Lib.hid (HS8.out.on hd)
      have HAx9 := Lib.hid ha
      clear ha hd hmx hx1 hx2 hRx HS8 HAa HP8 HNA HRA
      go_upto_region 6 with (first
        | (refine wl_allocM rfl rfl ?_)
        | (refine wl_storeMn #[.slice none 0 0, .slice none 0 0, .int .i64 0, .slice none 0 0] rfl ox mx rfl _ _ rfl rfl rfl ?_))
      have hd : Below w9.heap.size w9 (w9.alloc (Obj.cells (ox.a mx) 32 (0, 0))) := (Below.refl _ _).alloc (Nat.le_refl _) _
      have HS10 := Lib.hid (HS9.out.on hd)
      have HAx10 := Lib.hid (HAx9.out.on hd)
      have HBx10 := Lib.hid (heap_alloc_last w9 (Obj.cells (ox.a mx) 32 (0, 0)))
      obtain ⟨Bx_, hBx⟩ : ∃ B, w9.heap.size = B := ⟨_, rfl⟩
      rw [hBx] at HBx10
      simp only [hBx]
      generalize (w9.alloc (Obj.cells (ox.a mx) 32 (0, 0))) = w10 at *
      clear hd hBx HS9 HAx9
      go_wp2_with (first | (refine wl_loadG X o g HS10.out.box rfl _ rfl rfl ?_))
      refine (of_c o g w10 (Lib.hid HS10.out.arg) (by omega)).mono ?_
      rintro e w11 ⟨ob, rfl, ha, hd⟩
      have HS11 := Lib.hid (HS10.out.on hd)
      have HM11 := Lib.hid ha
      have HAx11 := Lib.hid (HAx10.out.on hd)
      have HBx11 := blk_to HBx10 hd
      clear ha hd HS10 HAx10 HBx10
      go_upto_region 7 with (first
        | (refine wl_allocM rfl rfl ?_)
        | (refine wl_storeMn #[.slice none 0 0, .slice none 0 0, .int .i64 0, .slice none 0 0] rfl ob g.m rfl _ _ rfl rfl rfl ?_))
      have hd : Below w11.heap.size w11 (w11.alloc (Obj.cells (ob.a g.m) 32 (0, 0))) := (Below.refl _ _).alloc (Nat.le_refl _) _
      have HP12 := Lib.hid (heap_alloc_last w11 (Obj.cells (ob.a g.m) 32 (0, 0)))
      obtain ⟨R, hR⟩ : ∃ R, w11.heap.size = R := ⟨_, rfl⟩
      have hR6 : w11.heap.size ≤ R := Nat.le_of_eq hR
      rw [hR] at HP12
      simp only [hR]
      generalize hw12 : (w11.alloc (Obj.cells (ob.a g.m) 32 (0, 0))) = w12 at *
      have hs67 : Below w11.heap.size w11 w12 := hd
      have HD67 := Lib.hid hs67
      have HP6 := Lib.hid hR6
      clear hd hR hs67 hR6 hw12
      have c9 := Err.cell_of_blk HP12.out 2
      have f9 : w12.frozen? ⟨R, 2, none⟩ = false := by simp [World.frozen?, HP12.out]
      have hm : Mod (· = R) w12 (w12.setCell ⟨R, 2, none⟩ (.int .i64 (-1))) := (Mod.refl (· = R) w12).set ⟨R, 2, none⟩ _ (.inl rfl)
      have hbl : Below w11.heap.size w11 (w12.setCell ⟨R, 2, none⟩ (.int .i64 (-1))) := HD67.out.trans (hm.below HD67.out.size (fun i hi (e : i = R) => by have := HP6.out; omega))
      have HS13 := Lib.hid (HS11.out.on hbl)
      have HM13 := Lib.hid (HM11.out.on hbl)
      have HAx13 := Lib.hid (HAx11.out.on hbl)
      have HBx13 := blk_to HBx11 hbl
      have HP13 := Lib.hid (show (w12.setCell ⟨R, 2, none⟩ (.int .i64 (-1))).heap[R]? = some (Obj.cells (Loc.a ob { g.m with upper := -1 }) 32 (0, 0)) from by simpa [Loc.a] using blk_set HP12.out 2 (.int .i64 (-1)))
      clear hm hbl HS11 HM11 HAx11 HBx11 HP12 HD67 HP6
      go_upto_region 8 with fail
      generalize (w12.setCell ⟨R, 2, none⟩ (.int .i64 (-1))) = w13 at *
      clear c9 f9
      have HAb := Lib.hid (show At w13 ob { g.m with upper := -1 } from ⟨HM13.out.r, HM13.out.rc, HM13.out.s, HM13.out.sc, HM13.out.n, HM13.out.nc⟩)
      clear HM13
      go_wp2_with (first | (refine wl_loadM R ob { g.m with upper := -1 } HP13.out rfl _ rfl rfl ?_))
      refine (swept_yes ob { g.m with upper := -1 } nmB w13 HAb HNB (by rw [show ({ g.m with upper := -1 } : Man).refs.length = g.refs.length from gm_len g]; omega) (by show g.stack.length ≤ _; rw [HNs.out]; omega) (by show g.snaps.length ≤ _; rw [HNq.out]; omega) (Lib.hid (fun l hl => Nat.le_trans (HBl.out l hl) (by omega)))).mono ?_
      rintro e w14 ⟨oy, rfl, ha, hd⟩
      obtain ⟨my, hmy⟩ : ∃ my, sweptM { g.m with upper := -1 } nmB = my := ⟨_, rfl⟩
      have hy1 : my.snaps.length = nq := by rw [← hmy]; show (g.snaps.map _).length = nq; rw [List.length_map, HNq.out]
      have hy2 : my.upper = -1 := by rw [← hmy]; rfl
      have hRy := HRB.out
      have hy3 : my.refs.length ≤ 80 := by rw [← hmy]; refine Nat.le_trans (keepR_sub nmB _).length_le ?_; rw [show ({ g.m with upper := -1 } : Man).refs.length = g.refs.length from gm_len g]; exact b80
      rw [hmy] at ha hRy ⊢
      have HRy := Lib.hid hRy
      have HY1 := Lib.hid hy1
      have HY2 := Lib.hid hy2
      have HS14 := Lib.hid (HS13.out.on hd)
      have HAy14 := Lib.hid ha
      have HAx14 := Lib.hid (HAx13.out.on hd)
      have HBx14 := blk_to HBx13 hd
      clear ha hd hmy hy1 hy2 hRy HS13 HAx13 HBx13 HAb HP13 HNB HRB
      go_upto_region 9 with (first
        | (refine wl_allocM rfl rfl ?_)
        | (refine wl_storeMn #[.slice none 0 0, .slice none 0 0, .int .i64 0, .slice none 0 0] rfl oy my rfl _ _ rfl rfl rfl ?_))
      have hd : Below w14.heap.size w14 (w14.alloc (Obj.cells (oy.a my) 32 (0, 0))) := (Below.refl _ _).alloc (Nat.le_refl _) _
      have HS15 := Lib.hid (HS14.out.on hd)
      have HAx15 := Lib.hid (HAx14.out.on hd)
      have HAy15 := Lib.hid (HAy14.out.on hd)
      have HBx15 := blk_to HBx14 hd
      have HBy15 := Lib.hid (heap_alloc_last w14 (Obj.cells (oy.a my) 32 (0, 0)))
      obtain ⟨By, hBy⟩ : ∃ B, w14.heap.size = B := ⟨_, rfl⟩
      rw [hBy] at HBy15
      simp only [hBy]
      generalize (w14.alloc (Obj.cells (oy.a my) 32 (0, 0))) = w15 at *
      clear hd hBy HS14 HAx14 HAy14 HBx14
      go_wp2_with (first | (refine wl_loadM Bx_ ox mx HBx15.out rfl _ rfl rfl ?_))
      refine (right_c ox mx 2048 w15 HAx15 (by rw [HX1.out]; omega) (by omega)).mono ?_
      rintro e w16 ⟨rfl, hd⟩
      rw [HRx.out]
      have HS16 := Lib.hid (HS15.out.on hd)
      have HAy16 := Lib.hid (HAy15.out.on hd)
      have HBx16 := blk_to HBx15 hd
      have HBy16 := blk_to HBy15 hd
      have a1 := (box_cells HBx16).2.1
      have a3 := (box_cells HBx16).2.2.2
      have b1 := (arg_cells (Lib.hid HS16.out.box)).2.1
      rw [HX2.out] at a1
      rw [HX1.out] at a3
      rw [HNs.out] at b1
      clear hd HS15 HAx15 HAy15 HBx15 HBy15
      go_wp2_with (first | (refine wg_loadM By oy my HBy16.out (by rfl) _ rfl rfl ?_))
      refine (right_c oy my 2048 w16 HAy16 (by rw [HY1.out]; omega) (by omega)).mono ?_
      rintro e w17 ⟨rfl, hd⟩
      rw [HRy.out]
      have HS17 := Lib.hid (HS16.out.on hd)
      have HBy17 := blk_to HBy16 hd
      have d2 := (box_cells HBy17).2.2.1
      have d3 := (box_cells HBy17).2.2.2
      have b3 := (arg_cells (Lib.hid HS17.out.box)).2.2.2
      rw [HY2.out] at d2
      rw [HY1.out] at d3
      rw [HNq.out] at b3
      clear hd a1 a3 b1 HS16 HAy16 HBx16 HBy16
      go_wp2_with fail
      go_ret
      exact ⟨rfl, HS17.out.bel⟩
namespace RowManiDrops
theorem walk (o : Loc) (g : Arg) (w : World) (hw : Wf w o g) (hg : Hid (Laid w)) :
    Calls Tryd.prog 4 #[.agg (o.b g)] w fun e w' => e = .returned (.bool true) ∧ Below w.heap.size w w' := dropsW o g w (Lib.hid hw) hg
end RowManiDrops
end Go.Proofs.YtpijilfkmkdghaaDoor.Mni

