/- The laws' example on slots. -/
import Derived.Test.YtkgiifcbimpcoaaDoorSlot7
set_option linter.unusedVariables false
set_option linter.unusedSimpArgs false
namespace Go.Proofs.YtkgiifcbimpcoaaDoor.Slt
open Go.Proofs.YtkgiifcbimpcoaaDoor.AdM (sum bl bl_length A B A_one A_lt B_lt)
open Go.RowKit Go.Proofs.YtkgiifcbimpcoaaDoor.QSlotUnlike Go.Proofs.YtkgiifcbimpcoaaDoorW.PrintWords Go.Proofs.YtkgiifcbimpcoaaDoorW.PrintLast Go.Proofs.YtkgiifcbimpcoaaDoorW.PrintMore Go.Proofs.YtkgiifcbimpcoaaDoor.CdM Go.Proofs.YtkgiifcbimpcoaaDoor.Md Go.Proofs.YtkgiifcbimpcoaaDoor.Dk Go.Proofs.YtkgiifcbimpcoaaDoor.Blb
open Go.Extern.Stop (cell)
open Go.Proofs.YtkgiifcbimpcoaaDoor.Err (Laid IsErr code_nil code_c Chain at_some at_nil)
theorem slotOf_pz : slotOf pz = Sl.zero := slotOf_sum (by decide +kernel)
theorem rd_switched (d : Dsk) (s : Sl) (j : Int) : rd (switched d s) j = if j = s.g % 2 then s.lay else rd d j := rfl
theorem rd_flushed (d : Dsk) (j : Int) : rd (flushed d) j = rd d j := rfl
theorem slotOf_self {s : Sl} (h : s.Rt) : slotOf s.lay = s := slotOf_lay h rfl
def s1 : Sl := ⟨1, 0, 0, 0⟩
theorem s1_rt : s1.Rt := ⟨by decide, by decide, by decide, by decide, by decide, by decide, by decide, by decide⟩
theorem best_pz {d : Dsk} (h0 : rd d 0 = pz) (h1 : rd d 1 = pz) : bestOf d 2 = Sl.zero := by
  show pick (pick Sl.zero (slotOf (rd d ((0 : Nat) : Int)))) (slotOf (rd d ((1 : Nat) : Int))) = _
  rw [show rd d ((0 : Nat) : Int) = pz from h0, show rd d ((1 : Nat) : Int) = pz from h1, slotOf_pz]
  rfl
theorem bestOf_two (d : Dsk) : bestOf d 2 = pick (pick Sl.zero (slotOf (rd d 0))) (slotOf (rd d 1)) := rfl
theorem pick_zero (s : Sl) : pick Sl.zero (slotOf (s.lay)) = pick Sl.zero (slotOf s.lay) := rfl
theorem pick_z {s : Sl} (h : 0 < s.g) : pick Sl.zero s = s := by unfold pick; exact if_pos h
theorem pick_zz : pick Sl.zero Sl.zero = Sl.zero := by unfold pick; split <;> rfl
theorem pick_sz {s : Sl} (h : 0 ≤ s.g) : pick s Sl.zero = s := by
  unfold pick; exact if_neg (by show ¬ s.g < 0; omega)
theorem ft_nil {R M : Nat} {v : Value} {n : Nat} : ∀ i, Ft R M (.slice none 0 0) i → Ft R M v i ∨ n ≤ i := by
  rintro i (rfl | rfl | e)
  · exact .inl (.inl rfl)
  · exact .inl (.inr (.inl rfl))
  · simp [Value.ownBlock] at e
/-- one disk behind a switch, a flush -/
theorem One.sw {W wr w2 : World} {R M : Nat} {v : Value} {d d' : Dsk} (h : One W wr R M v d) (k : Mod (Ft R M v) wr w2) (hd : IsD w2 R M (.slice none 0 0) d') : One W w2 R M (.slice none 0 0) d' := h.mods k hd ft_nil
set_option maxHeartbeats 8000000 in
set_option maxRecDepth 100000 in
theorem awake_c (w : World) (hg : Hid (Laid w)) : Calls Tryd.prog 9 #[] w fun e w' => e = .returned (.bool true) ∧ Below w.heap.size w w' := by
  have hw := Lib.hid (Below.refl w.heap.size w)
  go_enter Tryd.func9, Tryd.ntmps9
  go_wp2_with fail
  refine (new_c w 4 (by omega) (by omega)).mono ?_
  rintro e w1 ⟨R, M, hR, hM, rfl, hb, hd⟩
  have HO1 := Lib.hid (show One w w1 R M (.slice none 0 0) ⟨4, fun _ => pz, [], false, -1⟩ from ⟨hb, hd, Fr.nil hR hM⟩)
  obtain ⟨d, hdd⟩ : ∃ d : Dsk, d = ⟨4, fun _ => pz, [], false, -1⟩ := ⟨_, rfl⟩
  rw [← hdd] at HO1
  have Hd := Lib.hid hdd
  have hl0 : d.soft.length ≤ 1000 := by rw [hdd]; show (0 : Nat) ≤ 1000; omega
  clear hb hd hR hM hdd
  go_wp2_with fail
  refine (best_c w1 R M _ d (Lib.hid HO1.out.dsk) hl0).mono ?_
  rintro e w2 ⟨hb, _, h3, _⟩
  obtain ⟨T, u, rfl, he⟩ := h3 (by rw [Hd.out]; rfl) (by rw [Hd.out]; rfl) (by rw [best_pz (by rw [Hd.out]; rfl) (by rw [Hd.out]; rfl)]; show ¬ (0 : Int) < 0; omega)
  have HO2 := Lib.hid (HO1.out.on hb)
  have HE2 := Lib.hid he
  clear hb h3 he HO1
  go_wp2_with (first
    | (refine wl_allocS rfl rfl ?_)
    | (refine wl_storeSn 0 0 0 0 0 0 0 0 rfl _ _ rfl rfl rfl ?_))
  have hb3 : Below w2.heap.size w2 (w2.alloc (Obj.cells (slA 0 0 0 0) 35 (0, 0))) := (Below.refl _ _).alloc (Nat.le_refl _) _
  have HO3 := Lib.hid (HO2.out.on hb3)
  have HE3 := Lib.hid (HE2.out.on hb3)
  obtain ⟨G, hG⟩ : ∃ G, w2.heap.size = G := ⟨_, rfl⟩
  simp only [hG]
  generalize (w2.alloc (Obj.cells (slA 0 0 0 0) 35 (0, 0))) = w3 at *
  clear hb3 HO2 HE2 hG
  refine (switch_ok w3 R M _ d s1 (Lib.hid HO3.out.dsk) s1_rt (Lib.hid (by rw [Hd.out])) (by rw [Hd.out]; decide) (by rw [Hd.out]; decide) (by rw [Hd.out]; decide) (by rw [Hd.out]; decide) hl0).mono ?_
  rintro e w4 ⟨rfl, hm, hd⟩
  have HO4 := Lib.hid (One.sw HO3.out hm hd)
  have HE4 := Lib.hid (isErr_ft HE3.out HO3.out.dsk hm)
  have h0 : rd (switched d s1) 0 = pz := by rw [rd_switched, if_neg (by decide), Hd.out]; rfl
  have h1 : rd (switched d s1) 1 = s1.lay := by rw [rd_switched, if_pos (by decide)]
  have hbest : bestOf (switched d s1) 2 = s1 := by
    rw [bestOf_two, h0, h1, slotOf_pz, slotOf_self s1_rt, pick_zz, pick_z s1_rt.g0]
  have HBs := Lib.hid hbest
  have HM0 := Lib.hid (show mayN (switched d s1) 0 = 0 from by rw [Hd.out]; rfl)
  have HM1 := Lib.hid (show mayN (switched d s1) 1 = 0 from by rw [Hd.out]; rfl)
  have hl4 : (switched d s1).soft.length ≤ 1000 := by show (0 : Nat) ≤ 1000; omega
  obtain ⟨d4, hd4⟩ : ∃ d4, switched d s1 = d4 := ⟨_, rfl⟩
  rw [hd4] at HO4 HBs HM0 HM1 hl4
  clear hm hd HO3 HE3 h0 h1 hbest hd4 hl0
  go_wp2_with fail
  refine (best_c w4 R M _ d4 (Lib.hid HO4.out.dsk) hl4).mono ?_
  rintro e w5 ⟨hb, h2, _, _⟩
  obtain rfl := h2 HM0.out HM1.out (by rw [HBs.out]; exact s1_rt.g0)
  rw [HBs.out]
  have HO5 := Lib.hid (HO4.out.on hb)
  have HE5 := Lib.hid (HE4.out.on hb)
  clear hb h2 HO4 HE4
  have hb6 : Below w5.heap.size w5 (w5.alloc (Obj.cells (slA 1 0 0 0) 35 (0, 0))) := (Below.refl _ _).alloc (Nat.le_refl _) _
  have HO6 := Lib.hid (HO5.out.on hb6)
  have HE6 := Lib.hid (HE5.out.on hb6)
  have HL6 := Lib.hid (hg.out.on HO6.out.bel)
  have HS6 := Lib.hid (heap_alloc_last w5 (Obj.cells (slA 1 0 0 0) 35 (0, 0)))
  clear hb6
  go_wp2_with (first
    | (refine wl_allocS rfl rfl ?_)
    | (refine wl_storeSn 0 0 0 0 1 0 0 0 rfl _ _ rfl rfl rfl ?_))
  obtain ⟨G2, hG2⟩ : ∃ G2, w5.heap.size = G2 := ⟨_, rfl⟩
  rw [hG2] at HS6
  simp only [hG2]
  generalize (w5.alloc (Obj.cells (slA 1 0 0 0) 35 (0, 0))) = w6 at *
  clear hG2 HO5 HE5
  refine (code_nil _).mono ?_
  rintro e w7 ⟨rfl, hb⟩
  have HO7 := Lib.hid (HO6.out.on hb)
  have HE7 := Lib.hid (HE6.out.on hb)
  have HL7 := Lib.hid (HL6.out.on hb)
  have HS7 := blk_to HS6 hb
  clear hb HO6 HE6 HL6 HS6
  go_wp2_with fail
  refine (code_c _ 3 _ HE7 HL7).mono ?_
  rintro e w8 ⟨rfl, hb⟩
  have HO8 := Lib.hid (HO7.out.on hb)
  have HS8 := blk_to HS7 hb
  clear hb HO7 HE7 HL7 HS7
  go_wp2_with fail
  refine (code_nil _).mono ?_
  rintro e w9 ⟨rfl, hb⟩
  have HO9 := Lib.hid (HO8.out.on hb)
  have HS9 := blk_to HS8 hb
  clear hb HO8 HS8
  go_wp2_with fail
  refine (code_nil _).mono ?_
  rintro e w10 ⟨rfl, hb⟩
  have HO10 := Lib.hid (HO9.out.on hb)
  have HS10 := blk_to HS9 hb
  clear hb HO9 HS9
  have hc := (sl_keep HS10.out (Below.refl w10.heap.size w10)).1
  go_wp2_with fail
  go_ret
  exact ⟨rfl, HO10.out.bel⟩
end Go.Proofs.YtkgiifcbimpcoaaDoor.Slt
