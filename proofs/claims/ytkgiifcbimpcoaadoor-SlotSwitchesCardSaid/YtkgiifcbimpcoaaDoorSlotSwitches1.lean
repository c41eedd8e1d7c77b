/- SlotSwitches, the walk. -/
import Derived.Test.YtkgiifcbimpcoaaDoorSlotsArg
set_option linter.unusedVariables false
set_option linter.unusedSimpArgs false
namespace Go.Proofs.YtkgiifcbimpcoaaDoor.RowSlotSwitches
open Go.RowKit Go.Proofs.YtkgiifcbimpcoaaDoorW.PrintWords Go.Proofs.YtkgiifcbimpcoaaDoorW.PrintLast Go.Proofs.YtkgiifcbimpcoaaDoorW.PrintMore Go.Proofs.YtkgiifcbimpcoaaDoor.Md Go.Proofs.YtkgiifcbimpcoaaDoor.Dk Go.Proofs.YtkgiifcbimpcoaaDoor.Blb Go.Proofs.YtkgiifcbimpcoaaDoor.Slt
open Go.Extern.Stop (cell)
open Go.Proofs.YtkgiifcbimpcoaaDoor.Err (Laid IsErr code_nil code_c Chain at_some at_nil)
/-- what holds of the disk, the generation that comes next, the slot that counts -/
structure Inv (d : Dsk) (G : Int) (l : Sl) : Prop where
  dn : d.down = false
  sz : d.size = 4
  bu : d.budget = -1
  so : d.soft = []
  g0 : 1 ≤ G
  lg : l = Sl.zero ∨ (l.Rt ∧ l.g = G - 1)
  cur : slotOf (rd d ((G + 1) % 2)) = l
  old : (slotOf (rd d (G % 2))).g < l.g ∨ (l = Sl.zero ∧ slotOf (rd d (G % 2)) = Sl.zero)
theorem Inv.best {d : Dsk} {G : Int} {l : Sl} (h : Inv d G l) : bestOf d 2 = l := by
  have hk : (G + 1) % 2 = 0 ∨ (G + 1) % 2 = 1 := by omega
  have e : 1 - (G + 1) % 2 = G % 2 := by omega
  rcases h.old with ho | ⟨hl, ho⟩
  · exact best_great (T := slotOf (rd d (G % 2))) hk h.cur (by rw [e]) ho (slotOf_nonneg _)
  · rw [best_par (S := l) (T := Sl.zero) hk h.cur (by rw [e]; exact ho), hl]
    split <;> (rw [pick_zz, pick_zz])
theorem Inv.start {d : Dsk} (hd : d = ⟨4, fun _ => pz, [], false, -1⟩) {G : Int} (h : 1 ≤ G) : Inv d G Sl.zero := by
  subst hd
  exact ⟨rfl, rfl, rfl, rfl, h, .inl rfl, slotOf_pz, .inr ⟨rfl, slotOf_pz⟩⟩
theorem Inv.switched {d : Dsk} {G : Int} {l s : Sl} (h : Inv d G l) (hs : s.Rt) (hg : s.g = G) : Inv (switched d s) (G + 1) s := by
  have h0 := h.g0
  refine ⟨h.dn, h.sz, bu_one d s h.bu, rfl, by omega, .inr ⟨hs, by omega⟩, ?_, .inl ?_⟩
  · rw [rd_switched, if_pos (by omega)]; exact slotOf_self hs
  · rw [rd_switched, if_neg (by omega), h.cur]
    rcases h.lg with rfl | ⟨_, hl⟩
    · have := hs.g0; exact this
    · omega
theorem Inv.spent {d d0 : Dsk} {G : Int} {l : Sl} (h : Inv d G l) (hd : d0 = { flushed { d with budget := 0 } with budget := -1 }) : Inv d0 G l := by
  subst hd
  exact ⟨h.dn, h.sz, rfl, rfl, h.g0, h.lg, h.cur, h.old⟩
theorem Inv.lgz {d : Dsk} {G : Int} {l : Sl} (h : Inv d G l) : l.g = 0 → l = Sl.zero := by
  intro hz
  rcases h.lg with e | ⟨hr, _⟩
  · exact e
  · have := hr.g0; omega
/-- the sector written last isn't firm: the mask's first bit tells whether it is kept -/
theorem Inv.crash {d d2 : Dsk} {G : Int} {l s : Sl} (h : Inv d G l) (hs : s.Rt) (hg : s.g = G) (mask : Nat) (hd : d2.firm = stl mask d.firm [(G % 2, s.lay)] 0) (ho : d2.soft = []) : bestOf d2 2 = if mask % 2 = 1 then s else l := by
  have hrd : ∀ j, rd d2 j = d2.firm j := fun j => rd_firm d2 j ho
  have hrd1 : ∀ j, rd d j = d.firm j := fun j => rd_firm d j h.so
  have hb : bit mask 0 = (mask % 2 == 1) := by unfold bit; simp
  have e1 : stl mask d.firm [(G % 2, s.lay)] 0 = if bit mask 0 then upd d.firm (G % 2) s.lay else d.firm := rfl
  by_cases hm : mask % 2 = 1
  · rw [if_pos hm]
    rw [e1, hb, if_pos (by simpa using hm)] at hd
    have hk : G % 2 = 0 ∨ G % 2 = 1 := by omega
    refine best_great (S := s) (T := l) hk ?_ ?_ ?_ ?_
    · rw [hrd, hd]; unfold upd; rw [if_pos rfl]; exact slotOf_self hs
    · rw [hrd, hd]; unfold upd; rw [if_neg (by omega), ← hrd1, show 1 - G % 2 = (G + 1) % 2 by omega]; exact h.cur
    · rcases h.lg with rfl | ⟨_, hl⟩
      · exact hs.g0
      · omega
    · rcases h.lg with rfl | ⟨hr, _⟩
      · exact Int.le_refl _
      · have := hr.g0; omega
  · rw [if_neg hm]
    rw [e1, hb, if_neg (by simpa using hm)] at hd
    have h2 : bestOf d2 2 = bestOf d 2 := by
      rw [bestOf_two, bestOf_two, hrd, hrd, hd, ← hrd1, ← hrd1]
    rw [h2]; exact h.best
theorem slot_at {w : World} {A : Option Addr} {n : Nat} {l : List Sl} (h : Kd.C rk w A n l) (i : Nat) (hi : i < l.length) : ∃ ad, A = some ad ∧ w.cell? (ad.add (i * 4)) = some (.int .u32 l[i].g) ∧ w.cell? ((ad.add (i * 4)).add 1) = some (.int .i64 l[i].x) ∧ w.cell? ((ad.add (i * 4)).add 2) = some (.int .i64 l[i].y) ∧ w.cell? ((ad.add (i * 4)).add 3) = some (.int .u32 l[i].z) := by
  obtain ⟨hn, _, h3⟩ := h
  obtain ⟨ad, e, hx⟩ := h3 (by omega)
  obtain ⟨cs, h1, h2, h4⟩ := hx i l[i] (List.getElem?_eq_getElem hi)
  have h2' : cs = rcs l[i] := h2
  subst h2'
  have c0 := h4 0 _ rfl
  have c1 := h4 1 _ rfl
  have c2 := h4 2 _ rfl
  have c3 := h4 3 _ rfl
  have hA : ∀ k, 0 < k → ad.add (i * 4 + k) = (ad.add (i * 4)).add k := fun k hk => by
    unfold Addr.add
    rw [if_neg (by omega), if_neg (by omega)]
    by_cases h0 : i * 4 = 0
    · rw [if_pos h0, h0, Nat.zero_add]
    · rw [if_neg h0]; congr 1; show _ = ad.off + i * 4 + k; omega
  rw [show i * rk.sz + 1 = i * 4 + 1 from rfl, hA 1 (by omega)] at c1
  rw [show i * rk.sz + 2 = i * 4 + 2 from rfl, hA 2 (by omega)] at c2
  rw [show i * rk.sz + 3 = i * 4 + 3 from rfl, hA 3 (by omega)] at c3
  exact ⟨ad, e, by simpa [rk] using c0, c1, c2, c3⟩
set_option maxHeartbeats 4000000 in
set_option maxRecDepth 100000 in
theorem many (f : Int) (A : Option Addr) (n c : Nat) (b : Int) (m : Nat) (W : World) (hn : 30 < n) (hg : Hid (Laid W)) : Calls Tryd.prog 8 #[.int .u32 f, .slice A n c, .int .u8 b, .int .u64 (m : Int)] W fun e w' => e = .returned (.bool true) ∧ Below W.heap.size W w' := by
  have c1 : decide ((n : Int) > 30) = true := decide_eq_true (by omega)
  have c1' : decide (n > 30) = true := decide_eq_true (by omega)
  have c1'' : decide (30 < n) = true := decide_eq_true (by omega)
  go_enter Tryd.func8, Tryd.ntmps8
  go_wp2_with fail
  refine (awake_c _ hg).mono ?_
  rintro e w1 ⟨rfl, hd⟩
  have HX1 := Lib.hid hd
  clear hd
  go_wp2_with fail
  refine (awake_c _ (Lib.hid (hg.out.on HX1.out))).mono ?_
  rintro e w2 ⟨rfl, hd⟩
  have HX2 := below_to HX1 (Nat.le_refl _) hd
  clear hd
  go_wp2_with fail
  go_ret
  exact ⟨rfl, HX2.out⟩
set_option maxHeartbeats 16000000 in
set_option maxRecDepth 100000 in
theorem few (f : Int) (A : Option Addr) (n c : Nat) (xs : List Sl) (b : Int) (m : Nat) (W : World) (hxl : xs.length = n) (hA : Hid (Kd.C rk W A n xs)) (hw : Hid (∀ s ∈ xs, Wf s.g s.x s.y s.z)) (hf : 0 ≤ f) (hb : 0 ≤ b ∧ b < 256) (hm : m < 2 ^ 64) (hn : n ≤ 30) (hg : Hid (Laid W)) : Calls Tryd.prog 8 #[.int .u32 f, .slice A n c, .int .u8 b, .int .u64 (m : Int)] W fun e w' => e = .returned (.bool true) ∧ Below W.heap.size W w' := by
  have c1 : decide ((n : Int) > 30) = false := decide_eq_false (by omega)
  have c1' : decide (n > 30) = false := decide_eq_false (by omega)
  have c1'' : decide (30 < n) = false := decide_eq_false (by omega)
  obtain ⟨G0, hG0⟩ : ∃ G0, (f.tmod 1000 + 1) % 4294967296 = G0 := ⟨_, rfl⟩
  have hG1 : 1 ≤ G0 ∧ G0 ≤ 1000 := by rw [Int.tmod_eq_emod_of_nonneg hf] at hG0; omega
  have HBb := Lib.hid hb
  clear hf hb
  go_enter Tryd.func8, Tryd.ntmps8
  go_wp2_with fail
  refine (awake_c _ hg).mono ?_
  rintro e w1 ⟨rfl, hd⟩
  have HX1 := Lib.hid hd
  clear hd
  go_wp2_with fail
  refine (new_c _ 4 (by omega) (by omega)).mono ?_
  rintro e w2 ⟨R, M, hR, hM, rfl, hd, hdd⟩
  have HX2 := below_to HX1 (Nat.le_refl _) hd
  have hXs := HX1.out.size
  have HO2 := Lib.hid (show One W w2 R M (.slice none 0 0) ⟨4, fun _ => pz, [], false, -1⟩ from ⟨HX2.out, hdd, Fr.nil (by omega) (by omega)⟩)
  obtain ⟨d0, hd0⟩ : ∃ d : Dsk, d = ⟨4, fun _ => pz, [], false, -1⟩ := ⟨_, rfl⟩
  rw [← hd0] at HO2
  have HI2 := Lib.hid (Inv.start hd0 hG1.1)
  have HFr := Lib.hid (show Fr W.heap.size R M (.slice none 0 0) from HO2.out.fr)
  clear hd hdd hd0 HX1 HX2 hR hM hXs
  go_wp2_with fail
  refine (code_nil _).mono ?_
  rintro e w3 ⟨rfl, hd⟩
  have HO3 := Lib.hid (HO2.out.on hd)
  clear hd HO2
  go_wp2_with (first
    | (refine wl_allocS rfl rfl ?_)
    | (refine wl_storeSn 0 0 0 0 0 0 0 0 rfl _ _ rfl rfl rfl ?_))
  have hb4 : Below w3.heap.size w3 (w3.alloc (Obj.cells (slA 0 0 0 0) 35 (0, 0))) := (Below.refl _ _).alloc (Nat.le_refl _) _
  have HL4 := Lib.hid (heap_alloc_last w3 (Obj.cells (slA 0 0 0 0) 35 (0, 0)))
  have HO4 := Lib.hid (HO3.out.on hb4)
  have hRL := HO3.out.dsk.ft_lt
  obtain ⟨L, hL⟩ : ∃ L, w3.heap.size = L := ⟨_, rfl⟩
  rw [hL] at HL4 hRL
  have hWL : W.heap.size ≤ L := by rw [← hL]; exact HO3.out.bel.size
  simp only [hL]
  generalize (w3.alloc (Obj.cells (slA 0 0 0 0) 35 (0, 0))) = w4 at *
  clear hL hb4 HO3
  go_loopg [11, 13] n (fun kq v0 v1 wr => ∃ (i : Nat) (G : Int) (l : Sl) (d : Dsk), v0 = .int .u32 G ∧ v1 = .int .i64 (i : Int) ∧ kq + i = n ∧ G ≤ 1000 + (i : Int) ∧ Hid (Inv d G l) ∧ Hid (One W wr R M (.slice none 0 0) d) ∧ Hid (wr.heap[L]? = some (Obj.cells l.a 35 (0, 0))))
  case atStart => exact ⟨0, G0, Sl.zero, d0, rfl, rfl, by omega, by omega, HI2, HO4, HL4⟩
  case round =>
    clear HI2 HO4 HL4
    obtain ⟨i, G, l, d, rfl, rfl, hk, hGi, HI, HO, HL⟩ := hrel
    cases gk with
    | zero =>
      have hin : i = n := by omega
      have c5 : decide ((i : Int) < (n : Int)) = false := decide_eq_false (by omega)
      have c5' : decide (i < n) = false := decide_eq_false (by omega)
      have hgg := HI.out.g0
      have hRt : Slt.Rt G 3 5 7 := ⟨by omega, by omega, by omega, by omega, by omega, by omega, by omega, by omega⟩
      have HRt := Lib.hid hRt
      have hG0 : 0 ≤ G := by omega
      have hGl : G < 4294967296 := by omega
      have hb5 : Below wr.heap.size wr (wr.alloc (Obj.cells (slA G 3 5 7) 35 (0, 0))) := (Below.refl _ _).alloc (Nat.le_refl _) _
      have HO5 := Lib.hid (HO.out.on hb5)
      have HL5 := blk_to HL hb5
      have HS5 := Lib.hid (heap_alloc_last wr (Obj.cells (slA G 3 5 7) 35 (0, 0)))
      have hRS := HO.out.dsk.ft_lt
      clear hb5 hRt hgg hin hk
      go_wp2_with (first
        | (refine wl_allocS rfl rfl ?_)
        | (refine wl_storeSn 0 0 0 0 G 3 5 7 rfl _ _ rfl rfl rfl ?_))
      obtain ⟨S, hS⟩ : ∃ S, wr.heap.size = S := ⟨_, rfl⟩
      rw [hS] at HS5 hRS
      simp only [hS]
      generalize (wr.alloc (Obj.cells (slA G 3 5 7) 35 (0, 0))) = w5 at *
      clear hS HO HL
      refine (lay_ok G 3 5 7 _ HRt.out).mono ?_
      rintro e w6 ⟨rfl, hd⟩
      have HO6 := Lib.hid (HO5.out.on hd)
      have HL6 := blk_to HL5 hd
      have HS6 := blk_to HS5 hd
      clear hd HO5 HL5 HS5
      obtain ⟨P, hP⟩ : ∃ P, layP G 3 5 7 = P := ⟨_, rfl⟩
      have HP := Lib.hid hP
      rw [hP]
      clear hP
      have hb7 : Below w6.heap.size w6 (w6.alloc (Obj.cells (pa P) 27 (0, 0))) := (Below.refl _ _).alloc (Nat.le_refl _) _
      have HO7 := Lib.hid (HO6.out.on hb7)
      have HL7 := blk_to HL6 hb7
      have HS7 := blk_to HS6 hb7
      have HP7 := Lib.hid (heap_alloc_last w6 (Obj.cells (pa P) 27 (0, 0)))
      clear hb7
      go_wp2_with (first
        | (refine wl_alloc30 rfl rfl ?_)
        | (refine wl_store30n pz P rfl _ _ rfl rfl rfl ?_))
      obtain ⟨X, hX⟩ : ∃ X, w6.heap.size = X := ⟨_, rfl⟩
      rw [hX] at HP7
      simp only [hX]
      generalize (w6.alloc (Obj.cells (pa P) 27 (0, 0))) = w7 at *
      clear hX HO6 HL6 HS6
      refine (code_nil _).mono ?_
      rintro e w8 ⟨rfl, hd⟩
      have HO8 := Lib.hid (HO7.out.on hd)
      have HL8 := blk_to HL7 hd
      have HS8 := blk_to HS7 hd
      have HP8 := blk_to HP7 hd
      clear hd HO7 HL7 HS7 HP7
      go_wp2_with (first
        | (refine wg_load30 X P HP8.out (by rfl) _ rfl rfl ?_))
      refine (write_ok w8 R M _ d (G % 2) P (Lib.hid HO8.out.dsk) (Lib.hid HI.out.dn) (by omega) (by rw [HI.out.sz]; omega) (by rw [HI.out.bu]; decide) (by rw [HI.out.bu]; decide) (by rw [HI.out.bu]; decide) (by rw [HI.out.so]; decide)).mono ?_
      rintro e w9 ⟨rfl, v9, hm, hdd, hv⟩
      have HL9 := Lib.hid (hm.blk HL8.out (fun hf => by have := hRL _ hf; omega))
      have HS9 := Lib.hid (hm.blk HS8.out (fun hf => by have := hRS _ hf; omega))
      have HO9 := Lib.hid (HO8.out.mods hm hdd (ft_new hv))
      have hRL9 : ∀ q, Ft R M v9 q → q ≠ L ∧ q ≠ S := fun q hq => by
        rcases ft_new hv q hq with e | e
        · have h1 := hRL _ e; have h2 := hRS _ e; omega
        · have h1 := Err.lt_of_block HL8.out; have h2 := Err.lt_of_block HS8.out; omega
      clear hm hdd hv HO8 HL8 HS8 HP8
      go_wp2_with fail
      refine (code_nil _).mono ?_
      rintro e w10 ⟨rfl, hd⟩
      have HO10 := Lib.hid (HO9.out.on hd)
      have HL10 := blk_to HL9 hd
      have HS10 := blk_to HS9 hd
      clear hd HO9 HL9 HS9
      obtain ⟨dw, hdw⟩ : ∃ dw : Dsk, dw = { d with soft := d.soft ++ [(G % 2, P)], budget := max (d.budget - 1) (-1) } := ⟨_, rfl⟩
      rw [← hdw] at HO10
      have hsw : dw.soft = [(G % 2, P)] := by rw [hdw]; show d.soft ++ _ = _; rw [HI.out.so]; rfl
      have HDw := Lib.hid hdw
      have HSw := Lib.hid hsw
      clear hdw hsw
      go_wp2_with fail
      refine (crash_c w10 R M _ dw m (Lib.hid HO10.out.dsk) hm (by rw [HSw.out]; simp)).mono ?_
      rintro e w11 ⟨rfl, hmm, hdd⟩
      have HL11 := Lib.hid (hmm.blk HL10.out (fun hf => (hRL9 _ hf).1 rfl))
      have HS11 := Lib.hid (hmm.blk HS10.out (fun hf => (hRL9 _ hf).2 rfl))
      have HO11 := Lib.hid (One.sw HO10.out hmm hdd)
      clear hmm hdd HO10 HL10 HS10 hRL9
      go_wp2_with fail
      refine (up_c w11 R M _ _ (Lib.hid HO11.out.dsk)).mono ?_
      rintro e w12 ⟨rfl, hmm, hdd⟩
      have hmm' := hmm.mono (T := Ft R M (.slice none 0 0)) (fun _ _ e => .inl e)
      have HL12 := Lib.hid (hmm'.blk HL11.out (fun hf => by have := hRL _ hf; omega))
      have HS12 := Lib.hid (hmm'.blk HS11.out (fun hf => by have := hRS _ hf; omega))
      have HO12 := Lib.hid (One.sw HO11.out hmm' hdd)
      obtain ⟨d2, hd2⟩ : ∃ d2 : Dsk, d2 = { { dw with firm := stl m dw.firm dw.soft 0, soft := [], down := true } with down := false } := ⟨_, rfl⟩
      have HO12 := Lib.hid (show One W w12 R M (.slice none 0 0) d2 by rw [hd2]; exact HO12.out)
      have hfirm : d2.firm = stl m d.firm [(G % 2, (Sl.mk G 3 5 7).lay)] 0 := by
        rw [hd2]
        show stl m dw.firm dw.soft 0 = _
        rw [HSw.out, HDw.out, show (Sl.mk G 3 5 7).lay = P from HP.out]
      have hbe : bestOf d2 2 = if m % 2 = 1 then Sl.mk G 3 5 7 else l := HI.out.crash (s := ⟨G, 3, 5, 7⟩) HRt.out rfl m hfirm (by rw [hd2])
      have hm0 : mayN d2 0 = 0 := mayN_zero (by rw [hd2]) (by omega) (by rw [hd2]; show 0 < dw.size; rw [HDw.out]; show 0 < d.size; rw [HI.out.sz]; omega)
      have hm1 : mayN d2 1 = 0 := mayN_zero (by rw [hd2]) (by omega) (by rw [hd2]; show 1 < dw.size; rw [HDw.out]; show 1 < d.size; rw [HI.out.sz]; omega)
      have hso2 : d2.soft.length ≤ 1000 := by rw [hd2]; show (0 : Nat) ≤ 1000; omega
      have HBe := Lib.hid hbe
      have HM0 := Lib.hid hm0
      have HM1 := Lib.hid hm1
      clear hmm hmm' hdd hd2 hfirm hbe hm0 hm1 HO11 HL11 HS11 HDw HSw
      go_wp2_with fail
      refine (best_c w12 R M _ d2 (Lib.hid HO12.out.dsk) hso2).mono ?_
      rintro e w13 ⟨hd, hb2, hb3, _⟩
      have HO13 := Lib.hid (HO12.out.on hd)
      have HL13 := blk_to HL12 hd
      have HS13 := blk_to HS12 hd
      clear HO12 HL12 HS12 hd
      by_cases hmm : m % 2 = 1
      · have hbe : bestOf d2 2 = Sl.mk G 3 5 7 := by rw [HBe.out, if_pos hmm]
        rw [hbe] at hb2
        obtain rfl := hb2 HM0.out HM1.out HRt.out.g0
        have c7 : (m % 2 == 1) = true := beq_iff_eq.2 hmm
        have c8 : ((m : Int) % 2 == 1) = true := beq_iff_eq.2 (by omega)
        have c9 : ((m : Int).tmod 2 == 1) = true := by rw [Int.tmod_eq_emod_of_nonneg (by omega)]; exact c8
        have hb14 : Below w13.heap.size w13 (w13.alloc (Obj.cells (slA G 3 5 7) 35 (0, 0))) := (Below.refl _ _).alloc (Nat.le_refl _) _
        have HO14 := Lib.hid (HO13.out.on hb14)
        have HS14 := blk_to HS13 hb14
        have HV14 := Lib.hid (heap_alloc_last w13 (Obj.cells (slA G 3 5 7) 35 (0, 0)))
        clear hb2 hb3 hbe hmm hb14 HBe
        go_wp2_with (first
          | (refine wl_allocS rfl rfl ?_)
          | (refine wl_storeSn 0 0 0 0 G 3 5 7 rfl _ _ rfl rfl rfl ?_))
        obtain ⟨V, hV⟩ : ∃ V, w13.heap.size = V := ⟨_, rfl⟩
        rw [hV] at HV14
        simp only [hV]
        generalize (w13.alloc (Obj.cells (slA G 3 5 7) 35 (0, 0))) = w14 at *
        clear hV HO13 HS13
        refine (code_nil _).mono ?_
        rintro e w15 ⟨rfl, hd⟩
        have HO15 := Lib.hid (HO14.out.on hd)
        have HS15 := blk_to HS14 hd
        have HV15 := blk_to HV14 hd
        clear hd HO14 HS14 HV14
        go_wp2_with (first
          | (refine wg_loadS V G 3 5 7 HV15.out (by rfl) _ rfl rfl ?_)
          | (refine wg_loadS S G 3 5 7 HS15.out (by rfl) _ rfl rfl ?_)
          | (refine wg_eqS G 3 5 7 G 3 5 7 true (by rfl) _ _ rfl rfl rfl (eq_self4 _ _ _ _) ?_))
        go_ret
        exact ⟨rfl, HO15.out.bel⟩
      · have hbe : bestOf d2 2 = l := by rw [HBe.out, if_neg hmm]
        rw [hbe] at hb2 hb3
        have hlg : 0 ≤ l.g := by rw [← hbe]; exact bestOf_nonneg _ _
        have c7 : (m % 2 == 1) = false := beq_eq_false_iff_ne.2 hmm
        have c8 : ((m : Int) % 2 == 1) = false := beq_eq_false_iff_ne.2 (by omega)
        have c9 : ((m : Int).tmod 2 == 1) = false := by rw [Int.tmod_eq_emod_of_nonneg (by omega)]; exact c8
        clear hbe hmm HBe
        by_cases hlz : 0 < l.g
        · obtain rfl := hb2 HM0.out HM1.out hlz
          have d7 : (l.g == 0) = false := beq_eq_false_iff_ne.2 (by omega)
          have d8 : decide (0 < l.g) = true := decide_eq_true hlz
          have hb14 : Below w13.heap.size w13 (w13.alloc (Obj.cells l.a 35 (0, 0))) := (Below.refl _ _).alloc (Nat.le_refl _) _
          have HO14 := Lib.hid (HO13.out.on hb14)
          have HL14 := blk_to HL13 hb14
          have HV14 := Lib.hid (heap_alloc_last w13 (Obj.cells l.a 35 (0, 0)))
          have kl := (sl_keep HL14.out (Below.refl _ _)).1
          clear hb2 hb3 hlg hlz hb14
          go_wp2_with (first
            | (refine wl_allocS rfl rfl ?_)
            | (refine wl_storeSn 0 0 0 0 l.g l.x l.y l.z rfl _ _ rfl rfl rfl ?_))
          obtain ⟨V, hV⟩ : ∃ V, w13.heap.size = V := ⟨_, rfl⟩
          rw [hV] at HV14
          simp only [hV]
          generalize (w13.alloc (Obj.cells l.a 35 (0, 0))) = w14 at *
          clear hV HO13 HL13 kl
          refine (code_nil _).mono ?_
          rintro e w15 ⟨rfl, hd⟩
          have HO15 := Lib.hid (HO14.out.on hd)
          have HL15 := blk_to HL14 hd
          have HV15 := blk_to HV14 hd
          clear hd HO14 HL14 HV14
          go_wp2_with (first
            | (refine wg_loadS V l.g l.x l.y l.z HV15.out (by rfl) _ rfl rfl ?_)
            | (refine wg_loadS L l.g l.x l.y l.z HL15.out (by rfl) _ rfl rfl ?_)
            | (refine wg_eqS l.g l.x l.y l.z l.g l.x l.y l.z true (by rfl) _ _ rfl rfl rfl (eq_self4 _ _ _ _) ?_))
          go_ret
          exact ⟨rfl, HO15.out.bel⟩
        · obtain ⟨T, u, rfl, he⟩ := hb3 HM0.out HM1.out hlz
          have d7 : (l.g == 0) = true := beq_iff_eq.2 (by omega)
          have d8 : decide (0 < l.g) = false := decide_eq_false hlz
          have hb14 : Below w13.heap.size w13 (w13.alloc (Obj.cells (slA 0 0 0 0) 35 (0, 0))) := (Below.refl _ _).alloc (Nat.le_refl _) _
          have HO14 := Lib.hid (HO13.out.on hb14)
          have HL14 := blk_to HL13 hb14
          have HE14 := Lib.hid (he.on hb14)
          have kl := (sl_keep HL14.out (Below.refl _ _)).1
          clear hb2 hb3 hlg hlz hb14 he
          go_wp2_with (first
            | (refine wl_allocS rfl rfl ?_)
            | (refine wl_storeSn 0 0 0 0 0 0 0 0 rfl _ _ rfl rfl rfl ?_))
          generalize (w13.alloc (Obj.cells (slA 0 0 0 0) 35 (0, 0))) = w14 at *
          clear HO13 HL13 kl
          refine (code_c _ 3 _ HE14 (Lib.hid (hg.out.on HO14.out.bel))).mono ?_
          rintro e w15 ⟨rfl, hd⟩
          have HO15 := Lib.hid (HO14.out.on hd)
          have HL15 := blk_to HL14 hd
          have kl := (sl_keep HL15.out (Below.refl _ _)).1
          clear hd HO14 HL14 HE14
          go_wp2_with fail
          go_ret
          exact ⟨rfl, HO15.out.bel⟩
    | succ k1 =>
      have hin : i < n := by omega
      have c5 : decide ((i : Int) < (n : Int)) = true := decide_eq_true (by omega)
      have c5' : decide (i < n) = true := decide_eq_true (by omega)
      have q5 : IntKind.i64.wrap ((i : Int) + 1) = (i : Int) + 1 := IntWalk.i64_in _ (by omega)
      have p1 : (0 ≤ (i : Int)) = True := eq_true (by omega)
      have p2 : ((i : Int) < (n : Int)) = True := eq_true (by omega)
      obtain ⟨ad, hAd, x0, x1, x2, x3⟩ := slot_at hA.out i (by omega)
      have hwf := hw.out xs[i] (List.getElem_mem _)
      obtain ⟨s0, hs0⟩ : ∃ s0, xs[i]'(by omega) = s0 := ⟨_, rfl⟩
      rw [hs0] at x0 x1 x2 x3 hwf
      have hbx := HO.out.bel
      have y0 := (hbx.cell (World.block_lt_of_cell? W _ x0)).trans x0
      have y1 := (hbx.cell (World.block_lt_of_cell? W _ x1)).trans x1
      have y2 := (hbx.cell (World.block_lt_of_cell? W _ x2)).trans x2
      have y3 := (hbx.cell (World.block_lt_of_cell? W _ x3)).trans x3
      subst hAd
      obtain ⟨q, hq⟩ : ∃ q, ad.add (i * 4) = q := ⟨_, rfl⟩
      rw [hq] at y0 y1 y2 y3
      have hqa : ∀ k : Nat, 0 < k → q.add k = ⟨q.block, q.off + k, none⟩ := fun k hk => by unfold Addr.add; rw [if_neg (by omega)]
      rw [hqa 1 (by omega)] at y1
      rw [hqa 2 (by omega)] at y2
      rw [hqa 3 (by omega)] at y3
      clear hqa
      have HWf := Lib.hid hwf
      clear x0 x1 x2 x3 hs0 hbx hwf
      go_wp2_with fail
      refine (of_c s0.g s0.x s0.y s0.z _).mono ?_
      rintro e w5 ⟨rfl, hd⟩
      have HO5 := Lib.hid (HO.out.on hd)
      have HL5 := blk_to HL hd
      clear hd HO HL y0 y1 y2 y3
      have hb6 : Below w5.heap.size w5 (w5.alloc (Obj.cells (slA G s0.x s0.y s0.z) 35 (0, 0))) := (Below.refl _ _).alloc (Nat.le_refl _) _
      have HO6 := Lib.hid (HO5.out.on hb6)
      have HL6 := blk_to HL5 hb6
      have HS6 := Lib.hid (heap_alloc_last w5 (Obj.cells (slA G s0.x s0.y s0.z) 35 (0, 0)))
      have hRS := HO5.out.dsk.ft_lt
      have hLS : L < w5.heap.size := Err.lt_of_block HL5.out
      clear hb6 HO5 HL5
      go_wp2_with (first
        | (refine wl_allocS rfl rfl ?_)
        | (refine wl_storeSn 0 0 0 0 s0.g s0.x s0.y s0.z rfl _ _ rfl rfl rfl ?_)
        | (refine wl_loadS w5.heap.size G s0.x s0.y s0.z HS6.out rfl _ rfl rfl ?_))
      obtain ⟨S, hS⟩ : ∃ S, w5.heap.size = S := ⟨_, rfl⟩
      rw [hS] at HS6 hRS hLS
      simp only [hS]
      generalize (w5.alloc (Obj.cells (slA G s0.x s0.y s0.z) 35 (0, 0))) = w6 at *
      clear hS
      refine (plain_c G s0.x s0.y s0.z _).mono ?_
      rintro e w7 ⟨rfl, hd⟩
      have HO7 := Lib.hid (HO6.out.on hd)
      have HL7 := blk_to HL6 hd
      have HS7 := blk_to HS6 hd
      clear hd HO6 HL6 HS6
      go_wp2_with fail
      cases hrb : rightB G s0.x s0.y s0.z with
      | false =>
        refine (rright_c G s0.x s0.y s0.z false _ (Lib.hid hrb)).mono ?_
        rintro e w8 ⟨rfl, hd⟩
        have HO8 := Lib.hid (HO7.out.on hd)
        have HL8 := blk_to HL7 hd
        clear hd HO7 HL7 HS7 hrb
        go_wp2_with fail
        go_roundg k1
        case measure => exact Nat.lt_succ_self _
        case rel => exact ⟨i + 1, G, l, d, rfl, by simp, by omega, by omega, HI, HO8, HL8⟩
      | true =>
        have hi0 := HI.out.g0
        have hb1 := HWf.out.bounds
        have HRt := Lib.hid (rightB_rt hrb (by omega) hb1.2.2.2.1 hb1.2.2.2.2)
        refine (rright_c G s0.x s0.y s0.z true _ (Lib.hid hrb)).mono ?_
        rintro e w8 ⟨rfl, hd⟩
        have HO8 := Lib.hid (HO7.out.on hd)
        have HL8 := blk_to HL7 hd
        have HS8 := blk_to HS7 hd
        obtain ⟨s, hs⟩ : ∃ s : Sl, s = ⟨G, s0.x, s0.y, s0.z⟩ := ⟨_, rfl⟩
        have HSr := Lib.hid (show s.Rt by rw [hs]; exact HRt.out)
        have HSg := Lib.hid (show s.g = G by rw [hs])
        have HSa := Lib.hid (show slA G s0.x s0.y s0.z = s.a by rw [hs])
        rw [HSa.out] at HS8
        clear hd HO7 HL7 HS7 hrb hb1 hs HRt
        have hwb : wrap64 b = b := by have := HBb.out; unfold wrap64; omega
        by_cases hbi : (i : Int) = b.tmod 31
        · have c6 : ((i : Int) == b.tmod 31) = true := beq_iff_eq.2 hbi
          have HBi := Lib.hid hbi
          clear hbi
          go_wp2_with fail
          refine (budget_c w8 R M _ d 0 (Lib.hid HO8.out.dsk)).mono ?_
          rintro e w9 ⟨rfl, hm, hdd⟩
          rw [show ({ d with budget := max 0 (-1) } : Dsk) = { d with budget := 0 } from rfl] at hdd
          have hm' := hm.mono (T := Ft R M (.slice none 0 0)) (fun _ _ e => .inl e)
          have HL9 := Lib.hid (hm'.blk HL8.out (fun hf => by have := hRL _ hf; omega))
          have HS9 := Lib.hid (hm'.blk HS8.out (fun hf => by have := hRS _ hf; omega))
          have HO9 := Lib.hid (One.sw HO8.out hm' hdd)
          clear hm hm' hdd HO8 HL8 HS8
          go_wp2_with (first
            | (refine wl_loadS S s.g s.x s.y s.z HS9.out rfl _ rfl rfl ?_))
          refine (switch_spent w9 R M _ { d with budget := 0 } s (Lib.hid HO9.out.dsk) HSr.out (Lib.hid HI.out.dn) (by show 2 ≤ d.size; rw [HI.out.sz]; decide) rfl (by show d.soft.length ≤ 1000; rw [HI.out.so]; decide)).mono ?_
          rintro e w10 ⟨⟨T, u, rfl, he⟩, hm, hdd⟩
          have HE10 := Lib.hid he
          have HL10 := Lib.hid (hm.blk HL9.out (fun hf => by have := hRL _ hf; omega))
          have HO10 := Lib.hid (One.sw HO9.out hm hdd)
          clear he hm hdd HO9 HL9 HS9
          go_wp2_with fail
          refine (budget_c w10 R M _ (flushed { d with budget := 0 }) (-1) (Lib.hid HO10.out.dsk)).mono ?_
          rintro e w11 ⟨rfl, hm, hdd⟩
          have hm' := hm.mono (T := Ft R M (.slice none 0 0)) (fun _ _ e => .inl e)
          have HE11 := Lib.hid (isErr_ft HE10.out HO10.out.dsk hm')
          have HL11 := Lib.hid (hm'.blk HL10.out (fun hf => by have := hRL _ hf; omega))
          obtain ⟨d1, hd1⟩ : ∃ d1, ({ flushed { d with budget := 0 } with budget := -1 } : Dsk) = d1 := ⟨_, rfl⟩
          rw [show ({ flushed { d with budget := 0 } with budget := max (-1) (-1) } : Dsk) = d1 from hd1] at hdd
          have HI9 := Lib.hid (HI.out.spent hd1.symm)
          have HO11 := Lib.hid (One.sw HO10.out hm' hdd)
          clear hm hm' hdd hd1 HO10 HL10 HE10 HI
          go_wp2_with fail
          refine (code_c _ 10 _ HE11 (Lib.hid (hg.out.on HO11.out.bel))).mono ?_
          rintro e w12 ⟨rfl, hd⟩
          have HO12 := Lib.hid (HO11.out.on hd)
          have HL12 := blk_to HL11 hd
          clear hd HO11 HL11 HE11
          go_wp2_with fail
          refine (best_c w12 R M _ d1 (Lib.hid HO12.out.dsk) (by rw [HI9.out.so]; decide)).mono ?_
          rintro e w20 ⟨hd, hb2, hb3, _⟩
          have hm0 : mayN d1 0 = 0 := mayN_zero HI9.out.dn (by omega) (by rw [HI9.out.sz]; omega)
          have hm1 : mayN d1 1 = 0 := mayN_zero HI9.out.dn (by omega) (by rw [HI9.out.sz]; omega)
          have hbe := HI9.out.best
          have HO20 := Lib.hid (HO12.out.on hd)
          have HL20 := blk_to HL12 hd
          have hlg : 0 ≤ l.g := by rw [← hbe]; exact bestOf_nonneg _ _
          rw [hbe] at hb2 hb3
          by_cases hlz : 0 < l.g
          · obtain rfl := hb2 hm0 hm1 hlz
            have hb21 : Below w20.heap.size w20 (w20.alloc (Obj.cells l.a 35 (0, 0))) := (Below.refl _ _).alloc (Nat.le_refl _) _
            have HO21 := Lib.hid (HO20.out.on hb21)
            have HL21 := blk_to HL20 hb21
            have HV21 := Lib.hid (heap_alloc_last w20 (Obj.cells l.a 35 (0, 0)))
            have kl := (sl_keep HL21.out (Below.refl _ _)).1
            have c7 : (l.g == 0) = false := beq_eq_false_iff_ne.2 (by omega)
            have c8 : decide (0 < l.g) = true := decide_eq_true hlz
            clear hd hm0 hm1 hbe hb2 hb3 hlg hlz hb21
            go_wp2_with (first
              | (refine wl_allocS rfl rfl ?_)
              | (refine wl_storeSn 0 0 0 0 l.g l.x l.y l.z rfl _ _ rfl rfl rfl ?_))
            obtain ⟨V, hV⟩ : ∃ V, w20.heap.size = V := ⟨_, rfl⟩
            rw [hV] at HV21
            simp only [hV]
            generalize (w20.alloc (Obj.cells l.a 35 (0, 0))) = w21 at *
            clear hV kl HO20 HL20
            refine (code_nil _).mono ?_
            rintro e w22 ⟨rfl, hd⟩
            have HO22 := Lib.hid (HO21.out.on hd)
            have HL22 := blk_to HL21 hd
            have HV22 := blk_to HV21 hd
            clear hd HO21 HL21 HV21
            have hne : (!(l.g == l.g && (l.x == l.x && (l.y == l.y && (l.z == l.z))))) = false := by rw [eq_self4]; rfl
            go_wp2_with (first
              | (refine wg_loadS V l.g l.x l.y l.z HV22.out (by rfl) _ rfl rfl ?_)
              | (refine wg_loadS L l.g l.x l.y l.z HL22.out (by rfl) _ rfl rfl ?_)
              | (refine wg_neS l.g l.x l.y l.z l.g l.x l.y l.z false (by rfl) _ _ rfl rfl rfl hne ?_))
            go_roundg k1
            case measure => exact Nat.lt_succ_self _
            case rel => exact ⟨i + 1, G, l, d1, rfl, by simp, by omega, by omega, HI9, HO22, HL22⟩
          · have hz := HI9.out.lgz (by omega)
            obtain ⟨T, u, rfl, he⟩ := hb3 hm0 hm1 hlz
            have hb21 : Below w20.heap.size w20 (w20.alloc (Obj.cells (slA 0 0 0 0) 35 (0, 0))) := (Below.refl _ _).alloc (Nat.le_refl _) _
            have HO21 := Lib.hid (HO20.out.on hb21)
            have HL21 := blk_to HL20 hb21
            have HE21 := Lib.hid (he.on hb21)
            have kl := (sl_keep HL21.out (Below.refl _ _)).1
            have c7 : (l.g == 0) = true := beq_iff_eq.2 (by omega)
            have c8 : decide (0 < l.g) = false := decide_eq_false hlz
            clear hd hm0 hm1 hbe hb2 hb3 hlg hlz hb21 he hz
            go_wp2_with (first
              | (refine wl_allocS rfl rfl ?_)
              | (refine wl_storeSn 0 0 0 0 0 0 0 0 rfl _ _ rfl rfl rfl ?_))
            generalize (w20.alloc (Obj.cells (slA 0 0 0 0) 35 (0, 0))) = w21 at *
            clear kl HO20 HL20
            refine (code_c _ 3 _ HE21 (Lib.hid (hg.out.on HO21.out.bel))).mono ?_
            rintro e w22 ⟨rfl, hd⟩
            have HO22 := Lib.hid (HO21.out.on hd)
            have HL22 := blk_to HL21 hd
            have kl := (sl_keep HL22.out (Below.refl _ _)).1
            clear hd HO21 HL21 HE21
            go_wp2_with fail
            clear kl
            go_roundg k1
            case measure => exact Nat.lt_succ_self _
            case rel => exact ⟨i + 1, G, l, d1, rfl, by simp, by omega, by omega, HI9, HO22, HL22⟩
        · have c6 : ((i : Int) == b.tmod 31) = false := beq_eq_false_iff_ne.2 hbi
          have HBi := Lib.hid hbi
          clear hbi
          go_wp2_with (first
            | (refine wl_loadS S s.g s.x s.y s.z HS8.out rfl _ rfl rfl ?_))
          refine (switch_ok w8 R M _ d s (Lib.hid HO8.out.dsk) HSr.out (Lib.hid HI.out.dn) (by rw [HI.out.sz]; decide) (by rw [HI.out.bu]; decide) (by rw [HI.out.bu]; decide) (by rw [HI.out.bu]; decide) (by rw [HI.out.so]; decide)).mono ?_
          rintro e w9 ⟨rfl, hm, hdd⟩
          have HL9 := Lib.hid (hm.blk HL8.out (fun hf => by have := hRL _ hf; omega))
          have HS9 := Lib.hid (hm.blk HS8.out (fun hf => by have := hRS _ hf; omega))
          have HO9 := Lib.hid (One.sw HO8.out hm hdd)
          have HI9 := Lib.hid (HI.out.switched HSr.out HSg.out)
          obtain ⟨d1, hd1⟩ : ∃ d1, switched d s = d1 := ⟨_, rfl⟩
          rw [hd1] at HO9 HI9
          clear hm hdd hd1 HO8 HL8 HS8 HI
          go_wp2_with fail
          refine (budget_c w9 R M _ d1 (-1) (Lib.hid HO9.out.dsk)).mono ?_
          rintro e w10 ⟨rfl, hm, hdd⟩
          rw [show ({ d1 with budget := max (-1) (-1) } : Dsk) = d1 from by have := HI9.out.bu; cases d1; simp only at this; subst this; rfl] at hdd
          have hm' := hm.mono (T := Ft R M (.slice none 0 0)) (fun _ _ e => .inl e)
          have HL10 := Lib.hid (hm'.blk HL9.out (fun hf => by have := hRL _ hf; omega))
          have HS10 := Lib.hid (hm'.blk HS9.out (fun hf => by have := hRS _ hf; omega))
          have HO10 := Lib.hid (One.sw HO9.out hm' hdd)
          clear hm hm' hdd HO9 HL9 HS9
          go_wp2_with fail
          refine (code_nil _).mono ?_
          rintro e w11 ⟨rfl, hd⟩
          have HO11 := Lib.hid (HO10.out.on hd)
          have HL11 := blk_to HL10 hd
          have HS11 := blk_to HS10 hd
          clear hd HO10 HL10 HS10
          have hq1 : (G + 1) % 4294967296 = G + 1 := by omega
          go_wp2_with (first
            | (refine wl_loadS S s.g s.x s.y s.z HS11.out rfl _ rfl rfl ?_)
            | (refine wl_storeS L l.g l.x l.y l.z s.g s.x s.y s.z HL11.out rfl _ _ rfl rfl rfl ?_))
          have hmS := mod_row w11 L s.a
          have hLS11 : L < w11.heap.size := Err.lt_of_block HL11.out
          have HL12 := Lib.hid (srow_at w11 L l.g l.x l.y l.z s.g s.x s.y s.z HL11.out)
          have HO12 := Lib.hid (show One W (w11.setRow L s.a) R M (.slice none 0 0) d1 from ⟨HO11.out.bel.trans (hmS.below HO11.out.bel.size (fun j hj (e : j = L) => by omega)), HO11.out.dsk.mod hmS (fun j hj (e : j = L) => by have := hRL _ hj; omega), HO11.out.fr⟩)
          generalize (w11.setRow L s.a) = w12 at *
          clear hmS HO11 HL11 HS11
          refine (best_c w12 R M _ d1 (Lib.hid HO12.out.dsk) (by rw [HI9.out.so]; decide)).mono ?_
          rintro e w20 ⟨hd, hb2, hb3, _⟩
          have hm0 : mayN d1 0 = 0 := mayN_zero HI9.out.dn (by omega) (by rw [HI9.out.sz]; omega)
          have hm1 : mayN d1 1 = 0 := mayN_zero HI9.out.dn (by omega) (by rw [HI9.out.sz]; omega)
          have hbe := HI9.out.best
          have HO20 := Lib.hid (HO12.out.on hd)
          have HL20 := blk_to HL12 hd
          have hlg : 0 ≤ s.g := by rw [← hbe]; exact bestOf_nonneg _ _
          rw [hbe] at hb2 hb3
          by_cases hlz : 0 < s.g
          · obtain rfl := hb2 hm0 hm1 hlz
            have hb21 : Below w20.heap.size w20 (w20.alloc (Obj.cells s.a 35 (0, 0))) := (Below.refl _ _).alloc (Nat.le_refl _) _
            have HO21 := Lib.hid (HO20.out.on hb21)
            have HL21 := blk_to HL20 hb21
            have HV21 := Lib.hid (heap_alloc_last w20 (Obj.cells s.a 35 (0, 0)))
            have kl := (sl_keep HL21.out (Below.refl _ _)).1
            have c7 : (s.g == 0) = false := beq_eq_false_iff_ne.2 (by omega)
            have c8 : decide (0 < s.g) = true := decide_eq_true hlz
            clear hd hm0 hm1 hbe hb2 hb3 hlg hlz hb21
            go_wp2_with (first
              | (refine wl_allocS rfl rfl ?_)
              | (refine wl_storeSn 0 0 0 0 s.g s.x s.y s.z rfl _ _ rfl rfl rfl ?_))
            obtain ⟨V, hV⟩ : ∃ V, w20.heap.size = V := ⟨_, rfl⟩
            rw [hV] at HV21
            simp only [hV]
            generalize (w20.alloc (Obj.cells s.a 35 (0, 0))) = w21 at *
            clear hV kl HO20 HL20
            refine (code_nil _).mono ?_
            rintro e w22 ⟨rfl, hd⟩
            have HO22 := Lib.hid (HO21.out.on hd)
            have HL22 := blk_to HL21 hd
            have HV22 := blk_to HV21 hd
            clear hd HO21 HL21 HV21
            have hne : (!(s.g == s.g && (s.x == s.x && (s.y == s.y && (s.z == s.z))))) = false := by rw [eq_self4]; rfl
            go_wp2_with (first
              | (refine wg_loadS V s.g s.x s.y s.z HV22.out (by rfl) _ rfl rfl ?_)
              | (refine wg_loadS L s.g s.x s.y s.z HL22.out (by rfl) _ rfl rfl ?_)
              | (refine wg_neS s.g s.x s.y s.z s.g s.x s.y s.z false (by rfl) _ _ rfl rfl rfl hne ?_))
            go_roundg k1
            case measure => exact Nat.lt_succ_self _
            case rel => exact ⟨i + 1, (G + 1), s, d1, rfl, by simp, by omega, by omega, HI9, HO22, HL22⟩
          · have hz := HI9.out.lgz (by omega)
            obtain ⟨T, u, rfl, he⟩ := hb3 hm0 hm1 hlz
            have hb21 : Below w20.heap.size w20 (w20.alloc (Obj.cells (slA 0 0 0 0) 35 (0, 0))) := (Below.refl _ _).alloc (Nat.le_refl _) _
            have HO21 := Lib.hid (HO20.out.on hb21)
            have HL21 := blk_to HL20 hb21
            have HE21 := Lib.hid (he.on hb21)
            have kl := (sl_keep HL21.out (Below.refl _ _)).1
            have c7 : (s.g == 0) = true := beq_iff_eq.2 (by omega)
            have c8 : decide (0 < s.g) = false := decide_eq_false hlz
            clear hd hm0 hm1 hbe hb2 hb3 hlg hlz hb21 he hz
            go_wp2_with (first
              | (refine wl_allocS rfl rfl ?_)
              | (refine wl_storeSn 0 0 0 0 0 0 0 0 rfl _ _ rfl rfl rfl ?_))
            generalize (w20.alloc (Obj.cells (slA 0 0 0 0) 35 (0, 0))) = w21 at *
            clear kl HO20 HL20
            refine (code_c _ 3 _ HE21 (Lib.hid (hg.out.on HO21.out.bel))).mono ?_
            rintro e w22 ⟨rfl, hd⟩
            have HO22 := Lib.hid (HO21.out.on hd)
            have HL22 := blk_to HL21 hd
            have kl := (sl_keep HL22.out (Below.refl _ _)).1
            clear hd HO21 HL21 HE21
            go_wp2_with fail
            clear kl
            go_roundg k1
            case measure => exact Nat.lt_succ_self _
            case rel => exact ⟨i + 1, (G + 1), s, d1, rfl, by simp, by omega, by omega, HI9, HO22, HL22⟩
theorem walk (f : Int) (A : Option Addr) (n c : Nat) (xs : List Sl) (b m : Int) (W : World) (hf : (Lit.int .u32 f).wf = true) (hxl : xs.length = n) (hc : n ≤ c) (hA : Kd.C rk W A n xs) (hw : ∀ s ∈ xs, Wf s.g s.x s.y s.z) (hb : (Lit.int .u8 b).wf = true) (hm : (Lit.int .u64 m).wf = true) (hg : Hid (Laid W)) : Calls Tryd.prog 8 #[.int .u32 f, .slice A n c, .int .u8 b, .int .u64 m] W fun e w' => e = .returned (.bool true) ∧ Below W.heap.size W w' := by
  have hf2 : 0 ≤ f ∧ f < 4294967296 := by simp [Lit.wf, IntKind.min, IntKind.max, IntKind.bits, IntKind.signed] at hf; omega
  have hb2 : 0 ≤ b ∧ b < 256 := by simp [Lit.wf, IntKind.min, IntKind.max, IntKind.bits, IntKind.signed] at hb; omega
  have hm2 : 0 ≤ m ∧ m < 2 ^ 64 := by simp [Lit.wf, IntKind.min, IntKind.max, IntKind.bits, IntKind.signed] at hm; omega
  obtain ⟨mn, rfl⟩ : ∃ mn : Nat, m = (mn : Int) := ⟨m.toNat, by omega⟩
  by_cases hn : 30 < n
  · exact many f A n c b mn W hn hg
  · exact few f A n c xs b mn W hxl (Lib.hid hA) (Lib.hid hw) hf2.1 hb2 (by omega) (by omega) hg
end Go.Proofs.YtkgiifcbimpcoaaDoor.RowSlotSwitches
