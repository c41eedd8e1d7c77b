/- ManiReads, the walk. -/
import Derived.Test.YtpijilfkmkdghaaDoorMani17
set_option linter.unusedVariables false
set_option linter.unusedSimpArgs false
namespace Go.Proofs.YtpijilfkmkdghaaDoor.Mni
open Go.RowKit Go.Proofs.YtpijilfkmkdghaaDoorW.PrintWords Go.Proofs.YtpijilfkmkdghaaDoorW.PrintLast Go.Proofs.YtpijilfkmkdghaaDoorW.PrintMore Go.Proofs.YtpijilfkmkdghaaDoor.Md Go.Proofs.YtpijilfkmkdghaaDoor.QManiBack Go.Proofs.YtpijilfkmkdghaaDoor.CdM
open Go.Proofs.YtpijilfkmkdghaaDoor.Err (Laid IsErr code_nil code_c Chain at_some at_nil)
open Go.Proofs.YtpijilfkmkdghaaDoor.Rdr (NumTo NumAt NoNumTo RefAt On Has refA)
/-- a manifest that was read of all the bytes is spelled by them -/
theorem reads_all {s : ByteArray} {m : Man} (h : partsP s 0 = some (m, s.size)) : layM m = s := by
  obtain ⟨h1, h2, _⟩ := parts_on h
  exact h1.eq ⟨[], by simp⟩ (by omega)
theorem right_stack {m : Man} {n : Int} (h : rightM m n = true) : m.stack.length ≤ 8 := by
  have h3 := (rightM_parts h).2.2.1
  unfold sizedB at h3
  simp only [Bool.and_eq_true, decide_eq_true_eq] at h3
  exact h3.1.2.1
set_option maxHeartbeats 4000000 in
set_option maxRecDepth 100000 in
theorem reads (s : ByteArray) (size : Int) (W : World) (hs : s.size ≤ 140737488351232) (hg : Hid (Laid W)) :
    Calls Tryd.prog 6 #[.string s, .int .i64 size] W fun e w' => e = .returned (.bool true) ∧ Below W.heap.size W w' := by
  by_cases hl : s.size > 3000
  · have c1 : decide ((s.size : Int) > 3000) = true := decide_eq_true (by omega)
    have c1b : decide (3000 < s.size) = true := decide_eq_true hl
    go_enter Tryd.func6, Tryd.ntmps6
    go_wp2_with fail
    refine (awake_c W hg).mono ?_
    rintro e w2 ⟨rfl, hd⟩
    have HB2 := Lib.hid hd
    clear hd
    go_wp2_with fail
    refine (awake_c w2 (Lib.hid (hg.out.on HB2.out))).mono ?_
    rintro e w3 ⟨rfl, hd⟩
    have HB3 := below_to HB2 (Nat.le_refl _) hd
    clear hd
    go_wp2_with fail
    go_ret
    exact ⟨rfl, HB3.out⟩
  · have c1 : decide ((s.size : Int) > 3000) = false := decide_eq_false (by omega)
    have c1b : decide (3000 < s.size) = false := decide_eq_false hl
    go_enter Tryd.func6, Tryd.ntmps6
    go_wp2_with fail
    refine (awake_c W hg).mono ?_
    rintro e w2 ⟨rfl, hd⟩
    have HB2 := Lib.hid hd
    clear hd
    go_wp2_with fail
    refine (read_c s size w2 (by omega)).mono ?_
    rintro e w3 ⟨hd, ⟨m, o, hu, hp, hR, rfl, hat⟩ | ⟨hu, T, x, rfl, hi⟩⟩
    · have HB3 := below_to HB2 (Nat.le_refl _) hd
      have HA3 := Lib.hid hat
      have HR := Lib.hid hR
      obtain ⟨_, _, p3, p4, p5, p6⟩ := parts_on hp
      have HF := Lib.hid (p3 (right_stack hR))
      have HLay := Lib.hid (reads_all hp)
      clear hd hat hR hu hp p3 HB2
      go_upto_region 4 with (first
        | (refine wl_allocM rfl rfl ?_)
        | (refine wl_storeMn #[.slice none 0 0, .slice none 0 0, .int .i64 0, .slice none 0 0] rfl o m rfl _ _ rfl rfl rfl ?_))
      have hd : Below w3.heap.size w3 (w3.alloc (Obj.cells (o.a m) 32 (0, 0))) := (Below.refl _ _).alloc (Nat.le_refl _) _
      have HB4 := below_to HB3 (Nat.le_refl _) hd
      have HA4 := Lib.hid (HA3.out.on hd)
      have HO4 := Lib.hid (heap_alloc_last w3 (Obj.cells (o.a m) 32 (0, 0)))
      obtain ⟨O, hO⟩ : ∃ O, w3.heap.size = O := ⟨_, rfl⟩
      rw [hO] at HO4
      simp only [hO]
      generalize (w3.alloc (Obj.cells (o.a m) 32 (0, 0))) = w4 at *
      clear hd hO HB3 HA3
      go_wp2_with fail
      refine (code_nil w4).mono ?_
      rintro e w5 ⟨rfl, hd⟩
      have HB5 := below_to HB4 (Nat.le_refl _) hd
      have HA5 := Lib.hid (HA4.out.on hd)
      have HO5 := blk_to HO4 hd
      clear hd HB4 HA4 HO4
      go_wp2_with (first | (refine wl_loadM O o m HO5.out rfl _ rfl rfl ?_))
      have hly := lay_yes o m size w5 HA5 (by omega) (by omega) HR HF
      rw [HLay.out] at hly
      refine hly.mono ?_
      rintro e w6 ⟨rfl, hd⟩
      have HB6 := below_to HB5 (Nat.le_refl _) hd
      have HA6 := Lib.hid (HA5.out.on hd)
      have HO6 := blk_to HO5 hd
      clear hd hly HB5 HA5 HO5
      go_wp2_with (first | (refine wl_loadM O o m HO6.out rfl _ rfl rfl ?_))
      refine (right_c o m size w6 HA6 (by omega) (by omega)).mono ?_
      rintro e w7 ⟨rfl, hd⟩
      rw [HR.out]
      have HB7 := below_to HB6 (Nat.le_refl _) hd
      clear hd HB6 HA6 HO6
      go_wp2_with fail
      refine (code_nil w7).mono ?_
      rintro e w8 ⟨rfl, hd⟩
      have HB8 := below_to HB7 (Nat.le_refl _) hd
      clear hd HB7
      go_wp2_with fail
      go_ret
      exact ⟨rfl, HB8.out⟩
    · have HB3 := below_to HB2 (Nat.le_refl _) hd
      have HE3 := Lib.hid hi
      clear hd hi hu HB2
      go_upto_region 4 with (first
        | (refine wl_allocM rfl rfl ?_)
        | (refine wl_storeMn #[.slice none 0 0, .slice none 0 0, .int .i64 0, .slice none 0 0] rfl zeroL zeroM rfl _ _ rfl rfl rfl ?_))
      have hd : Below w3.heap.size w3 (w3.alloc (Obj.cells (Loc.a zeroL zeroM) 32 (0, 0))) := (Below.refl _ _).alloc (Nat.le_refl _) _
      have HB4 := below_to HB3 (Nat.le_refl _) hd
      have HE4 := Lib.hid (HE3.out.on hd)
      have HO4 := Lib.hid (heap_alloc_last w3 (Obj.cells (Loc.a zeroL zeroM) 32 (0, 0)))
      obtain ⟨O, hO⟩ : ∃ O, w3.heap.size = O := ⟨_, rfl⟩
      rw [hO] at HO4
      simp only [hO]
      generalize (w3.alloc (Obj.cells (Loc.a zeroL zeroM) 32 (0, 0))) = w4 at *
      clear hd hO HB3 HE3
      go_wp2_with fail
      refine (code_c _ 13 w4 HE4 (Lib.hid (hg.out.on HB4.out))).mono ?_
      rintro e w5 ⟨rfl, hd⟩
      have HB5 := below_to HB4 (Nat.le_refl _) hd
      have HE5 := Lib.hid (HE4.out.on hd)
      have HO5 := blk_to HO4 hd
      clear hd HB4 HE4 HO4
      go_wp2_with fail
      refine (code_c _ 13 w5 HE5 (Lib.hid (hg.out.on HB5.out))).mono ?_
      rintro e w6 ⟨rfl, hd⟩
      have HB6 := below_to HB5 (Nat.le_refl _) hd
      have HO6 := blk_to HO5 hd
      have b0 : w6.cell? ⟨O, 0, none⟩ = some (.slice none 0 0) := (box_cells HO6).1
      have b1 : w6.cell? ⟨O, 1, none⟩ = some (.slice none 0 0) := (box_cells HO6).2.1
      have b3 : w6.cell? ⟨O, 3, none⟩ = some (.slice none 0 0) := (box_cells HO6).2.2.2
      clear hd HB5 HE5 HO5
      go_wp2_with fail
      go_ret
      exact ⟨rfl, HB6.out⟩
namespace RowManiReads
theorem walk (s : ByteArray) (size : Int) (w : World) (hs : s.size ≤ 140737488351232) (hz : (Lit.int .i64 size).wf = true) (hg : Hid (Laid w)) :
    Calls Tryd.prog 6 #[.string s, .int .i64 size] w fun e w' => e = .returned (.bool true) ∧ Below w.heap.size w w' := reads s size w hs hg
end RowManiReads
end Go.Proofs.YtpijilfkmkdghaaDoor.Mni
