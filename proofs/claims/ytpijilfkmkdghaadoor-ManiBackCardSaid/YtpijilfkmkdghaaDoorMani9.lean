/- mani.Used of a right manifest; the law's example. -/
import Derived.Test.YtpijilfkmkdghaaDoorMani8
set_option linter.unusedVariables false
set_option linter.unusedSimpArgs false
namespace Go.Proofs.YtpijilfkmkdghaaDoor.Mni
open Go.RowKit Go.Proofs.YtpijilfkmkdghaaDoorW.PrintWords Go.Proofs.YtpijilfkmkdghaaDoorW.PrintLast Go.Proofs.YtpijilfkmkdghaaDoorW.PrintMore Go.Proofs.YtpijilfkmkdghaaDoor.Md Go.Proofs.YtpijilfkmkdghaaDoor.QManiBack Go.Proofs.YtpijilfkmkdghaaDoor.CdM
open Go.Proofs.YtpijilfkmkdghaaDoor.Err (Laid IsErr code_nil code_c Chain at_some at_nil)
theorem used_yes (o : Loc) (m : Man) (size : Int) (w : World) (h : Hid (At w o m)) (hm : m.snaps.length ≤ 1000000) (hr : m.refs.length ≤ 1000000) (hR : Hid (rightM m size = true)) :
    Calls Tryd.prog 11 #[.agg (o.a m), .int .i64 size] w fun e w' => ∃ A c, e = .returned (.slice A ((marks m size).getD []).length c) ∧ ((marks m size).getD []).length ≤ c ∧ Kd.C Kd.bool w' A ((marks m size).getD []).length ((marks m size).getD []) ∧ Below w.heap.size w w' := by
  have hsz : 2 ≤ size ∧ size ≤ 2048 := by
    have z := hR.out
    unfold rightM at z
    simp only [Bool.and_eq_true, decide_eq_true_eq] at z
    exact z.1
  have hd0 : Below w.heap.size w (w.alloc (Obj.cells (o.a m) 32 (0, 0))) := (Below.refl _ _).alloc (Nat.le_refl _) _
  have H1 := Lib.hid (h.out.on hd0)
  have HB1 := Lib.hid hd0
  have HX1 := Lib.hid (heap_alloc_last w (Obj.cells (o.a m) 32 (0, 0)))
  go_enter Tryd.func11, Tryd.ntmps11
  go_upto_region 1 with fail
  obtain ⟨X, hX⟩ : ∃ X, w.heap.size = X := ⟨_, rfl⟩
  rw [hX] at HX1
  simp only [hX]
  generalize hw1 : w.alloc (Obj.cells (o.a m) 32 (0, 0)) = w1 at *
  clear hw1 hd0 h hX
  go_wp2_with (first | (refine wl_loadM X o m HX1.out rfl _ rfl rfl ?_))
  refine (right_c o m size w1 H1 hm hr).mono ?_
  rintro e w2 ⟨rfl, hd⟩
  rw [hR.out]
  have H2 := Lib.hid (H1.out.on hd)
  have HB2 := below_to HB1 (Nat.le_refl _) hd
  have HX2 := blk_to HX1 hd
  clear hd H1 HB1 HX1
  go_wp2_with (first | (refine wl_loadM X o m HX2.out rfl _ rfl rfl ?_))
  refine (marked_c o m w2 size H2 hsz.1 (by omega) hr).mono ?_
  rintro e w3 ⟨A, c, rfl, hc, hC, hd⟩
  have HB3 := below_to HB2 (Nat.le_refl _) hd
  obtain ⟨l, hl⟩ : ∃ l, (marks m size).getD [] = l := ⟨_, rfl⟩
  have HL := Lib.hid hl
  have HC := Lib.hid hC
  clear hd hl H2 HB2 HX2 hC
  go_wp2_with fail
  go_ret
  exact ⟨A, c, rfl, hc, HC.out, HB3.out⟩
def emptyM : Man := ⟨[], [], -1, []⟩
theorem empty_right : rightM emptyM 10 = true := by decide
theorem empty_fits : Fits emptyM := by
  refine ⟨fun r h => (List.not_mem_nil h).elim, fun r h => (List.not_mem_nil h).elim, by decide, by decide, fun r h => (List.not_mem_nil h).elim, by decide, by decide, by decide⟩
theorem numS_zero : numS 0 = ⟨#[0]⟩ := by
  unfold numS digs
  rw [num_small (by decide)]
  decide
theorem empty_lay : layM emptyM = ⟨#[0, 0, 0, 0]⟩ := by
  have e : layM emptyM = (numS 0 ++ ⟨#[]⟩) ++ ⟨#[]⟩ ++ ((numS 0 ++ ⟨#[]⟩) ++ ⟨#[]⟩ ++ (numS 0 ++ (numS 0 ++ ⟨#[]⟩))) ++ ⟨#[]⟩ := rfl
  rw [e, numS_zero]
  decide
theorem awake_c (w : World) (hg : Hid (Laid w)) : Calls Tryd.prog 7 #[] w fun e w' => e = .returned (.bool true) ∧ Below w.heap.size w w' := by
  have HA := Lib.hid (show At w ⟨none, 0, none, 0, none, 0⟩ emptyM from ⟨Kd.C_nil _ _, Nat.le_refl _, Kd.C_nil _ _, Nat.le_refl _, Kd.C_nil _ _, Nat.le_refl _⟩)
  have hh := lay_yes ⟨none, 0, none, 0, none, 0⟩ emptyM 10 w HA (by decide) (by decide) (Lib.hid empty_right) (Lib.hid empty_fits)
  rw [empty_lay] at hh
  go_enter Tryd.func7, Tryd.ntmps7
  go_wp2_with fail
  refine hh.mono ?_
  rintro e w2 ⟨rfl, hd⟩
  have HB2 := Lib.hid hd
  clear hd hh
  go_wp2_with fail
  refine (code_nil w2).mono ?_
  rintro e w3 ⟨rfl, hd⟩
  have HB3 := below_to HB2 (Nat.le_refl _) hd
  clear hd
  go_wp2_with fail
  go_ret
  exact ⟨rfl, HB3.out⟩
end Go.Proofs.YtpijilfkmkdghaaDoor.Mni
