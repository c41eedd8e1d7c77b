/- Whether a manifest is right; which sectors it uses. -/
import Derived.Test.YtaodgnladjafoaaDoorMani4V
set_option linter.unusedVariables false
set_option linter.unusedSimpArgs false
namespace Go.Proofs.YtaodgnladjafoaaDoor.Mni
open Go.RowKit Go.Proofs.YtaodgnladjafoaaDoorW.PrintWords Go.Proofs.YtaodgnladjafoaaDoorW.PrintLast Go.Proofs.YtaodgnladjafoaaDoorW.PrintMore Go.Proofs.YtaodgnladjafoaaDoor.Md Go.Proofs.YtaodgnladjafoaaDoor.QStorePuts
def rightM (m : Man) (size : Int) : Bool := decide (2 ≤ size ∧ size ≤ 2048) && (sizedB m && ((named m).isSome && ((marks m size).isSome && !((named m).getD []).contains false)))
theorem markL_len (n : Nat) : ∀ (l met : List Int) (out out' : List Bool), markL n met l out = some out' → out'.length = out.length
  | [], _, out, out', h => by cases h; rfl
  | k :: l, met, out, out', h => by
    unfold markL at h
    split at h
    · cases h
    · rw [markL_len n l _ _ _ h, List.length_set]
theorem markS_len (n : Nat) : ∀ (ls : List (List Int)) (out out' : List Bool), markS n ls out = some out' → out'.length = out.length
  | [], out, out', h => by cases h; rfl
  | l :: ls, out, out', h => by
    unfold markS at h
    cases e : markL n [] l out with
    | none => rw [e] at h; cases h
    | some o2 => rw [e] at h; rw [markS_len n ls o2 _ h, markL_len n l _ _ _ e]
theorem named_len (m : Man) : ((named m).getD []).length ≤ m.refs.length := by
  cases e : named m with
  | none => exact Nat.zero_le _
  | some l => have := markS_len _ _ _ _ e; rw [List.length_replicate] at this; exact Nat.le_of_eq this
set_option maxHeartbeats 4000000 in
set_option maxRecDepth 100000 in
theorem right_c (o : Loc) (m : Man) (size : Int) (w : World) (h : Hid (At w o m)) (hm : m.snaps.length ≤ 1000000) (hr : m.refs.length ≤ 1000000) :
    Calls Tryd.prog 43 #[.agg (o.a m), .int .i64 size] w fun e w' => e = .returned (.bool (rightM m size)) ∧ Below w.heap.size w w' := by
  obtain ⟨T, hT⟩ : ∃ T, rightM m size = T := ⟨_, rfl⟩
  have HT := Lib.hid hT
  rw [hT]
  clear hT
  have hd0 : Below w.heap.size w (w.alloc (Obj.cells (o.a m) 53 (0, 0))) := (Below.refl _ _).alloc (Nat.le_refl _) _
  have H1 := Lib.hid (h.out.on hd0)
  have HB1 := Lib.hid hd0
  have HX1 := Lib.hid (heap_alloc_last w (Obj.cells (o.a m) 53 (0, 0)))
  go_enter Tryd.func43, Tryd.ntmps43
  go_upto_region 1 with fail
  obtain ⟨X, hX⟩ : ∃ X, w.heap.size = X := ⟨_, rfl⟩
  rw [hX] at HX1
  simp only [hX]
  generalize hw1 : w.alloc (Obj.cells (o.a m) 53 (0, 0)) = w1 at *
  clear hw1 hd0 h hX
  by_cases h2 : size < 2
  · have c1 : decide (size < 2) = true := decide_eq_true h2
    obtain rfl : T = false := by rw [← HT.out]; unfold rightM; rw [decide_eq_false (by omega)]; rfl
    clear HT
    go_wp2_with fail
    go_ret
    exact ⟨rfl, HB1.out⟩
  · have c1 : decide (size < 2) = false := decide_eq_false h2
    by_cases h3 : size > 2048
    · have c2 : decide (size > 2048) = true := decide_eq_true h3
      have c2b : decide (2048 < size) = true := decide_eq_true h3
      obtain rfl : T = false := by rw [← HT.out]; unfold rightM; rw [decide_eq_false (by omega)]; rfl
      clear HT
      go_wp2_with fail
      go_ret
      exact ⟨rfl, HB1.out⟩
    · have c2 : decide (size > 2048) = false := decide_eq_false h3
      have c2b : decide (2048 < size) = false := decide_eq_false h3
      have HT2 := Lib.hid (show (sizedB m && ((named m).isSome && ((marks m size).isSome && !((named m).getD []).contains false))) = T by
        rw [← HT.out]; unfold rightM; rw [decide_eq_true (by omega), Bool.true_and])
      clear HT
      go_wp2_with (first | (refine wg_loadM X o m HX1.out (by rfl) _ rfl rfl ?_))
      refine (sized_c o m w1 H1 hm).mono ?_
      rintro e w2 ⟨rfl, hd⟩
      have H2 := Lib.hid (H1.out.on hd)
      have HB2 := below_to HB1 (Nat.le_refl _) hd
      have HX2 := blk_to HX1 hd
      obtain ⟨b, hb⟩ : ∃ b, sizedB m = b := ⟨_, rfl⟩
      rw [hb]
      have HT3 := HT2.out
      rw [hb] at HT3
      clear hb hd H1 HB1 HX1 HT2
      cases b with
      | false =>
        obtain rfl : T = false := by rw [← HT3]; rfl
        clear HT3
        go_wp2_with fail
        go_ret
        exact ⟨rfl, HB2.out⟩
      | true =>
        rw [Bool.true_and] at HT3
        have HT4 := Lib.hid HT3
        clear HT3
        go_wp2_with (first | (refine wl_loadM X o m HX2.out rfl _ rfl rfl ?_))
        refine (named_c o m w2 H2 hm hr).mono ?_
        rintro e w3 ⟨A, c, rfl, hc, hC, hd⟩
        have H3 := Lib.hid (H2.out.on hd)
        have HB3 := below_to HB2 (Nat.le_refl _) hd
        have HX3 := blk_to HX2 hd
        have HNl := Lib.hid (named_len m)
        obtain ⟨T1, hT1⟩ : ∃ T1, named m = T1 := ⟨_, rfl⟩
        have HT5 := HT4.out
        have HN5 := HNl.out
        rw [hT1] at hc hC HT5 HN5 ⊢
        have HC3 := Lib.hid hC
        have HT6 := Lib.hid HT5
        clear hT1 hC hd H2 HB2 HX2 HT4 HT5 HNl
        go_wp2_with (first | (refine wl_loadM X o m HX3.out rfl _ rfl rfl ?_))
        refine (marked_c o m w3 size H3 (by omega) (by omega) hr).mono ?_
        rintro e w4 ⟨A2, c2, rfl, _, _, hd⟩
        have HB4 := below_to HB3 (Nat.le_refl _) hd
        have HC4 := Lib.hid (Kd.C_below HC3.out hd)
        obtain ⟨T2, hT2⟩ : ∃ T2, marks m size = T2 := ⟨_, rfl⟩
        have HT7 := HT6.out
        rw [hT2] at HT7 ⊢
        clear hT2 hd H3 HB3 HX3 HC3 HT6
        cases T1 with
        | none =>
          obtain rfl : T = false := by rw [← HT7]; rfl
          clear HT7
          simp only [Option.isSome_none, Option.getD_none]
          go_wp2_with fail
          go_ret
          exact ⟨rfl, HB4.out⟩
        | some l1 => cases T2 with
          | none =>
            obtain rfl : T = false := by rw [← HT7]; rfl
            clear HT7
            simp only [Option.isSome_none, Option.isSome_some, Option.getD_none, Option.getD_some]
            go_wp2_with fail
            go_ret
            exact ⟨rfl, HB4.out⟩
          | some l2 =>
            simp only [Option.getD_some] at HN5 HC4 hc
            obtain ⟨q, hq⟩ : ∃ q, l1.contains false = q := ⟨_, rfl⟩
            obtain rfl : T = !q := by rw [← HT7, ← hq]; rfl
            have HQ := Lib.hid hq
            clear HT7 hq
            simp only [Option.isSome_some, Option.getD_some]
            go_wp2_with fail
            refine (contains_c A c l1 w4 (by omega) hc HC4).mono ?_
            rintro e w5 ⟨rfl, hd⟩
            have HB5 := below_to HB4 (Nat.le_refl _) hd
            rw [HQ.out]
            clear HQ hd
            cases q
            · go_wp2_with fail
              go_ret
              exact ⟨rfl, HB5.out⟩
            · go_wp2_with fail
              go_ret
              exact ⟨rfl, HB5.out⟩
end Go.Proofs.YtaodgnladjafoaaDoor.Mni
