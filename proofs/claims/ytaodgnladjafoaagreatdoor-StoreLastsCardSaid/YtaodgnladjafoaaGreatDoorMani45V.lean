/- Several texts in one: words that the proof of the law uses. -/
import Derived.Test.YtaodgnladjafoaaGreatDoorMani3V
set_option linter.unusedVariables false
set_option linter.unusedSimpArgs false
namespace Go.Proofs.YtaodgnladjafoaaGreatDoor.Mni
open Go.RowKit Go.Proofs.YtaodgnladjafoaaGreatDoorW.PrintWords Go.Proofs.YtaodgnladjafoaaGreatDoorW.PrintLast Go.Proofs.YtaodgnladjafoaaGreatDoorW.PrintMore Go.Proofs.YtaodgnladjafoaaGreatDoor.Md Go.Proofs.YtaodgnladjafoaaGreatDoor.QStoreLasts
def pagesV (n : Int) : Int := if n < 1 then 0 else if n > 16384 then 0 else (n + 63) / 64
theorem pages_at (n : Int) : blob_Pages.f n = some (pagesV n) := by
  unfold blob_Pages.f pagesV
  by_cases h1 : n < 1
  · rw [if_pos h1, if_pos h1]
  · rw [if_neg h1, if_neg h1]
    by_cases h2 : n > 16384
    · rw [if_pos h2, if_pos h2]
    · rw [if_neg h2, if_neg h2]
      have e1 : wrap64 (n + 64) = n + 64 := by unfold wrap64; omega
      have e2 : wrap64 (n + 64 - 1) = n + 63 := by unfold wrap64; omega
      rw [e1, e2, Int.tdiv_eq_ediv_of_nonneg (by omega)]
      congr 1
      unfold wrap64
      omega
def rightV (x y size : Int) : Bool := decide (0 < pagesV y) && decide (0 ≤ x) && decide (x ≤ size - pagesV y)
theorem pagesV_le (y : Int) : 0 ≤ pagesV y ∧ pagesV y ≤ 256 := by
  unfold pagesV
  split
  · omega
  · split
    · omega
    · omega
theorem right_f (r : Rf) (size : Int) (h0 : 0 ≤ size) (h1 : size ≤ 4611686018427387904) : blob_Right.f r.f0 r.f1 r.f2 size = some (rightV r.f0 r.f1 size) := by
  unfold blob_Right.f rightV
  rw [pages_at, Option.bind_some]
  have hp := pagesV_le r.f1
  have e : wrap64 (size - pagesV r.f1) = size - pagesV r.f1 := by unfold wrap64; omega
  by_cases h1 : pagesV r.f1 > 0
  · rw [if_pos h1, decide_eq_true (show 0 < pagesV r.f1 from h1)]
    by_cases h2 : r.f0 ≥ 0
    · rw [if_pos h2, decide_eq_true (show 0 ≤ r.f0 from h2), e]; rfl
    · rw [if_neg h2, decide_eq_false (show ¬ 0 ≤ r.f0 from h2)]; rfl
  · rw [if_neg h1, decide_eq_false (show ¬ 0 < pagesV r.f1 from h1)]; rfl
theorem rightV_iff {x y size : Int} : rightV x y size = true ↔ 0 < pagesV y ∧ 0 ≤ x ∧ x ≤ size - pagesV y := by
  unfold rightV
  simp only [Bool.and_eq_true, decide_eq_true_eq]
  omega
def markP : Nat → Nat → List Bool → Option (List Bool)
  | 0, _, out => some out
  | n + 1, a, out => if out.getD a false = true then none else markP n (a + 1) (out.set a true)
def markR (size : Int) : List Rf → List Bool → Option (List Bool)
  | [], out => some out
  | r :: l, out => if rightV r.f0 r.f1 size = true then (markP (pagesV r.f1).toNat r.f0.toNat out).bind (markR size l) else none
theorem markR_cons (size : Int) (r : Rf) (l : List Rf) (out : List Bool) : markR size (r :: l) out = (if rightV r.f0 r.f1 size = true then (markP (pagesV r.f1).toNat r.f0.toNat out).bind (markR size l) else none) := rfl
def start (n : Nat) : List Bool := ((List.replicate n false).set 0 true).set 1 true
def marks (m : Man) (size : Int) : Option (List Bool) := markR size m.refs (start size.toNat)
def ans (T : Option (List Bool)) : List Bool × Bool := (T.getD [], T.isSome)
theorem markP_len : ∀ (n a : Nat) (out out' : List Bool), markP n a out = some out' → out'.length = out.length
  | 0, _, out, out', h => by cases h; rfl
  | n + 1, a, out, out', h => by
    unfold markP at h
    split at h
    · cases h
    · rw [markP_len n (a + 1) _ _ h, List.length_set]
theorem l1_run (size x18 x19 pg a s u : Int) (refs : List Rf) (res : List Bool × Bool) (ha : 0 ≤ a) (hp : pg ≤ 256) (hs : size ≤ 4096) (hl : a + pg ≤ size) : ∀ (n : Nat) (i : Int) (out : List Bool) (k0 : Nat), i + n = pg → 0 ≤ i → (out.length : Int) = size →
    (∀ out', markP n (a + i).toNat out = some out' → mani_Manifest_marked.l0 k0 size out' refs x18 (wrap64 (x19 + 1)) = some res) → (markP n (a + i).toNat out = none → res = ([], false)) → mani_Manifest_marked.l1 (k0 + n + 1) size out refs x18 x19 pg i a s u = some res
  | 0, i, out, k0, hi, h0, hlen, h1, _ => by
    unfold mani_Manifest_marked.l1
    rw [if_neg (by omega)]
    exact h1 out rfl
  | n + 1, i, out, k0, hi, h0, hlen, h1, h2 => by
    have e1 : wrap64 (a + i) = a + i := by unfold wrap64; omega
    have e2 : wrap64 (i + 1) = i + 1 := by unfold wrap64; omega
    have e3 : (a + (i + 1)).toNat = (a + i).toNat + 1 := by omega
    show mani_Manifest_marked.l1 ((k0 + n + 1) + 1) size out refs x18 x19 pg i a s u = some res
    unfold mani_Manifest_marked.l1
    rw [if_pos (by omega), e1, if_pos (by omega), if_pos (by omega), e2]
    unfold markP at h1 h2
    unfold rdOf
    by_cases hb : out.getD (a + i).toNat false = true
    · rw [if_pos hb] at h2 ⊢
      rw [h2 rfl]
    · rw [if_neg hb] at h1 h2 ⊢
      rw [← e3] at h1 h2
      exact l1_run size x18 x19 pg a s u refs res ha hp hs hl n (i + 1) _ k0 (by omega) (by omega) (by rw [List.length_set]; exact hlen) h1 h2
theorem l0_run (size : Int) (refs : List Rf) (h0 : 0 ≤ size) (hs : size ≤ 4096) (hr : refs.length ≤ 1000000) : ∀ (l : List Rf) (j : Nat) (out : List Bool), refs.drop j = l → j ≤ refs.length → (out.length : Int) = size →
    ∃ k, mani_Manifest_marked.l0 k size out refs (refs.length : Int) (j : Int) = some (ans (markR size l out))
  | [], j, out, hj, hjl, hlen => by
    have : refs.length ≤ j := by
      rcases Nat.lt_or_ge j refs.length with h | h
      · rw [List.drop_eq_getElem_cons h] at hj; cases hj
      · exact h
    refine ⟨1, ?_⟩
    unfold mani_Manifest_marked.l0
    rw [if_neg (by omega)]
    rfl
  | r :: l, j, out, hj, hjl, hlen => by
    have hlt : j < refs.length := by
      rcases Nat.lt_or_ge j refs.length with h | h
      · exact h
      · rw [List.drop_eq_nil_of_le h] at hj; cases hj
    rw [List.drop_eq_getElem_cons hlt] at hj
    injection hj with hj1 hj2
    have e1 : rd_T36 refs (j : Int) = r := by
      unfold rd_T36
      rw [← hj1]
      simp [List.getD_eq_getElem?_getD, List.getElem?_eq_getElem hlt]
    have e2 : wrap64 ((j : Int) + 1) = ((j + 1 : Nat) : Int) := by unfold wrap64; omega
    by_cases hR : rightV r.f0 r.f1 size = true
    · obtain ⟨g1, g2, g3⟩ := rightV_iff.1 hR
      have gp := pagesV_le r.f1
      have eP : (((pagesV r.f1).toNat : Nat) : Int) = pagesV r.f1 := by omega
      cases hm : markP (pagesV r.f1).toNat r.f0.toNat out with
      | none =>
        refine ⟨0 + (pagesV r.f1).toNat + 1 + 1, ?_⟩
        unfold mani_Manifest_marked.l0
        rw [if_pos (by omega), if_pos (by omega), if_pos (by omega), e1, right_f r size h0 (by omega), Option.bind_some, if_pos hR, pages_at, Option.bind_some]
        refine l1_run size _ _ _ _ _ _ refs _ g2 (by omega) hs (by omega) _ 0 out 0 (by omega) (by omega) hlen (fun out' h => ?_) (fun _ => ?_)
        · rw [Int.add_zero] at h; rw [hm] at h; cases h
        · unfold markR; rw [if_pos hR, hm]; rfl
      | some out' =>
        obtain ⟨k0, hk0⟩ := l0_run size refs h0 hs hr l (j + 1) out' hj2 (by omega) (by rw [markP_len _ _ _ _ hm]; exact hlen)
        refine ⟨k0 + (pagesV r.f1).toNat + 1 + 1, ?_⟩
        unfold mani_Manifest_marked.l0
        rw [if_pos (by omega), if_pos (by omega), if_pos (by omega), e1, right_f r size h0 (by omega), Option.bind_some, if_pos hR, pages_at, Option.bind_some]
        refine l1_run size _ _ _ _ _ _ refs _ g2 (by omega) hs (by omega) _ 0 out k0 (by omega) (by omega) hlen (fun out2 h => ?_) (fun h => ?_)
        · rw [Int.add_zero, hm] at h
          cases h
          rw [e2, hk0, markR_cons, if_pos hR, hm]
          rfl
        · rw [Int.add_zero, hm] at h; cases h
    · refine ⟨1, ?_⟩
      unfold mani_Manifest_marked.l0
      rw [if_pos (by omega), if_pos (by omega), if_pos (by omega), e1, right_f r size h0 (by omega), Option.bind_some, if_neg hR]
      unfold markR
      rw [if_neg hR]
      rfl
theorem start_len (n : Nat) : (start n).length = n := by simp [start]
theorem marked_f (m : Man) (size : Int) (h2 : 2 ≤ size) (h3 : size ≤ 4096) (hr : m.refs.length ≤ 1000000) : ∃ k, mani_Manifest_marked.f k m.refs m.stack m.upper m.snaps size = some (ans (marks m size)) := by
  obtain ⟨k, hk⟩ := l0_run size m.refs (by omega) h3 hr m.refs 0 (start size.toNat) rfl (Nat.zero_le _) (by rw [start_len]; omega)
  refine ⟨k, ?_⟩
  unfold mani_Manifest_marked.f
  rw [if_pos (by omega), if_pos (by omega), Option.bind_some, if_pos (by rw [List.length_replicate]; omega), if_pos (by rw [List.length_replicate]; omega)]
  exact hk
theorem marked_c (o : Loc) (m : Man) (w : World) (size : Int) (h : Hid (At w o m)) (h2 : 2 ≤ size) (h3 : size ≤ 4096) (hr : m.refs.length ≤ 1000000) :
    Calls Tryz.prog 54 #[.agg (o.a m), .int .i64 size] w fun e w' => ∃ A c, e = .returned (.tuple #[.slice A ((marks m size).getD []).length c, .bool (marks m size).isSome]) ∧ ((marks m size).getD []).length ≤ c ∧ Kd.C Kd.bool w' A ((marks m size).getD []).length ((marks m size).getD []) ∧ Below w.heap.size w w' := by
  obtain ⟨k, hk⟩ := marked_f m size h2 h3 hr
  refine (mani_Manifest_marked.calls k o.p0 o.c0 m.refs o.p1 o.c1 m.stack m.upper o.p3 o.c3 m.snaps size _ _ w h.out.r h.out.rc h.out.s h.out.sc h.out.n h.out.nc hk).mono ?_
  rintro e w' ⟨v, rfl, hR, hd⟩
  obtain ⟨A, c, rfl, h1, h2⟩ := Kd.R_reads hR
  exact ⟨A, c, rfl, h1, h2, hd⟩
theorem index_run (l : List Bool) (hl : l.length ≤ 1000000) : ∀ (n j : Nat), j + n = l.length → ∃ i : Int, slices_Index_bool_bool.l0 (n + 1) l false (l.length : Int) (j : Int) = some i ∧ decide (i ≥ 0) = (l.drop j).contains false
  | 0, j, hj => by
    refine ⟨-1, ?_, ?_⟩
    · unfold slices_Index_bool_bool.l0
      rw [if_neg (by omega)]
    · rw [List.drop_eq_nil_of_le (by omega)]; rfl
  | n + 1, j, hj => by
    have hlt : j < l.length := by omega
    have e1 : rdOf false l (j : Int) = l[j] := by unfold rdOf; simp [List.getD_eq_getElem?_getD, List.getElem?_eq_getElem hlt]
    have e2 : wrap64 ((j : Int) + 1) = ((j + 1 : Nat) : Int) := by unfold wrap64; omega
    rw [List.drop_eq_getElem_cons hlt]
    unfold slices_Index_bool_bool.l0
    rw [if_pos (by omega), if_pos (by omega), if_pos (by omega), e1]
    cases hb : l[j] with
    | false => exact ⟨(j : Int), by rw [if_pos (show (false == false) = true from rfl)], by rw [decide_eq_true (by omega)]; simp⟩
    | true =>
      obtain ⟨i, h1, h2⟩ := index_run l hl n (j + 1) (by omega)
      refine ⟨i, by rw [if_neg (by decide), e2]; exact h1, by rw [h2]; simp⟩
theorem contains_c (A : Option Addr) (c : Nat) (l : List Bool) (w : World) (hl : l.length ≤ 1000000) (hc : l.length ≤ c) (h : Hid (Kd.C Kd.bool w A l.length l)) :
    Calls Tryz.prog 55 #[.slice A l.length c, .bool false] w fun e w' => e = .returned (.bool (l.contains false)) ∧ Below w.heap.size w w' := by
  obtain ⟨i, h1, h2⟩ := index_run l hl l.length 0 (by omega)
  refine (slices_Contains_bool_bool.calls (l.length + 1) A c l false (l.contains false) w h.out hc ?_).mono ?_
  · unfold slices_Contains_bool_bool.f slices_Index_bool_bool.f
    have h1' : slices_Index_bool_bool.l0 (l.length + 1) l false (l.length : Int) 0 = some i := h1
    rw [h1', Option.bind_some, h2]
    rfl
  · rintro e w' ⟨rfl, ⟨n, rfl⟩⟩
    exact ⟨rfl, pw_below_drewN (Below.refl _ _) n⟩
def rightM (m : Man) (size : Int) : Bool := decide (2 ≤ size ∧ size ≤ 2048) && (sizedB m && ((named m).isSome && ((marks m size).isSome && !((named m).getD []).contains false)))
theorem markL_len (n : Nat) : ∀ (l met : List Int) (out out' : List Bool), markL n met l out = some out' → out'.length = out.length
  | [], _, out, out', h => by cases h; rfl
  | k :: l, met, out, out', h => by
    unfold markL at h
    split at h
    · cases h
    · rw [markL_len n l _ _ _ h, List.length_set]
theorem markS_len (n : Nat) : ∀ (ls : List (List Int)) (out out' : List Bool), markS n ls out = some out' → out'.length = out.length
  | [], out, out', h => by cases h; rfl
  | l :: ls, out, out', h => by
    unfold markS at h
    cases e : markL n [] l out with
    | none => rw [e] at h; cases h
    | some o2 => rw [e] at h; rw [markS_len n ls o2 _ h, markL_len n l _ _ _ e]
theorem named_len (m : Man) : ((named m).getD []).length ≤ m.refs.length := by
  cases e : named m with
  | none => exact Nat.zero_le _
  | some l => have := markS_len _ _ _ _ e; rw [List.length_replicate] at this; exact Nat.le_of_eq this
set_option maxHeartbeats 4000000 in
set_option maxRecDepth 100000 in
theorem right_c (o : Loc) (m : Man) (size : Int) (w : World) (h : Hid (At w o m)) (hm : m.snaps.length ≤ 1000000) (hr : m.refs.length ≤ 1000000) :
    Calls Tryz.prog 26 #[.agg (o.a m), .int .i64 size] w fun e w' => e = .returned (.bool (rightM m size)) ∧ Below w.heap.size w w' := by
  obtain ⟨T, hT⟩ : ∃ T, rightM m size = T := ⟨_, rfl⟩
  have HT := Lib.hid hT
  rw [hT]
  clear hT
  have hd0 : Below w.heap.size w (w.alloc (Obj.cells (o.a m) 43 (0, 0))) := (Below.refl _ _).alloc (Nat.le_refl _) _
  have H1 := Lib.hid (h.out.on hd0)
  have HB1 := Lib.hid hd0
  have HX1 := Lib.hid (heap_alloc_last w (Obj.cells (o.a m) 43 (0, 0)))
  go_enter Tryz.func26, Tryz.ntmps26
  go_upto_region 1 with fail
  obtain ⟨X, hX⟩ : ∃ X, w.heap.size = X := ⟨_, rfl⟩
  rw [hX] at HX1
  simp only [hX]
  generalize hw1 : w.alloc (Obj.cells (o.a m) 43 (0, 0)) = w1 at *
  clear hw1 hd0 h hX
  by_cases h2 : size < 2
  · have c1 : decide (size < 2) = true := decide_eq_true h2
    obtain rfl : T = false := by rw [← HT.out]; unfold rightM; rw [decide_eq_false (by omega)]; rfl
    clear HT
    go_wp2_with fail
    go_ret
    exact ⟨rfl, HB1.out⟩
  · have c1 : decide (size < 2) = false := decide_eq_false h2
    by_cases h3 : size > 2048
    · have c2 : decide (size > 2048) = true := decide_eq_true h3
      have c2b : decide (2048 < size) = true := decide_eq_true h3
      obtain rfl : T = false := by rw [← HT.out]; unfold rightM; rw [decide_eq_false (by omega)]; rfl
      clear HT
      go_wp2_with fail
      go_ret
      exact ⟨rfl, HB1.out⟩
    · have c2 : decide (size > 2048) = false := decide_eq_false h3
      have c2b : decide (2048 < size) = false := decide_eq_false h3
      have HT2 := Lib.hid (show (sizedB m && ((named m).isSome && ((marks m size).isSome && !((named m).getD []).contains false))) = T by
        rw [← HT.out]; unfold rightM; rw [decide_eq_true (by omega), Bool.true_and])
      clear HT
      go_wp2_with (first | (refine wg_loadM X o m HX1.out (by rfl) _ rfl rfl ?_))
      refine (sized_c o m w1 H1 hm).mono ?_
      rintro e w2 ⟨rfl, hd⟩
      have H2 := Lib.hid (H1.out.on hd)
      have HB2 := below_to HB1 (Nat.le_refl _) hd
      have HX2 := blk_to HX1 hd
      obtain ⟨b, hb⟩ : ∃ b, sizedB m = b := ⟨_, rfl⟩
      rw [hb]
      have HT3 := HT2.out
      rw [hb] at HT3
      clear hb hd H1 HB1 HX1 HT2
      cases b with
      | false =>
        obtain rfl : T = false := by rw [← HT3]; rfl
        clear HT3
        go_wp2_with fail
        go_ret
        exact ⟨rfl, HB2.out⟩
      | true =>
        rw [Bool.true_and] at HT3
        have HT4 := Lib.hid HT3
        clear HT3
        go_wp2_with (first | (refine wl_loadM X o m HX2.out rfl _ rfl rfl ?_))
        refine (named_c o m w2 H2 hm hr).mono ?_
        rintro e w3 ⟨A, c, rfl, hc, hC, hd⟩
        have H3 := Lib.hid (H2.out.on hd)
        have HB3 := below_to HB2 (Nat.le_refl _) hd
        have HX3 := blk_to HX2 hd
        have HNl := Lib.hid (named_len m)
        obtain ⟨T1, hT1⟩ : ∃ T1, named m = T1 := ⟨_, rfl⟩
        have HT5 := HT4.out
        have HN5 := HNl.out
        rw [hT1] at hc hC HT5 HN5 ⊢
        have HC3 := Lib.hid hC
        have HT6 := Lib.hid HT5
        clear hT1 hC hd H2 HB2 HX2 HT4 HT5 HNl
        go_wp2_with (first | (refine wl_loadM X o m HX3.out rfl _ rfl rfl ?_))
        refine (marked_c o m w3 size H3 (by omega) (by omega) hr).mono ?_
        rintro e w4 ⟨A2, c2, rfl, _, _, hd⟩
        have HB4 := below_to HB3 (Nat.le_refl _) hd
        have HC4 := Lib.hid (Kd.C_below HC3.out hd)
        obtain ⟨T2, hT2⟩ : ∃ T2, marks m size = T2 := ⟨_, rfl⟩
        have HT7 := HT6.out
        rw [hT2] at HT7 ⊢
        clear hT2 hd H3 HB3 HX3 HC3 HT6
        cases T1 with
        | none =>
          obtain rfl : T = false := by rw [← HT7]; rfl
          clear HT7
          simp only [Option.isSome_none, Option.getD_none]
          go_wp2_with fail
          go_ret
          exact ⟨rfl, HB4.out⟩
        | some l1 => cases T2 with
          | none =>
            obtain rfl : T = false := by rw [← HT7]; rfl
            clear HT7
            simp only [Option.isSome_none, Option.isSome_some, Option.getD_none, Option.getD_some]
            go_wp2_with fail
            go_ret
            exact ⟨rfl, HB4.out⟩
          | some l2 =>
            simp only [Option.getD_some] at HN5 HC4 hc
            obtain ⟨q, hq⟩ : ∃ q, l1.contains false = q := ⟨_, rfl⟩
            obtain rfl : T = !q := by rw [← HT7, ← hq]; rfl
            have HQ := Lib.hid hq
            clear HT7 hq
            simp only [Option.isSome_some, Option.getD_some]
            go_wp2_with fail
            refine (contains_c A c l1 w4 (by omega) hc HC4).mono ?_
            rintro e w5 ⟨rfl, hd⟩
            have HB5 := below_to HB4 (Nat.le_refl _) hd
            rw [HQ.out]
            clear HQ hd
            cases q
            · go_wp2_with fail
              go_ret
              exact ⟨rfl, HB5.out⟩
            · go_wp2_with fail
              go_ret
              exact ⟨rfl, HB5.out⟩
end Go.Proofs.YtaodgnladjafoaaGreatDoor.Mni
