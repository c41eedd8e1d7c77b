/- Whether a manifest's lists are of a size that may be. -/
import Derived.Test.YtpijilfkmkdghaaDoorMani1
set_option linter.unusedVariables false
set_option linter.unusedSimpArgs false
namespace Go.Proofs.YtpijilfkmkdghaaDoor.Mni
open Go.RowKit Go.Proofs.YtpijilfkmkdghaaDoorW.PrintWords Go.Proofs.YtpijilfkmkdghaaDoorW.PrintLast Go.Proofs.YtpijilfkmkdghaaDoorW.PrintMore Go.Proofs.YtpijilfkmkdghaaDoor.Md Go.Proofs.YtpijilfkmkdghaaDoor.QManiBack
theorem below_to {B : Nat} {w w1 w2 : World} (h : Hid (Below B w w1)) (hB : B ≤ w.heap.size) (k : Below w1.heap.size w1 w2) : Hid (Below B w w2) :=
  Lib.hid (h.out.trans (k.mono (Nat.le_trans hB h.out.size)))
theorem blk_to {w1 w2 : World} {k : Nat} {ob : Obj} (h : Hid (w1.heap[k]? = some ob)) (b : Below w1.heap.size w1 w2) : Hid (w2.heap[k]? = some ob) := Lib.hid ((b.block k (Err.lt_of_block h.out)).trans h.out)
theorem long_c (A : Option Addr) (n c : Nat) (w : World) : Calls Tryd.prog 30 #[.slice A n c] w fun e w' => e = .returned (.bool (decide (n > 9))) ∧ Below w.heap.size w w' := by
  have hd : decide ((n : Int) > 9) = decide (n > 9) := by
    by_cases h : n > 9
    · rw [decide_eq_true h, decide_eq_true (by omega)]
    · rw [decide_eq_false h, decide_eq_false (by omega)]
  go_enter Tryd.func30, Tryd.ntmps30
  go_wp2_with fail
  go_ret
  exact ⟨by simp, Below.refl _ _⟩
def anyLong (l : List (List Int)) : Bool := l.any (fun x => decide (x.length > 9))
theorem rd_L1_get (l : List (List Int)) (j : Nat) (h : j < l.length) : rd_L1 l (j : Int) = l[j] := by
  unfold rd_L1
  simp [List.getD_eq_getElem?_getD, List.getElem?_eq_getElem h]
theorem anyLong_drop (l : List (List Int)) (j : Nat) (h : j < l.length) : anyLong (l.drop j) = (decide (l[j].length > 9) || anyLong (l.drop (j + 1))) := by
  rw [List.drop_eq_getElem_cons h]
  rfl
theorem index_c (A : Option Addr) (c : Nat) (l : List (List Int)) (w : World) (hl : l.length ≤ 1000000) (hc : l.length ≤ c) (h : Hid (Kd.C lk w A l.length l)) :
    Calls Tryd.prog 44 #[.slice A l.length c, .func (Fn.func 30) #[] #[]] w fun e w' => ∃ i : Int, e = .returned (.int .i64 i) ∧ (decide (i ≥ 0) = anyLong l) ∧ Below w.heap.size w w' := by
  obtain ⟨n, hn⟩ : ∃ n, l.length = n := ⟨_, rfl⟩
  have h' := h.out
  rw [hn] at h' hl hc
  have HC := Lib.hid h'
  have HN := Lib.hid hn
  rw [hn]
  clear h h' hn
  have HB0 := Lib.hid (Below.refl w.heap.size w)
  go_enter Tryd.func44, Tryd.ntmps44
  go_wp2_with fail
  go_loopg [8] n (fun kq v8 wr => ∃ (j : Nat), v8 = .int .i64 (j : Int) ∧ kq + j = n ∧ Hid (Below w.heap.size w wr) ∧ Hid (anyLong l = anyLong (l.drop j)))
  case atStart => exact ⟨0, rfl, rfl, HB0, Lib.hid rfl⟩
  case round =>
    clear HB0
    obtain ⟨j, rfl, hk, HB, HA⟩ := hrel
    cases gk with
    | zero =>
      have hj : j = n := by omega
      have c1 : decide ((j : Int) < (n : Int)) = false := decide_eq_false (by omega)
      have c1b : decide (j < n) = false := decide_eq_false (by omega)
      have HJ := Lib.hid hj
      clear hk hj
      go_wp2_with fail
      go_ret
      refine ⟨-1, rfl, ?_, HB.out⟩
      rw [HA.out, HJ.out, ← HN.out, List.drop_length]
      rfl
    | succ k1 =>
      have hj : j < n := by omega
      have hjl : j < l.length := by rw [HN.out]; exact hj
      have c1 : decide ((j : Int) < (n : Int)) = true := decide_eq_true (by omega)
      have c1b : decide (j < n) = true := decide_eq_true hj
      have p1 : (0 ≤ (j : Int)) = True := eq_true (by omega)
      have p2 : ((j : Int) < (n : Int)) = True := eq_true (by omega)
      have q5 : IntKind.i64.wrap ((j : Int) + 1) = (j : Int) + 1 := IntWalk.i64_in _ (by omega)
      obtain ⟨ad, A0, c0, rfl, hcell, _, _⟩ := at_L1 (Kd.C_below HC.out HB.out) (j : Int) (by omega) (by omega)
      rw [rd_L1_get l j hjl] at hcell
      obtain ⟨q, hq⟩ : ∃ q, l[j].length = q := ⟨_, rfl⟩
      rw [hq] at hcell
      have HQ := Lib.hid hq
      simp only [Int.toNat_natCast] at hcell
      clear hq
      have HA2 := Lib.hid (HA.out.trans (anyLong_drop l j hjl))
      clear HA
      go_wp2_with fail
      refine (long_c A0 q c0 wr).mono ?_
      rintro e w2 ⟨rfl, hd⟩
      have HB2 := below_to HB (Nat.le_refl _) hd
      clear hd hcell HB
      by_cases hg : q > 9
      · have d1 : decide (q > 9) = true := decide_eq_true hg
        have HA3 := Lib.hid (show anyLong l = true by rw [HA2.out, HQ.out, d1]; rfl)
        rw [d1]
        clear HA2 HQ hg d1
        go_wp2_with fail
        go_ret
        refine ⟨(j : Int), rfl, ?_, HB2.out⟩
        rw [HA3.out, decide_eq_true (by omega)]
      · have d1 : decide (q > 9) = false := decide_eq_false hg
        have HA3 := Lib.hid (show anyLong l = anyLong (l.drop (j + 1)) by rw [HA2.out, HQ.out, d1]; rfl)
        rw [d1]
        clear HA2 HQ hg d1
        go_wp2_with fail
        go_roundg k1
        case measure => exact Nat.lt_succ_self _
        case rel => exact ⟨j + 1, by simp, by omega, HB2, HA3⟩
theorem containsF_c (A : Option Addr) (c : Nat) (l : List (List Int)) (w : World) (hl : l.length ≤ 1000000) (hc : l.length ≤ c) (h : Hid (Kd.C lk w A l.length l)) :
    Calls Tryd.prog 31 #[.slice A l.length c, .func (Fn.func 30) #[] #[]] w fun e w' => e = .returned (.bool (anyLong l)) ∧ Below w.heap.size w w' := by
  obtain ⟨b, hb⟩ : ∃ b, anyLong l = b := ⟨_, rfl⟩
  have HBb := Lib.hid hb
  rw [hb]
  clear hb
  go_enter Tryd.func31, Tryd.ntmps31
  go_wp2_with fail
  refine (index_c A c l w hl hc h).mono ?_
  rintro e w2 ⟨i, rfl, hi, hd⟩
  have HI := Lib.hid hi
  clear hi
  by_cases h0 : i ≥ 0
  · have d1 : decide (i ≥ 0) = true := decide_eq_true h0
    have d2 : decide (0 ≤ i) = true := decide_eq_true h0
    obtain rfl : b = true := by rw [← HBb.out, ← HI.out, d1]
    clear HI HBb
    go_wp2_with fail
    go_ret
    exact ⟨rfl, hd⟩
  · have d1 : decide (i ≥ 0) = false := decide_eq_false h0
    have d2 : decide (0 ≤ i) = false := decide_eq_false h0
    obtain rfl : b = false := by rw [← HBb.out, ← HI.out, d1]
    clear HI HBb
    go_wp2_with fail
    go_ret
    exact ⟨rfl, hd⟩
def sizedB (m : Man) : Bool := decide (m.refs.length ≤ 64 ∧ m.stack.length ≤ 8 ∧ m.snaps.length ≤ 16 ∧ -1 ≤ m.upper) && !anyLong m.snaps
theorem sized_c (o : Loc) (m : Man) (w : World) (h : Hid (At w o m)) (hm : m.snaps.length ≤ 1000000) :
    Calls Tryd.prog 17 #[.agg (o.a m)] w fun e w' => e = .returned (.bool (sizedB m)) ∧ Below w.heap.size w w' := by
  have hd0 : Below w.heap.size w (w.alloc (Obj.cells (o.a m) 32 (0, 0))) := (Below.refl _ _).alloc (Nat.le_refl _) _
  have H1 := Lib.hid (h.out.on hd0)
  have HB1 := Lib.hid hd0
  clear hd0
  unfold Loc.a at H1 HB1 ⊢
  obtain ⟨b, hb⟩ : ∃ b, sizedB m = b := ⟨_, rfl⟩
  have HBb := Lib.hid hb
  rw [hb]
  clear hb
  go_enter Tryd.func17, Tryd.ntmps17
  go_wp2_with fail
  · generalize (w.alloc (Obj.cells #[.slice o.p0 m.refs.length o.c0, .slice o.p1 m.stack.length o.c1, .int .i64 m.upper, .slice o.p3 m.snaps.length o.c3] 32 (0, 0))) = w1 at *
    refine (containsF_c o.p3 o.c3 m.snaps w1 hm H1.out.nc (Lib.hid H1.out.n)).mono ?_
    rintro e w2 ⟨rfl, hd⟩
    have HB2 := below_to HB1 (Nat.le_refl _) hd
    obtain ⟨q, hq⟩ : ∃ q, anyLong m.snaps = q := ⟨_, rfl⟩
    obtain rfl : b = !q := by rw [← HBb.out, ← hq]; unfold sizedB; rw [decide_eq_true ⟨by omega, by omega, by omega, by omega⟩, Bool.true_and]
    rw [hq]
    clear hq hd H1 HB1 HBb
    cases q
    · go_wp2_with fail
      go_ret
      exact ⟨rfl, HB2.out⟩
    · go_wp2_with fail
      go_ret
      exact ⟨rfl, HB2.out⟩
  all_goals
    obtain rfl : b = false := by rw [← HBb.out]; unfold sizedB; rw [decide_eq_false (by omega), Bool.false_and]
    go_ret
    exact ⟨rfl, HB1.out⟩
end Go.Proofs.YtpijilfkmkdghaaDoor.Mni
