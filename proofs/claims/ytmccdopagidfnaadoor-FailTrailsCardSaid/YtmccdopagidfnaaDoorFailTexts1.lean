/- FailTexts, the walk (printed by gen_failtexts.py). -/
import Derived.Test.YtmccdopagidfnaaDoorErr7
import Derived.Test.YtmccdopagidfnaaDoorTrail2
set_option linter.unusedVariables false
namespace Go.Proofs.YtmccdopagidfnaaDoor.RowFailTexts
open Go.RowKit Go.Extern.Stop Go.Stop Go.Extern Go.Proofs.YtmccdopagidfnaaDoor.Err Go.Proofs.YtmccdopagidfnaaDoorW.PrintWords Go.Proofs.YtmccdopagidfnaaDoorW.PrintLast Go.Proofs.YtmccdopagidfnaaDoorW.PrintMore
theorem pairs_len (l : List ByteArray) : ∀ K, (pairs l K).length = K
  | 0 => rfl
  | K + 1 => by simp [pairs, pairs_len l K]
theorem pairs_at (l : List ByteArray) : ∀ K i, i < K → ((pairs l K).map Prod.fst).getD i ByteArray.empty = l.getD (2 * (K - 1 - i)) ByteArray.empty
  | 0, i, h => by omega
  | K + 1, 0, h => by simp [pairs]
  | K + 1, i + 1, h => by
    have := pairs_at l K i (by omega)
    rw [show K + 1 - 1 - (i + 1) = K - 1 - i by omega, ← this]
    simp [pairs]
theorem at_textN {w : World} {A : Option Addr} {N : Nat} {l : List ByteArray} (hN : l.length = N) (h : Kd.C Kd.string w A N l) (i : Nat) (hi : i < N) : ∃ ad, A = some ad ∧ w.cell? (ad.add i) = some (.string (l.getD i ByteArray.empty)) := by
  subst hN
  exact at_text h i hi
set_option maxHeartbeats 4000000 in
set_option maxRecDepth 100000 in
theorem many (n : Int) (A : Option Addr) (len cap : Nat) (w : World) (hl : 40 < len) (hg : Hid (Laid w)) :
    Calls Tryd.prog 3 #[.int .i64 n, .slice A len cap] w fun e w' => e = .returned (.bool true) ∧ Below w.heap.size w w' := by
  have c1 : decide (40 < (len : Int)) = true := decide_eq_true (by omega)
  go_enter Tryd.func3, Tryd.ntmps3
  go_wp2_with fail
  refine (awake_c _ hg).mono ?_
  rintro e w1 ⟨rfl, hd⟩
  have HG1 := Lib.hid (hg.out.on hd)
  have HB1 := Lib.hid hd
  clear hd
  go_wp2_with fail
  refine (awake_c _ HG1).mono ?_
  rintro e w2 ⟨rfl, hd⟩
  have HB2 := below_on HB1 (Nat.le_refl _) hd
  clear hd
  go_wp2_with fail
  go_ret
  exact ⟨rfl, HB2.out⟩
set_option maxHeartbeats 4000000 in
set_option maxRecDepth 100000 in
theorem few_base (n : Int) (A : Option Addr) (cap : Nat) (l : List ByteArray) (w : World) (K : Nat) (h0 : Hid (K = 0)) (hK : l.length / 2 = K) (hr : Kd.C Kd.string w A l.length l) (hc : l.length ≤ cap) (hl : l.length ≤ 40) (hz : Hid (∀ x ∈ l, x.size ≤ 140737488351232)) (s : ByteArray) (hs : Hid (wrapText n (pairs l K) = s)) (hg : Hid (Laid w)) :
    Calls Tryd.prog 3 #[.int .i64 n, .slice A l.length cap] w fun e w' => e = .returned (.bool true) ∧ Below w.heap.size w w' := by
  have HR := Lib.hid hr
  clear hr
  have c1 : decide (40 < (l.length : Int)) = false := decide_eq_false (by omega)
  have t1 : Int.tdiv (l.length : Int) 2 = (K : Int) := by rw [Int.tdiv_eq_ediv_of_nonneg (by omega)]; omega
  have t2 : IntKind.i64.wrap (K : Int) = (K : Int) := IntWalk.i64_in _ (by omega)
  have hKl : 2 * K ≤ l.length := by omega
  have HK0 := Lib.hid hK
  clear hK
  go_enter Tryd.func3, Tryd.ntmps3
  go_wp2_with fail
  refine (awake_c _ hg).mono ?_
  rintro e w1 ⟨rfl, hd⟩
  have HG1 := Lib.hid (hg.out.on hd)
  have HR1 := Lib.hid (Kd.C_below HR.out hd)
  have HB1 := Lib.hid hd
  clear hd
  go_wp2_with fail
  refine (wrapped_c n A cap l _ HR1.out hc hl).mono ?_
  rintro e w2 ⟨T, x, rfl, hch, hd⟩
  have HG2 := Lib.hid (HG1.out.on hd)
  have HB2 := below_on HB1 (Nat.le_refl _) hd
  clear hd
  rw [HK0.out] at hch
  obtain ⟨rfl, rfl⟩ : T = 35 ∧ x = .int .i64 n := by
    have := hch.out
    rw [h0.out] at this
    cases this
    exact ⟨rfl, rfl⟩
  go_wp2_with fail
  refine (ErrF.trail_c _ n _ _ hch HG2 (by rw [pairs_len]; omega)).mono ?_
  rw [pairs_len]
  rintro e w3 ⟨A3, cap3, rfl, hc3, hC3, hd⟩
  have HR3 := Lib.hid (Kd.C_below HR.out (HB2.out.trans (hd.mono HB2.out.size)))
  have HB3 := below_on HB2 (Nat.le_refl _) hd
  have HC3 := Lib.hid hC3
  clear hd hC3
  have hm := mErrE
  go_wp2_with fail
  refine (err_c n s (Lib.hid (by have := hs.out; rw [h0.out] at this; exact this)) _).mono ?_
  rintro e w4 ⟨rfl, hd⟩
  have HR4 := Lib.hid (Kd.C_below HR.out (HB3.out.trans (hd.mono HB3.out.size)))
  have HC4 := Lib.hid (Kd.C_below HC3.out hd)
  have HB4 := below_on HB3 (Nat.le_refl _) hd
  clear hd
  go_wp2_with fail
  have hW := refw_c n A cap l w4 HR4.out hc hl hz
  rw [HK0.out, hs.out] at hW
  refine hW.mono ?_
  rintro e w5 ⟨rfl, hd⟩
  clear hW
  have HC5 := Lib.hid (Kd.C_below HC4.out hd)
  have HB5 := below_on HB4 (Nat.le_refl _) hd
  clear hd hch
  go_wp2_with fail
  go_loopg [7] K (fun kq v0 w' => ∃ (i : Nat), v0 = .int .i64 (i : Int) ∧ kq + i = K ∧ Hid (Below w5.heap.size w5 w'))
  case atStart => exact ⟨0, rfl, by omega, Lib.hid (by repeat (first | exact Below.refl _ _ | apply pw_below_drewN | apply below_drew1))⟩
  case round =>
    obtain ⟨i, rfl, hk, HBL⟩ := hrel
    cases gk with
    | zero =>
      obtain rfl : i = K := by omega
      have c2 : decide ((i : Int) < (i : Int)) = false := decide_eq_false (by omega)
      go_wp2_with fail
      go_ret
      exact ⟨rfl, HB5.out.trans (HBL.out.mono HB5.out.size)⟩
    | succ k1 => exact absurd hk (by have := h0.out; omega)
set_option maxHeartbeats 4000000 in
set_option maxRecDepth 100000 in
theorem few_wrap (n : Int) (A : Option Addr) (cap : Nat) (l : List ByteArray) (w : World) (K : Nat) (k : Nat) (h0 : Hid (K = k + 1)) (hK : l.length / 2 = K) (hr : Kd.C Kd.string w A l.length l) (hc : l.length ≤ cap) (hl : l.length ≤ 40) (hz : Hid (∀ x ∈ l, x.size ≤ 140737488351232)) (s : ByteArray) (hs : Hid (wrapText n (pairs l K) = s)) (hg : Hid (Laid w)) :
    Calls Tryd.prog 3 #[.int .i64 n, .slice A l.length cap] w fun e w' => e = .returned (.bool true) ∧ Below w.heap.size w w' := by
  have HR := Lib.hid hr
  clear hr
  have c1 : decide (40 < (l.length : Int)) = false := decide_eq_false (by omega)
  have t1 : Int.tdiv (l.length : Int) 2 = (K : Int) := by rw [Int.tdiv_eq_ediv_of_nonneg (by omega)]; omega
  have t2 : IntKind.i64.wrap (K : Int) = (K : Int) := IntWalk.i64_in _ (by omega)
  have hKl : 2 * K ≤ l.length := by omega
  have HK0 := Lib.hid hK
  clear hK
  go_enter Tryd.func3, Tryd.ntmps3
  go_wp2_with fail
  refine (awake_c _ hg).mono ?_
  rintro e w1 ⟨rfl, hd⟩
  have HG1 := Lib.hid (hg.out.on hd)
  have HR1 := Lib.hid (Kd.C_below HR.out hd)
  have HB1 := Lib.hid hd
  clear hd
  go_wp2_with fail
  refine (wrapped_c n A cap l _ HR1.out hc hl).mono ?_
  rintro e w2 ⟨T, x, rfl, hch, hd⟩
  have HG2 := Lib.hid (HG1.out.on hd)
  have HB2 := below_on HB1 (Nat.le_refl _) hd
  clear hd
  rw [HK0.out] at hch
  obtain ⟨b, e0, rfl, rfl, hblk0, hnx0⟩ : ∃ b e0, T = 38 ∧ x = .pointer (some ⟨b, 0, none⟩) ∧ w2.heap[b]? = some (Obj.cells #[.string (l.getD (2 * k) ByteArray.empty), .string (l.getD (2 * k + 1) ByteArray.empty), e0] 42 (0, 0)) ∧ Chain w2 e0 n (pairs l k) := by
    have := hch.out
    rw [h0.out] at this
    cases this with
    | wrap b _ _ e0 _ _ hb hn => exact ⟨b, e0, rfl, rfl, hb, hn⟩
  have HK := Lib.hid hblk0
  have HN := Lib.hid hnx0
  clear hblk0 hnx0
  go_wp2_with fail
  refine (ErrF.trail_c _ n _ _ hch HG2 (by rw [pairs_len]; omega)).mono ?_
  rw [pairs_len]
  rintro e w3 ⟨A3, cap3, rfl, hc3, hC3, hd⟩
  have HR3 := Lib.hid (Kd.C_below HR.out (HB2.out.trans (hd.mono HB2.out.size)))
  have HB3 := below_on HB2 (Nat.le_refl _) hd
  have HC3 := Lib.hid hC3
  have HK3 := Lib.hid (keep_blk hd HK.out)
  have HN3 := Lib.hid (HN.out.on hd)
  clear hd hC3
  have hm := mErrF
  go_wp2_with fail
  have hE := ferr_c n (pairs l k) _ _ b e0 w3 HK3.out HN3.out (by have := tot_le hz.out (k + 1); simp only [pairs] at this; have h0' := h0.out; omega)
  rw [show (l.getD (2 * k) ByteArray.empty, l.getD (2 * k + 1) ByteArray.empty) :: pairs l k = pairs l K by rw [h0.out]; rfl, hs.out] at hE
  refine hE.mono ?_
  rintro e w4 ⟨rfl, hd⟩
  have HR4 := Lib.hid (Kd.C_below HR.out (HB3.out.trans (hd.mono HB3.out.size)))
  have HC4 := Lib.hid (Kd.C_below HC3.out hd)
  have HB4 := below_on HB3 (Nat.le_refl _) hd
  clear hd
  go_wp2_with fail
  have hW := refw_c n A cap l w4 HR4.out hc hl hz
  rw [HK0.out, hs.out] at hW
  refine hW.mono ?_
  rintro e w5 ⟨rfl, hd⟩
  clear hW
  have HC5 := Lib.hid (Kd.C_below HC4.out hd)
  have HB5 := below_on HB4 (Nat.le_refl _) hd
  clear hd hch
  go_wp2_with fail
  go_loopg [7] K (fun kq v0 w' => ∃ (i : Nat), v0 = .int .i64 (i : Int) ∧ kq + i = K ∧ Hid (Below w5.heap.size w5 w'))
  case atStart => exact ⟨0, rfl, by omega, Lib.hid (by repeat (first | exact Below.refl _ _ | apply pw_below_drewN | apply below_drew1))⟩
  case round =>
    obtain ⟨i, rfl, hk, HBL⟩ := hrel
    cases gk with
    | zero =>
      obtain rfl : i = K := by omega
      have c2 : decide ((i : Int) < (i : Int)) = false := decide_eq_false (by omega)
      go_wp2_with fail
      go_ret
      exact ⟨rfl, HB5.out.trans (HBL.out.mono HB5.out.size)⟩
    | succ k1 =>
      have c2 : decide ((i : Int) < (K : Int)) = true := decide_eq_true (by omega)
      have q1 : IntKind.i64.wrap ((K : Int) - 1) = (K : Int) - 1 := IntWalk.i64_in _ (by omega)
      have q2 : (K : Int) - 1 - (i : Int) = (k1 : Int) := by omega
      have q3 : IntKind.i64.wrap (k1 : Int) = (k1 : Int) := IntWalk.i64_in _ (by omega)
      have q4 : IntKind.i64.wrap (2 * (k1 : Int)) = 2 * (k1 : Int) := IntWalk.i64_in _ (by omega)
      have q5 : IntKind.i64.wrap ((i : Int) + 1) = (i : Int) + 1 := IntWalk.i64_in _ (by omega)
      obtain ⟨ad, rfl, x1⟩ := at_text HR.out (2 * k1) (by omega)
      obtain ⟨ad3, rfl, x2⟩ := at_textN (by rw [List.length_map, pairs_len]) HC5.out i (by omega)
      rw [pairs_at l K i (by omega), show K - 1 - i = k1 by omega] at x2
      have hbl := HB5.out.trans (HBL.out.mono HB5.out.size)
      replace x1 := (hbl.cell (World.block_lt_of_cell? w _ x1)).trans x1
      replace x2 := (HBL.out.cell (World.block_lt_of_cell? _ _ x2)).trans x2
      clear hbl
      have p1 : (0 ≤ (i : Int)) = True := eq_true (by omega)
      have p2 : ((i : Int) < (K : Int)) = True := eq_true (by omega)
      have p3 : (0 ≤ 2 * (k1 : Int)) = True := eq_true (by omega)
      have p4 : (2 * (k1 : Int) < (l.length : Int)) = True := eq_true (by omega)
      obtain ⟨i1, hi1⟩ : ∃ i, i = 2 * k1 := ⟨_, rfl⟩
      have n1 : (2 * (k1 : Int)).toNat = i1 := by omega
      rw [← hi1] at x1 x2
      clear hi1
      go_wp2_with fail
      repeat (go_quiet (fail); try go_wp2)
      go_roundg k1
      case measure => exact Nat.lt_succ_self _
      case rel => exact ⟨i + 1, by simp, by omega, Lib.hid (by repeat (first | exact HBL.out | apply pw_below_drewN | apply below_drew1))⟩
theorem walk (n : Int) (A : Option Addr) (len cap : Nat) (l : List ByteArray) (w : World) (hn : (Lit.int .i64 n).wf = true) (hl : l.length = len) (hc : len ≤ cap) (hr : Kd.C Kd.string w A len l) (hz : ∀ x ∈ l, x.size ≤ 140737488351232) (hg : Hid (Laid w)) :
    Calls Tryd.prog 3 #[.int .i64 n, .slice A len cap] w fun e w' => e = .returned (.bool true) ∧ Below w.heap.size w w' := by
  subst hl
  by_cases h : l.length ≤ 40
  · cases hK : l.length / 2 with
    | zero => exact few_base n A cap l w 0 rfl hK hr hc h hz _ rfl hg
    | succ k => exact few_wrap n A cap l w (k + 1) k rfl hK hr hc h hz _ rfl hg
  · exact many n A l.length cap w (by omega) hg
end Go.Proofs.YtmccdopagidfnaaDoor.RowFailTexts
