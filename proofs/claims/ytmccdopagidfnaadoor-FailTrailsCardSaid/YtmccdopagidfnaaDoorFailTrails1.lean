/- FailTrails, the walk (printed by gen_failtrails.py). -/
import Derived.Test.YtmccdopagidfnaaDoorFailTexts1
set_option linter.unusedVariables false
namespace Go.Proofs.YtmccdopagidfnaaDoor.RowFailTrails
open Go.RowKit Go.Extern.Stop Go.Stop Go.Extern Go.Proofs.YtmccdopagidfnaaDoor.Err Go.Proofs.YtmccdopagidfnaaDoorW.PrintWords Go.Proofs.YtmccdopagidfnaaDoorW.PrintLast Go.Proofs.YtmccdopagidfnaaDoorW.PrintMore
open Go.Proofs.YtmccdopagidfnaaDoor.RowFailTexts (pairs_len at_textN)
set_option maxHeartbeats 4000000 in
set_option maxRecDepth 100000 in
theorem many (n : Int) (A : Option Addr) (len cap : Nat) (op path : ByteArray) (w : World) (hl : 40 < len) (hg : Hid (Laid w)) :
    Calls Tryd.prog 4 #[.int .i64 n, .slice A len cap, .string op, .string path] w fun e w' => e = .returned (.bool true) ∧ Below w.heap.size w w' := by
  have c1 : decide (40 < (len : Int)) = true := decide_eq_true (by omega)
  go_enter Tryd.func4, Tryd.ntmps4
  go_wp2_with fail
  refine (awake_c _ hg).mono ?_
  rintro e w1 ⟨rfl, hd⟩
  have HG1 := Lib.hid (hg.out.on hd)
  have HB1 := Lib.hid hd
  clear hd
  go_wp2_with fail
  refine (awake_c _ HG1).mono ?_
  rintro e w2 ⟨rfl, hd⟩
  have HB2 := below_on HB1 (Nat.le_refl _) hd
  clear hd
  go_wp2_with fail
  go_ret
  exact ⟨rfl, HB2.out⟩
set_option maxHeartbeats 4000000 in
set_option maxRecDepth 100000 in
theorem few_base (n : Int) (A : Option Addr) (cap : Nat) (l : List ByteArray) (op path : ByteArray) (w : World) (K : Nat) (h0 : Hid (K = 0)) (hK : l.length / 2 = K) (hr : Kd.C Kd.string w A l.length l) (hc : l.length ≤ cap) (hl : l.length ≤ 40) (hz : Hid (∀ x ∈ l, x.size ≤ 140737488351232)) (hzo : op.size ≤ 140737488351232) (hzp : path.size ≤ 140737488351232) (s r : ByteArray) (hs : Hid (wrapText n (pairs l K) = s)) (hr2 : Hid (wrapText n ((op, path) :: pairs l K) = r)) (hg : Hid (Laid w)) :
    Calls Tryd.prog 4 #[.int .i64 n, .slice A l.length cap, .string op, .string path] w fun e w' => e = .returned (.bool true) ∧ Below w.heap.size w w' := by
  have HR := Lib.hid hr
  clear hr
  have c1 : decide (40 < (l.length : Int)) = false := decide_eq_false (by omega)
  have t2 : IntKind.i64.wrap ((K : Int) + 1) = (K : Int) + 1 := IntWalk.i64_in _ (by omega)
  have hKl : 2 * K ≤ l.length := by omega
  have htot : tot ((op, path) :: pairs l K) ≤ 9223372036854775807 := by
    have := tot_le hz.out K
    simp only [tot]
    omega
  have hss : op.size + 1 + path.size + 2 + s.size ≤ 9223372036854775807 := by
    have h1 := wrap_le n (pairs l K)
    rw [hs.out] at h1
    simp only [tot] at htot
    omega
  have z1 : (9223372036854775807 < op.size + 1) = False := eq_false (by omega)
  have z2 : (9223372036854775807 < op.size + 1 + path.size) = False := eq_false (by omega)
  have z3 : (9223372036854775807 < op.size + 1 + path.size + 2) = False := eq_false (by omega)
  have z4 : (9223372036854775807 < op.size + 1 + path.size + 2 + s.size) = False := eq_false (by omega)
  have HK0 := Lib.hid hK
  have HT := Lib.hid htot
  have her : op ++ (⟨#[32]⟩ : ByteArray) ++ path ++ (⟨#[58, 32]⟩ : ByteArray) ++ s = r := by
    rw [← hr2.out, ← hs.out]; rfl
  have HER := Lib.hid her
  clear hK htot hss
  have hm := mErrE
  have hmf := mErrF
  go_enter Tryd.func4, Tryd.ntmps4
  go_wp2_with fail
  refine (awake_c _ hg).mono ?_
  rintro e w1 ⟨rfl, hd⟩
  have HG1 := Lib.hid (hg.out.on hd)
  have HR1 := Lib.hid (Kd.C_below HR.out hd)
  have HB1 := Lib.hid hd
  clear hd
  go_wp2_with fail
  refine (wrapped_c n A cap l _ HR1.out hc hl).mono ?_
  rintro e w2 ⟨T, x, rfl, hch, hd⟩
  have HG2 := Lib.hid (HG1.out.on hd)
  have HB2 := below_on HB1 (Nat.le_refl _) hd
  clear hd
  rw [HK0.out] at hch
  obtain ⟨rfl, rfl⟩ : T = 35 ∧ x = .int .i64 n := by
    have := hch.out
    rw [h0.out] at this
    cases this
    exact ⟨rfl, rfl⟩
  go_wp2_with fail
  refine (at_some _ _ _ _ _).mono ?_
  rintro e w3 ⟨rfl, hw3⟩
  have hd : Below w2.heap.size w2 w3 := by rw [hw3]; exact (Below.refl _ _).alloc (Nat.le_refl _) _
  have hk3 := Go.Deep.blk_alloc_new w2 (.cells #[.string op, .string path, .iface 35 (.int .i64 n)] 42)
  rw [← hw3] at hk3
  have HK3 := Lib.hid hk3
  clear hk3
  have HG3 := Lib.hid (HG2.out.on hd)
  have hch3 := Lib.hid (hch.out.on hd)
  have hcf3 := Lib.hid (Chain.wrap w2.heap.size op path _ n _ HK3.out hch3.out)
  have HB3 := below_on HB2 (Nat.le_refl _) hd
  clear hd hw3
  go_wp2_with fail
  refine (ErrF.trail_c _ n _ _ hch3 HG3 (by rw [pairs_len]; omega)).mono ?_
  rw [pairs_len]
  rintro e w4 ⟨A4, cap4, rfl, hc4, hC4, hd⟩
  have HG4 := Lib.hid (HG3.out.on hd)
  have hcf4 := Lib.hid (hcf3.out.on hd)
  have HB4 := below_on HB3 (Nat.le_refl _) hd
  have HC4 := Lib.hid hC4
  have HD4 := Lib.hid hd
  clear hd hC4
  go_wp2_with fail
  refine (ErrF.trail_c _ n _ _ hcf4 HG4 (by rw [List.length_cons, pairs_len]; omega)).mono ?_
  rw [List.length_cons, pairs_len]
  rintro e w5 ⟨A5, cap5, rfl, hc5, hC5, hd⟩
  have HC4' := Lib.hid (Kd.C_below HC4.out hd)
  have HB5 := below_on HB4 (Nat.le_refl _) hd
  have HC5 := Lib.hid hC5
  have HD5 := below_on HD4 (Nat.le_refl _) hd
  have HK5 := Lib.hid (keep_blk HD5.out HK3.out)
  have hch5 := Lib.hid (hch3.out.on HD5.out)
  clear hd hC5
  obtain ⟨ad5, rfl, x0⟩ := at_textN (by rw [List.length_map, List.length_cons, pairs_len]) HC5.out 0 (by omega)
  have x0' : w5.cell? ad5 = some (.string op) := by
    have h : w5.cell? (ad5.add 0) = some (.string op) := x0
    rwa [show ad5.add 0 = ad5 from by cases ad5; rfl] at h
  clear x0
  have hE := ferr_c n (pairs l K) op path w2.heap.size _ w5 HK5.out hch5.out HT.out
  rw [hr2.out] at hE
  go_wp2_with fail
  refine hE.mono ?_
  rintro e w6 ⟨rfl, hd⟩
  have HC4'' := Lib.hid (Kd.C_below HC4'.out hd)
  have HC6 := Lib.hid (Kd.C_below HC5.out hd)
  have HB6 := below_on HB5 (Nat.le_refl _) hd
  clear hd hE
  go_wp2_with fail
  refine (err_c n s (Lib.hid (by have := hs.out; rw [h0.out] at this; exact this)) _).mono ?_
  rintro e w7 ⟨rfl, hd⟩
  have HC47 := Lib.hid (Kd.C_below HC4''.out hd)
  have HC7 := Lib.hid (Kd.C_below HC6.out hd)
  have HB7 := below_on HB6 (Nat.le_refl _) hd
  clear hd hch
  have her' := HER.out
  go_wp2_with fail
  go_loopg [13] K (fun kq v0 w' => ∃ (i : Nat), v0 = .int .i64 (i : Int) ∧ kq + i = K ∧ Hid (Below w7.heap.size w7 w'))
  case atStart => exact ⟨0, rfl, by omega, Lib.hid (by repeat (first | exact Below.refl _ _ | apply pw_below_drewN | apply below_drew1))⟩
  case round =>
    obtain ⟨i, rfl, hk, HBL⟩ := hrel
    cases gk with
    | zero =>
      obtain rfl : i = K := by omega
      have c2 : decide ((i : Int) < (i : Int)) = false := decide_eq_false (by omega)
      go_wp2_with fail
      go_ret
      exact ⟨rfl, HB7.out.trans (HBL.out.mono HB7.out.size)⟩
    | succ k1 => exact absurd hk (by have := h0.out; omega)
set_option maxHeartbeats 4000000 in
set_option maxRecDepth 100000 in
theorem few_wrap (n : Int) (A : Option Addr) (cap : Nat) (l : List ByteArray) (op path : ByteArray) (w : World) (K : Nat) (k : Nat) (h0 : Hid (K = k + 1)) (hK : l.length / 2 = K) (hr : Kd.C Kd.string w A l.length l) (hc : l.length ≤ cap) (hl : l.length ≤ 40) (hz : Hid (∀ x ∈ l, x.size ≤ 140737488351232)) (hzo : op.size ≤ 140737488351232) (hzp : path.size ≤ 140737488351232) (s r : ByteArray) (hs : Hid (wrapText n (pairs l K) = s)) (hr2 : Hid (wrapText n ((op, path) :: pairs l K) = r)) (hg : Hid (Laid w)) :
    Calls Tryd.prog 4 #[.int .i64 n, .slice A l.length cap, .string op, .string path] w fun e w' => e = .returned (.bool true) ∧ Below w.heap.size w w' := by
  have HR := Lib.hid hr
  clear hr
  have c1 : decide (40 < (l.length : Int)) = false := decide_eq_false (by omega)
  have t2 : IntKind.i64.wrap ((K : Int) + 1) = (K : Int) + 1 := IntWalk.i64_in _ (by omega)
  have hKl : 2 * K ≤ l.length := by omega
  have htot : tot ((op, path) :: pairs l K) ≤ 9223372036854775807 := by
    have := tot_le hz.out K
    simp only [tot]
    omega
  have hss : op.size + 1 + path.size + 2 + s.size ≤ 9223372036854775807 := by
    have h1 := wrap_le n (pairs l K)
    rw [hs.out] at h1
    simp only [tot] at htot
    omega
  have z1 : (9223372036854775807 < op.size + 1) = False := eq_false (by omega)
  have z2 : (9223372036854775807 < op.size + 1 + path.size) = False := eq_false (by omega)
  have z3 : (9223372036854775807 < op.size + 1 + path.size + 2) = False := eq_false (by omega)
  have z4 : (9223372036854775807 < op.size + 1 + path.size + 2 + s.size) = False := eq_false (by omega)
  have HK0 := Lib.hid hK
  have HT := Lib.hid htot
  have her : op ++ (⟨#[32]⟩ : ByteArray) ++ path ++ (⟨#[58, 32]⟩ : ByteArray) ++ s = r := by
    rw [← hr2.out, ← hs.out]; rfl
  have HER := Lib.hid her
  clear hK htot hss
  have hmf := mErrF
  go_enter Tryd.func4, Tryd.ntmps4
  go_wp2_with fail
  refine (awake_c _ hg).mono ?_
  rintro e w1 ⟨rfl, hd⟩
  have HG1 := Lib.hid (hg.out.on hd)
  have HR1 := Lib.hid (Kd.C_below HR.out hd)
  have HB1 := Lib.hid hd
  clear hd
  go_wp2_with fail
  refine (wrapped_c n A cap l _ HR1.out hc hl).mono ?_
  rintro e w2 ⟨T, x, rfl, hch, hd⟩
  have HG2 := Lib.hid (HG1.out.on hd)
  have HB2 := below_on HB1 (Nat.le_refl _) hd
  clear hd
  rw [HK0.out] at hch
  obtain ⟨b, e0, rfl, rfl, hblk0, hnx0⟩ : ∃ b e0, T = 38 ∧ x = .pointer (some ⟨b, 0, none⟩) ∧ w2.heap[b]? = some (Obj.cells #[.string (l.getD (2 * k) ByteArray.empty), .string (l.getD (2 * k + 1) ByteArray.empty), e0] 42 (0, 0)) ∧ Chain w2 e0 n (pairs l k) := by
    have := hch.out
    rw [h0.out] at this
    cases this with
    | wrap b _ _ e0 _ _ hb hn => exact ⟨b, e0, rfl, rfl, hb, hn⟩
  have HKb := Lib.hid hblk0
  have HN := Lib.hid hnx0
  clear hblk0 hnx0
  go_wp2_with fail
  refine (at_some _ _ _ _ _).mono ?_
  rintro e w3 ⟨rfl, hw3⟩
  have hd : Below w2.heap.size w2 w3 := by rw [hw3]; exact (Below.refl _ _).alloc (Nat.le_refl _) _
  have hk3 := Go.Deep.blk_alloc_new w2 (.cells #[.string op, .string path, .iface 38 (.pointer (some ⟨b, 0, none⟩))] 42)
  rw [← hw3] at hk3
  have HK3 := Lib.hid hk3
  clear hk3
  have HG3 := Lib.hid (HG2.out.on hd)
  have hch3 := Lib.hid (hch.out.on hd)
  have hcf3 := Lib.hid (Chain.wrap w2.heap.size op path _ n _ HK3.out hch3.out)
  have HB3 := below_on HB2 (Nat.le_refl _) hd
  have HKb3 := Lib.hid (keep_blk hd HKb.out)
  have HN3 := Lib.hid (HN.out.on hd)
  clear hd hw3
  go_wp2_with fail
  refine (ErrF.trail_c _ n _ _ hch3 HG3 (by rw [pairs_len]; omega)).mono ?_
  rw [pairs_len]
  rintro e w4 ⟨A4, cap4, rfl, hc4, hC4, hd⟩
  have HG4 := Lib.hid (HG3.out.on hd)
  have hcf4 := Lib.hid (hcf3.out.on hd)
  have HB4 := below_on HB3 (Nat.le_refl _) hd
  have HC4 := Lib.hid hC4
  have HD4 := Lib.hid hd
  clear hd hC4
  go_wp2_with fail
  refine (ErrF.trail_c _ n _ _ hcf4 HG4 (by rw [List.length_cons, pairs_len]; omega)).mono ?_
  rw [List.length_cons, pairs_len]
  rintro e w5 ⟨A5, cap5, rfl, hc5, hC5, hd⟩
  have HC4' := Lib.hid (Kd.C_below HC4.out hd)
  have HB5 := below_on HB4 (Nat.le_refl _) hd
  have HC5 := Lib.hid hC5
  have HD5 := below_on HD4 (Nat.le_refl _) hd
  have HK5 := Lib.hid (keep_blk HD5.out HK3.out)
  have hch5 := Lib.hid (hch3.out.on HD5.out)
  have HKb5 := Lib.hid (keep_blk HD5.out HKb3.out)
  have HN5 := Lib.hid (HN3.out.on HD5.out)
  clear hd hC5
  obtain ⟨ad5, rfl, x0⟩ := at_textN (by rw [List.length_map, List.length_cons, pairs_len]) HC5.out 0 (by omega)
  have x0' : w5.cell? ad5 = some (.string op) := by
    have h : w5.cell? (ad5.add 0) = some (.string op) := x0
    rwa [show ad5.add 0 = ad5 from by cases ad5; rfl] at h
  clear x0
  have hE := ferr_c n (pairs l K) op path w2.heap.size _ w5 HK5.out hch5.out HT.out
  rw [hr2.out] at hE
  go_wp2_with fail
  refine hE.mono ?_
  rintro e w6 ⟨rfl, hd⟩
  have HC4'' := Lib.hid (Kd.C_below HC4'.out hd)
  have HC6 := Lib.hid (Kd.C_below HC5.out hd)
  have HB6 := below_on HB5 (Nat.le_refl _) hd
  have hE2 := ferr_c n (pairs l k) _ _ b e0 w6 (keep_blk hd HKb5.out) (HN5.out.on hd) (by have := tot_le hz.out (k + 1); simp only [pairs] at this; have h0' := h0.out; omega)
  rw [show (l.getD (2 * k) ByteArray.empty, l.getD (2 * k + 1) ByteArray.empty) :: pairs l k = pairs l K by rw [h0.out]; rfl, hs.out] at hE2
  clear hd hE
  go_wp2_with fail
  refine hE2.mono ?_
  clear hE2
  rintro e w7 ⟨rfl, hd⟩
  have HC47 := Lib.hid (Kd.C_below HC4''.out hd)
  have HC7 := Lib.hid (Kd.C_below HC6.out hd)
  have HB7 := below_on HB6 (Nat.le_refl _) hd
  clear hd hch
  have her' := HER.out
  go_wp2_with fail
  go_loopg [13] K (fun kq v0 w' => ∃ (i : Nat), v0 = .int .i64 (i : Int) ∧ kq + i = K ∧ Hid (Below w7.heap.size w7 w'))
  case atStart => exact ⟨0, rfl, by omega, Lib.hid (by repeat (first | exact Below.refl _ _ | apply pw_below_drewN | apply below_drew1))⟩
  case round =>
    obtain ⟨i, rfl, hk, HBL⟩ := hrel
    cases gk with
    | zero =>
      obtain rfl : i = K := by omega
      have c2 : decide ((i : Int) < (i : Int)) = false := decide_eq_false (by omega)
      go_wp2_with fail
      go_ret
      exact ⟨rfl, HB7.out.trans (HBL.out.mono HB7.out.size)⟩
    | succ k1 =>
      have c2 : decide ((i : Int) < (K : Int)) = true := decide_eq_true (by omega)
      have q5 : IntKind.i64.wrap ((i : Int) + 1) = (i : Int) + 1 := IntWalk.i64_in _ (by omega)
      obtain ⟨ad4, rfl, x1⟩ := at_textN (by rw [List.length_map, pairs_len]) HC47.out i (by omega)
      obtain ⟨ad5', e5, x2⟩ := at_textN (by rw [List.length_map, List.length_cons, pairs_len]) HC7.out (i + 1) (by omega)
      obtain rfl : ad5 = ad5' := by injection e5
      clear e5
      rw [List.map_cons, List.getD_cons_succ] at x2
      replace x1 := (HBL.out.cell (World.block_lt_of_cell? _ _ x1)).trans x1
      replace x2 := (HBL.out.cell (World.block_lt_of_cell? _ _ x2)).trans x2
      obtain ⟨tx, htx⟩ : ∃ tx, ((pairs l K).map Prod.fst).getD i ByteArray.empty = tx := ⟨_, rfl⟩
      rw [htx] at x1 x2
      clear htx
      have p1 : (0 ≤ (i : Int)) = True := eq_true (by omega)
      have p2 : ((i : Int) < (K : Int)) = True := eq_true (by omega)
      have p3 : (0 ≤ (i : Int) + 1) = True := eq_true (by omega)
      have p4 : ((i : Int) + 1 < (K : Int) + 1) = True := eq_true (by omega)
      obtain ⟨i1, hi1⟩ : ∃ j, j = i + 1 := ⟨_, rfl⟩
      have n1 : ((i : Int) + 1).toNat = i1 := by omega
      rw [← hi1] at x2
      clear hi1
      go_wp2_with fail
      repeat (go_quiet (fail); try go_wp2)
      go_roundg k1
      case measure => exact Nat.lt_succ_self _
      case rel => exact ⟨i + 1, by simp, by omega, Lib.hid (by repeat (first | exact HBL.out | apply pw_below_drewN | apply below_drew1))⟩
theorem walk (n : Int) (A : Option Addr) (len cap : Nat) (l : List ByteArray) (op path : ByteArray) (w : World) (hn : (Lit.int .i64 n).wf = true) (hl : l.length = len) (hc : len ≤ cap) (hr : Kd.C Kd.string w A len l) (hz : ∀ x ∈ l, x.size ≤ 140737488351232) (hzo : op.size ≤ 140737488351232) (hzp : path.size ≤ 140737488351232) (hg : Hid (Laid w)) :
    Calls Tryd.prog 4 #[.int .i64 n, .slice A len cap, .string op, .string path] w fun e w' => e = .returned (.bool true) ∧ Below w.heap.size w w' := by
  subst hl
  by_cases h : l.length ≤ 40
  · cases hK : l.length / 2 with
    | zero => exact few_base n A cap l op path w 0 rfl hK hr hc h hz hzo hzp _ _ rfl rfl hg
    | succ k => exact few_wrap n A cap l op path w (k + 1) k rfl hK hr hc h hz hzo hzp _ _ rfl rfl hg
  · exact many n A l.length cap op path w (by omega) hg
end Go.Proofs.YtmccdopagidfnaaDoor.RowFailTrails
