/- SpaceFills, the walk. -/
import Derived.Test.YtnpndfcghfoofaaDoorMark
import Derived.Test.YtnpndfcghfoofaaDoorErr1
set_option linter.unusedVariables false
namespace Go.Proofs.YtnpndfcghfoofaaDoor.RowSpaceFills
open Go.RowKit Go.Proofs.YtnpndfcghfoofaaDoor.PSpaceFills Go.Proofs.YtnpndfcghfoofaaDoorW.PrintWords Go.Proofs.YtnpndfcghfoofaaDoorW.PrintLast Go.Proofs.YtnpndfcghfoofaaDoorW.PrintMore Go.Proofs.YtnpndfcghfoofaaDoor.SpM Go.Proofs.YtnpndfcghfoofaaDoor.SpC Go.Proofs.YtnpndfcghfoofaaDoor.SpK
open Go.Proofs.YtnpndfcghfoofaaDoor.Err (Laid code_nil)
theorem awake_c (w : World) : Calls Tryd.prog 6 #[] w fun e w' => e = .returned (.bool true) ∧ Below w.heap.size w w' := by
  refine shalelaw06_awake.calls 4 true w ?_
  unfold shalelaw06_awake.f
  exact bnd (first_at [true, false, false] 2 (by decide)) (itp (by decide) (by decide))
theorem free_set (xs : List Bool) (q : Nat) (hq : q < xs.length) (hf : xs.getD q true = false) : ∀ L, (L ≤ q → free (xs.set q true) L = free xs L) ∧ (q < L → free (xs.set q true) L + 1 = free xs L)
  | 0 => ⟨fun _ => rfl, fun h => by omega⟩
  | L + 1 => by
    obtain ⟨i1, i2⟩ := free_set xs q hq hf L
    have hne : L ≠ q → (xs.set q true).getD L true = xs.getD L true := fun h => by
      rw [List.getD_eq_getElem?_getD, List.getD_eq_getElem?_getD, List.getElem?_set_ne (by omega)]
    refine ⟨fun h => ?_, fun h => ?_⟩
    · simp only [free]
      rw [hne (by omega), i1 (by omega)]
    · simp only [free]
      by_cases e : L = q
      · subst e
        have h1 : (xs.set L true).getD L true = true := by rw [List.getD_eq_getElem?_getD, List.getElem?_set_self hq]; rfl
        rw [h1, hf, i1 (by omega)]
        simp
        omega
      · rw [hne e]
        have := i2 (by omega)
        omega
theorem free_marked (xs : List Bool) (a : Nat) : ∀ n, a + n ≤ xs.length → (∀ j, a ≤ j → j < a + n → xs.getD j true = false) → free (marked xs a n) xs.length + n = free xs xs.length
  | 0, _, _ => rfl
  | n + 1, h, hf => by
    have ih := free_marked xs a n (by omega) (fun j h1 h2 => hf j h1 (by omega))
    have hl := marked_len xs a n
    have hs := (free_set (marked xs a n) (a + n) (by omega) (by rw [marked_at _ _ _ _ (by omega)]; exact hf _ (by omega) (by omega)) xs.length).2 (by omega)
    simp only [marked]
    omega
theorem below_to {B : Nat} {w w1 w2 : World} (h : Hid (Below B w w1)) (hB : B ≤ w.heap.size) (k : Below w1.heap.size w1 w2) : Hid (Below B w w2) :=
  h.out.trans (k.mono (Nat.le_trans hB h.out.size))
theorem free_v (xs : List Bool) (F : Int) (A : Option Addr) (N c : Nat) (w : World) (hN : xs.length = N) (hl : N ≤ 200) (hc : N ≤ c) (h : Hid (Kd.C Kd.bool w A N xs)) (hF : Hid ((free xs N : Int) = F)) :
    Calls Tryd.prog 7 #[.slice A N c] w fun e w' => e = .returned (.int .i64 F) ∧ Below w.heap.size w w' := by
  subst hN
  refine (free_c xs A c w (by omega) hc h.out).mono ?_
  rintro e w' ⟨rfl, hd⟩
  exact ⟨by rw [hF.out], hd.below⟩
theorem first_v (xs : List Bool) (n p : Int) (b : Bool) (A : Option Addr) (N c : Nat) (w : World) (hN : xs.length = N) (hl : N ≤ 200) (hc : N ≤ c) (h : Hid (Kd.C Kd.bool w A N xs)) (hF : Hid (find xs n N 0 = (p, b))) :
    Calls Tryd.prog 8 #[.slice A N c, .int .i64 n] w fun e w' => e = .returned (.tuple #[.int .i64 p, .bool b]) ∧ Below w.heap.size w w' := by
  subst hN
  refine (first_c xs n A c w (by omega) hc h.out).mono ?_
  rintro e w' ⟨rfl, hd⟩
  exact ⟨by rw [hF.out], hd.below⟩
theorem longest_v (xs : List Bool) (L : Int) (A : Option Addr) (N c : Nat) (w : World) (hN : xs.length = N) (hl : N ≤ 200) (hc : N ≤ c) (h : Hid (Kd.C Kd.bool w A N xs)) (hF : Hid ((best xs N : Int) = L)) :
    Calls Tryd.prog 9 #[.slice A N c] w fun e w' => e = .returned (.int .i64 L) ∧ Below w.heap.size w w' := by
  subst hN
  refine (longest_c xs A c w (by omega) hc h.out).mono ?_
  rintro e w' ⟨rfl, hd⟩
  exact ⟨by rw [hF.out], hd⟩
theorem mark_v (xs : List Bool) (a n : Nat) (A : Option Addr) (N c : Nat) (w : World) (hN : xs.length = N) (hl : N ≤ 200) (hc : N ≤ c) (h : Hid (Kd.C Kd.bool w A N xs)) (h1 : 1 ≤ n) (hn : a + n ≤ N) (hf : Hid (∀ j, a ≤ j → j < a + n → xs.getD j true = false)) :
    Calls Tryd.prog 10 #[.slice A N c, .int .i64 (a : Int), .int .i64 (n : Int), .bool true] w fun e w' => ∃ A' c', e = .returned (.tuple #[.slice A' N c', .nilIface]) ∧ N ≤ c' ∧ Hid (Kd.C Kd.bool w' A' N (marked xs a n)) ∧ Below w.heap.size w w' := by
  subst hN
  exact mark_c xs a n A c w hl hc h h1 hn hf
theorem at_num {w : World} {A : Option Addr} {l : List Int} (h : Kd.C (Kd.int .u8) w A l.length l) (i : Nat) (hi : i < l.length) : ∃ ad, A = some ad ∧ w.cell? (ad.add i) = some (.int .u8 (l.getD i 0)) := by
  obtain ⟨_, _, h3⟩ := h
  obtain ⟨ad, e, hx⟩ := h3 (by omega)
  obtain ⟨cs, h1, h2, h4⟩ := hx i (l.getD i 0) (by rw [List.getD_eq_getElem?_getD, List.getElem?_eq_getElem hi]; rfl)
  have h2' : cs = [.int .u8 (l.getD i 0)] := h2
  subst h2'
  have := h4 0 _ rfl
  exact ⟨ad, e, by simpa [Kd.int, Kd.scalar] using this⟩
set_option maxHeartbeats 4000000 in
set_option maxRecDepth 100000 in
theorem many (A B : Option Addr) (n c m d : Nat) (w : World) (hl : 200 < n ∨ (n ≤ 200 ∧ 60 < m)) :
    Calls Tryd.prog 3 #[.slice A n c, .slice B m d] w fun e w' => e = .returned (.bool true) ∧ Below w.heap.size w w' := by
  rcases hl with h | ⟨h, h'⟩
  · have c1 : decide ((200 : Int) < (n : Int)) = true := decide_eq_true (by omega)
    have c2 : decide (200 < n) = true := decide_eq_true (by omega)
    go_enter Tryd.func3, Tryd.ntmps3
    go_wp2_with fail
    refine (awake_c _).mono ?_
    rintro e w1 ⟨rfl, hd⟩
    have HB1 := Lib.hid hd
    clear hd
    go_wp2_with fail
    refine (awake_c _).mono ?_
    rintro e w2 ⟨rfl, hd⟩
    have HB2 := below_to HB1 (Nat.le_refl _) hd
    clear hd
    go_wp2_with fail
    go_ret
    exact ⟨rfl, HB2.out⟩
  · have c1 : decide ((200 : Int) < (n : Int)) = false := decide_eq_false (by omega)
    have c2 : decide (200 < n) = false := decide_eq_false (by omega)
    have c3 : decide ((60 : Int) < (m : Int)) = true := decide_eq_true (by omega)
    have c4 : decide (60 < m) = true := decide_eq_true (by omega)
    go_enter Tryd.func3, Tryd.ntmps3
    go_wp2_with fail
    refine (awake_c _).mono ?_
    rintro e w1 ⟨rfl, hd⟩
    have HB1 := Lib.hid hd
    clear hd
    go_wp2_with fail
    refine (awake_c _).mono ?_
    rintro e w2 ⟨rfl, hd⟩
    have HB2 := below_to HB1 (Nat.le_refl _) hd
    clear hd
    go_wp2_with fail
    go_ret
    exact ⟨rfl, HB2.out⟩
set_option maxHeartbeats 8000000 in
set_option maxRecDepth 100000 in
theorem few (A B : Option Addr) (c N d : Nat) (xs : List Bool) (zs : List Int) (w : World) (hN : xs.length = N) (hl : N ≤ 200) (hc : N ≤ c) (h : Hid (Kd.C Kd.bool w A N xs)) (hz : zs.length ≤ 60) (hd : zs.length ≤ d) (hB : Hid (Kd.C (Kd.int .u8) w B zs.length zs)) (hzb : Hid (∀ z ∈ zs, (Lit.int .u8 z).wf = true)) :
    Calls Tryd.prog 3 #[.slice A N c, .slice B zs.length d] w fun e w' => e = .returned (.bool true) ∧ Below w.heap.size w w' := by
  have c1 : decide ((200 : Int) < (N : Int)) = false := decide_eq_false (by omega)
  have c2 : decide (200 < N) = false := decide_eq_false (by omega)
  have c3 : decide ((60 : Int) < (zs.length : Int)) = false := decide_eq_false (by omega)
  have c4 : decide (60 < zs.length) = false := decide_eq_false (by omega)
  go_enter Tryd.func3, Tryd.ntmps3
  go_wp2_with fail
  refine (awake_c _).mono ?_
  rintro e w1 ⟨rfl, hd1⟩
  have HB1 := Lib.hid hd1
  have h' := Lib.hid (Kd.C_below h.out hd1)
  clear hd1
  go_wp2_with fail
  go_loopg [5, 6] zs.length (fun kq v0 v1 w' => ∃ (i : Nat) (A' : Option Addr) (c' : Nat) (ys : List Bool), v0 = .slice A' N c' ∧ v1 = .int .i64 (i : Int) ∧ kq + i = zs.length ∧ ys.length = N ∧ N ≤ c' ∧ Hid (Kd.C Kd.bool w' A' N ys) ∧ Hid (Below w.heap.size w w'))
  case atStart => exact ⟨0, A, c, xs, rfl, rfl, by omega, hN, hc, h', HB1⟩
  case round =>
    clear HB1 h' h hc hN
    obtain ⟨i, A', c', ys, rfl, rfl, hk, hy, hc', HC, HB⟩ := hrel
    cases gk with
    | zero =>
      obtain rfl : i = zs.length := by omega
      have c5 : decide ((zs.length : Int) < (zs.length : Int)) = false := decide_eq_false (by omega)
      go_wp2_with fail
      go_ret
      exact ⟨rfl, HB.out⟩
    | succ k1 =>
      have c5 : decide ((i : Int) < (zs.length : Int)) = true := decide_eq_true (by omega)
      have q5 : IntKind.i64.wrap ((i : Int) + 1) = (i : Int) + 1 := IntWalk.i64_in _ (by omega)
      obtain ⟨ad, rfl, x1⟩ := at_num hB.out i (by omega)
      replace x1 := (HB.out.cell (World.block_lt_of_cell? w _ x1)).trans x1
      have hzi := hzb.out (zs.getD i 0) (by rw [List.getD_eq_getElem?_getD, List.getElem?_eq_getElem (by omega)]; exact List.getElem_mem _)
      obtain ⟨z, hze⟩ : ∃ z, zs.getD i 0 = z := ⟨_, rfl⟩
      rw [hze] at x1 hzi
      clear hze
      have hz' : 0 ≤ z ∧ z ≤ 255 := by
        simp [Lit.wf, IntKind.min, IntKind.max, IntKind.bits, IntKind.signed] at hzi
        omega
      clear hzi
      obtain ⟨m, hm⟩ := Int.eq_ofNat_of_zero_le (show 0 ≤ 1 + z % 7 by omega)
      have hm1 : 1 ≤ m := by omega
      have hm7 : m ≤ 7 := by omega
      have hz0 := hz'.1
      have hz1 := hz'.2
      clear hz'
      have p1 : (0 ≤ (i : Int)) = True := eq_true (by omega)
      have p2 : ((i : Int) < (zs.length : Int)) = True := eq_true (by omega)
      have hfr := find_least ys m hm1
      rw [hy] at hfr
      rcases hfr with ⟨j, hj1, hj2, hj3, _, hj5, _⟩ | ⟨g1, _, g3⟩
      · obtain ⟨a, ha⟩ : ∃ a : Nat, a = j + 1 - m := ⟨_, rfl⟩
        rw [show ((j : Int) - (m : Int) + 1) = (a : Int) by omega] at hj3
        have HFi := Lib.hid hj3
        have hfree : ∀ q, a ≤ q → q < a + m → ys.getD q true = false := fun q h1 h2 => run_free ys (j + 1) q (by omega) (by omega)
        have hFm := free_marked ys a m (by omega) hfree
        rw [hy] at hFm
        have HFr := Lib.hid hfree
        have han : a + m ≤ N := by omega
        obtain ⟨F, hF⟩ : ∃ F : Int, (free ys N : Int) = F := ⟨_, rfl⟩
        obtain ⟨F2, hF2⟩ : ∃ F2 : Int, (free (marked ys a m) N : Int) = F2 := ⟨_, rfl⟩
        have hle := free_le ys N
        have t1 : F - (m : Int) = F2 := by omega
        have t2 : IntKind.i64.wrap F2 = F2 := IntWalk.i64_in _ (by omega)
        have HF := Lib.hid hF
        have HF2 := Lib.hid hF2
        clear hfree hFm hj1 hj2 hj3 hj5 ha hF hF2 hle
        go_wp2_with fail
        refine (free_v ys F A' N c' _ hy hl hc' HC HF).mono ?_
        rintro e w3 ⟨rfl, hd3⟩
        have HC3 := Lib.hid (Kd.C_below HC.out hd3)
        have HB3 := below_to HB (Nat.le_refl _) hd3
        clear hd3
        go_wp2_with fail
        refine (first_v ys m a true A' N c' _ hy hl hc' HC3 HFi).mono ?_
        rintro e w4 ⟨rfl, hd3⟩
        have HC4 := Lib.hid (Kd.C_below HC3.out hd3)
        have HB4 := below_to HB3 (Nat.le_refl _) hd3
        clear hd3
        go_wp2_with fail
        refine (mark_v ys a m A' N c' _ hy hl hc' HC4 hm1 han HFr).mono ?_
        rintro e w5 ⟨A5, c5', rfl, hc5, HC5, hd3⟩
        have HB5 := below_to HB4 (Nat.le_refl _) hd3
        clear hd3
        go_wp2_with fail
        refine (code_nil _).mono ?_
        rintro e w6 ⟨rfl, hd3⟩
        have HC6 := Lib.hid (Kd.C_below HC5.out hd3)
        have HB6 := below_to HB5 (Nat.le_refl _) hd3
        clear hd3
        go_wp2_with fail
        refine (free_v (marked ys a m) F2 A5 N c5' _ (by rw [marked_len]; exact hy) hl hc5 HC6 HF2).mono ?_
        rintro e w7 ⟨rfl, hd3⟩
        have HC7 := Lib.hid (Kd.C_below HC6.out hd3)
        have HB7 := below_to HB6 (Nat.le_refl _) hd3
        clear hd3
        go_wp2_with fail
        go_roundg k1
        case measure => exact Nat.lt_succ_self _
        case rel => exact ⟨i + 1, A5, c5', marked ys a m, rfl, by simp, by omega, by rw [marked_len]; exact hy, hc5, HC7, HB7⟩
      · have HFi := Lib.hid g1
        obtain ⟨L, hL⟩ : ∃ L : Int, (best ys N : Int) = L := ⟨_, rfl⟩
        have t1 : decide ((m : Int) ≤ L) = false := decide_eq_false (by
          obtain ⟨q, hq1, hq2⟩ := best_run ys N
          have := g3 q hq1
          omega)
        have HL := Lib.hid hL
        clear g1 g3 hL
        go_wp2_with fail
        refine (free_v ys _ A' N c' _ hy hl hc' HC rfl).mono ?_
        rintro e w3 ⟨rfl, hd3⟩
        have HC3 := Lib.hid (Kd.C_below HC.out hd3)
        have HB3 := below_to HB (Nat.le_refl _) hd3
        clear hd3
        go_wp2_with fail
        refine (first_v ys m 0 false A' N c' _ hy hl hc' HC3 HFi).mono ?_
        rintro e w4 ⟨rfl, hd3⟩
        have HC4 := Lib.hid (Kd.C_below HC3.out hd3)
        have HB4 := below_to HB3 (Nat.le_refl _) hd3
        clear hd3
        go_wp2_with fail
        refine (longest_v ys L A' N c' _ hy hl hc' HC4 HL).mono ?_
        rintro e w5 ⟨rfl, hd3⟩
        have HC5 := Lib.hid (Kd.C_below HC4.out hd3)
        have HB5 := below_to HB4 (Nat.le_refl _) hd3
        clear hd3
        go_wp2_with fail
        go_roundg k1
        case measure => exact Nat.lt_succ_self _
        case rel => exact ⟨i + 1, A', c', ys, rfl, by simp, by omega, hy, hc', HC5, HB5⟩
theorem walk (A : Option Addr) (n c : Nat) (xs : List Bool) (B : Option Addr) (m d : Nat) (zs : List Int) (w : World) (hn : xs.length = n) (hc : n ≤ c) (h : Kd.C Kd.bool w A n xs) (hm : zs.length = m) (hd : m ≤ d) (hB : Kd.C (Kd.int .u8) w B m zs) (hzb : ∀ z ∈ zs, (Lit.int .u8 z).wf = true) (hg : Hid (Laid w)) :
    Calls Tryd.prog 3 #[.slice A n c, .slice B m d] w fun e w' => e = .returned (.bool true) ∧ Below w.heap.size w w' := by
  subst hm
  by_cases h1 : n ≤ 200
  · by_cases h2 : zs.length ≤ 60
    · exact few A B c n d xs zs w hn h1 hc h h2 hd hB hzb
    · exact many A B n c _ d w (.inr ⟨h1, by omega⟩)
  · exact many A B n c _ d w (.inl (by omega))
end Go.Proofs.YtnpndfcghfoofaaDoor.RowSpaceFills
