/- SpaceRuns, the walk: the call returns true and leaves what there was as it was; for every list of places and every number. -/
import Derived.Test.YtnpndfcghfoofaaSpaceCalls
namespace Go.Proofs.Ytnpndfcghfoofaa.RowSpaceRuns
open Go.RowKit Go.Proofs.Ytnpndfcghfoofaa.PSpaceRuns Go.Proofs.YtnpndfcghfoofaaW.PrintWords Go.Proofs.YtnpndfcghfoofaaW.PrintLast Go.Proofs.YtnpndfcghfoofaaW.PrintMore Go.Proofs.Ytnpndfcghfoofaa.SpM Go.Proofs.Ytnpndfcghfoofaa.SpC
theorem first_a (xs : List Bool) (n p : Int) (b : Bool) (A : Option Addr) (c : Nat) (w0 w : World) (hl : xs.length ≤ 1000000000) (hc : xs.length ≤ c) (h : Hid (Kd.C Kd.bool w0 A xs.length xs)) (hb : Hid (Below w0.heap.size w0 w)) (hf : Hid (find xs n xs.length 0 = (p, b))) :
    Calls Try.prog 17 #[.slice A xs.length c, .int .i64 n] w fun e w' => e = .returned (.tuple #[.int .i64 p, .bool b]) ∧ Drawn0 w w' := by
  have k := first_c xs n A c w hl hc (Kd.C_below h.out hb.out)
  rw [hf.out] at k
  exact k
theorem least_a (xs : List Bool) (n p : Int) (A : Option Addr) (c : Nat) (w0 w : World) (hn : 0 ≤ n) (hl : xs.length ≤ 1000000000) (hc : xs.length ≤ c) (h : Hid (Kd.C Kd.bool w0 A xs.length xs)) (hb : Hid (Below w0.heap.size w0 w)) (hf : Hid (least xs n.toNat xs.length 0 = p)) :
    Calls Try.prog 24 #[.slice A xs.length c, .int .i64 n] w fun e w' => e = .returned (.int .i64 p) ∧ Drawn0 w w' := by
  have k := least_c xs n.toNat A c w hl hc (Kd.C_below h.out hb.out)
  rw [hf.out, show ((n.toNat : Nat) : Int) = n by omega] at k
  exact k
theorem longest_a (xs : List Bool) (L : Int) (A : Option Addr) (c : Nat) (w0 w : World) (hl : xs.length ≤ 1000000000) (hc : xs.length ≤ c) (h : Hid (Kd.C Kd.bool w0 A xs.length xs)) (hb : Hid (Below w0.heap.size w0 w)) (hf : Hid ((best xs xs.length : Int) = L)) :
    Calls Try.prog 23 #[.slice A xs.length c] w fun e w' => e = .returned (.int .i64 L) ∧ Below w.heap.size w w' := by
  have k := longest_c xs A c w hl hc (Kd.C_below h.out hb.out)
  rw [hf.out] at k
  exact k
theorem free_a (xs : List Bool) (L : Int) (A : Option Addr) (c : Nat) (w0 w : World) (hl : xs.length ≤ 1000000000) (hc : xs.length ≤ c) (h : Hid (Kd.C Kd.bool w0 A xs.length xs)) (hb : Hid (Below w0.heap.size w0 w)) (hf : Hid ((free xs xs.length : Int) = L)) :
    Calls Try.prog 25 #[.slice A xs.length c] w fun e w' => e = .returned (.int .i64 L) ∧ Drawn0 w w' := by
  have k := free_c xs A c w hl hc (Kd.C_below h.out hb.out)
  rw [hf.out] at k
  exact k
set_option maxHeartbeats 2000000 in
set_option maxRecDepth 100000 in
theorem runs_long (xs : List Bool) (n : Int) (A : Option Addr) (c : Nat) (w : World) (hl : 200 < xs.length) :
    Calls Try.prog 10 #[.slice A xs.length c, .int .i64 n] w fun e w' => e = .returned (.bool true) ∧ Below w.heap.size w w' := by
  have c1 : decide ((200 : Int) < (xs.length : Int)) = true := decide_eq_true (by omega)
  have c2 : decide (200 < xs.length) = true := decide_eq_true (by omega)
  go_enter Try.func10, Try.ntmps10
  go_wp2_with fail
  refine (awake_c _).mono ?_
  rintro e w1 ⟨rfl, hd⟩
  have HB1 := Lib.hid hd
  clear hd
  go_wp2_with fail
  refine (awake_c _).mono ?_
  rintro e w2 ⟨rfl, hd⟩
  have HB2 := below_on HB1 (Nat.le_refl _) hd
  clear hd
  go_wp2_with fail
  go_ret
  exact ⟨rfl, HB2.out⟩
set_option maxHeartbeats 2000000 in
set_option maxRecDepth 100000 in
/-- A number below 1. -/
theorem runs_low (xs : List Bool) (n L F : Int) (A : Option Addr) (c : Nat) (w : World) (hl : xs.length ≤ 200) (hc : xs.length ≤ c) (h : Hid (Kd.C Kd.bool w A xs.length xs)) (hn : n < 1)
    (hf : Hid (find xs n xs.length 0 = (0, false))) (hL : Hid ((best xs xs.length : Int) = L)) (hF : Hid ((free xs xs.length : Int) = F)) (hLF : decide (L ≤ F) = true) :
    Calls Try.prog 10 #[.slice A xs.length c, .int .i64 n] w fun e w' => e = .returned (.bool true) ∧ Below w.heap.size w w' := by
  have c1 : decide ((200 : Int) < (xs.length : Int)) = false := decide_eq_false (by omega)
  have c2 : decide (200 < xs.length) = false := decide_eq_false (by omega)
  have c3 : decide ((1 : Int) ≤ n) = false := decide_eq_false (by omega)
  have c4 : decide (n < (1 : Int)) = true := decide_eq_true (by omega)
  go_enter Try.func10, Try.ntmps10
  go_wp2_with fail
  refine (awake_c _).mono ?_
  rintro e w1 ⟨rfl, hd⟩
  have HB1 := Lib.hid hd
  clear hd
  go_wp2_with fail
  refine (first_a xs n 0 false A c w _ (by omega) hc h HB1 hf).mono ?_
  rintro e w2 ⟨rfl, hd⟩
  have HB2 := below_on HB1 (Nat.le_refl _) hd.below
  clear hd
  go_wp2_with fail
  refine (longest_a xs L A c w _ (by omega) hc h HB2 hL).mono ?_
  rintro e w3 ⟨rfl, hd⟩
  have HB3 := below_on HB2 (Nat.le_refl _) hd
  clear hd
  go_wp2_with fail
  refine (free_a xs F A c w _ (by omega) hc h HB3 hF).mono ?_
  rintro e w4 ⟨rfl, hd⟩
  have HB4 := below_on HB3 (Nat.le_refl _) hd.below
  clear hd
  go_wp2_with fail
  go_ret
  exact ⟨rfl, HB4.out⟩
set_option maxHeartbeats 2000000 in
set_option maxRecDepth 100000 in
/-- A number from 1 on; b: is there a run? -/
theorem runs_high (xs : List Bool) (n p q L F : Int) (b : Bool) (A : Option Addr) (c : Nat) (w : World) (hl : xs.length ≤ 200) (hc : xs.length ≤ c) (h : Hid (Kd.C Kd.bool w A xs.length xs)) (hn : 1 ≤ n)
    (hf : Hid (find xs n xs.length 0 = (p, b))) (hw : Hid (least xs n.toNat xs.length 0 = q)) (hL : Hid ((best xs xs.length : Int) = L)) (hF : Hid ((free xs xs.length : Int) = F)) (hLF : decide (L ≤ F) = true)
    (hq : decide (0 ≤ q) = b) (hpq : b = true → p = q) (hp0 : b = false → p = 0) (hnL : decide (n ≤ L) = b) :
    Calls Try.prog 10 #[.slice A xs.length c, .int .i64 n] w fun e w' => e = .returned (.bool true) ∧ Below w.heap.size w w' := by
  have c1 : decide ((200 : Int) < (xs.length : Int)) = false := decide_eq_false (by omega)
  have c2 : decide (200 < xs.length) = false := decide_eq_false (by omega)
  have c3 : decide ((1 : Int) ≤ n) = true := decide_eq_true (by omega)
  have c4 : decide (n < (1 : Int)) = false := decide_eq_false (by omega)
  cases b with
  | true =>
    obtain rfl := hpq rfl
    clear hpq hp0
    go_enter Try.func10, Try.ntmps10
    go_wp2_with fail
    refine (awake_c _).mono ?_
    rintro e w1 ⟨rfl, hd⟩
    have HB1 := Lib.hid hd
    clear hd
    go_wp2_with fail
    refine (first_a xs n p true A c w _ (by omega) hc h HB1 hf).mono ?_
    rintro e w2 ⟨rfl, hd⟩
    have HB2 := below_on HB1 (Nat.le_refl _) hd.below
    clear hd
    go_wp2_with fail
    refine (longest_a xs L A c w _ (by omega) hc h HB2 hL).mono ?_
    rintro e w3 ⟨rfl, hd⟩
    have HB3 := below_on HB2 (Nat.le_refl _) hd
    clear hd
    go_wp2_with fail
    refine (least_a xs n p A c w _ (by omega) (by omega) hc h HB3 hw).mono ?_
    rintro e w4 ⟨rfl, hd⟩
    have HB4 := below_on HB3 (Nat.le_refl _) hd.below
    clear hd
    go_wp2_with fail
    refine (free_a xs F A c w _ (by omega) hc h HB4 hF).mono ?_
    rintro e w5 ⟨rfl, hd⟩
    have HB5 := below_on HB4 (Nat.le_refl _) hd.below
    clear hd
    go_wp2_with fail
    go_ret
    exact ⟨rfl, HB5.out⟩
  | false =>
    obtain rfl := hp0 rfl
    clear hpq hp0
    go_enter Try.func10, Try.ntmps10
    go_wp2_with fail
    refine (awake_c _).mono ?_
    rintro e w1 ⟨rfl, hd⟩
    have HB1 := Lib.hid hd
    clear hd
    go_wp2_with fail
    refine (first_a xs n 0 false A c w _ (by omega) hc h HB1 hf).mono ?_
    rintro e w2 ⟨rfl, hd⟩
    have HB2 := below_on HB1 (Nat.le_refl _) hd.below
    clear hd
    go_wp2_with fail
    refine (longest_a xs L A c w _ (by omega) hc h HB2 hL).mono ?_
    rintro e w3 ⟨rfl, hd⟩
    have HB3 := below_on HB2 (Nat.le_refl _) hd
    clear hd
    go_wp2_with fail
    refine (least_a xs n q A c w _ (by omega) (by omega) hc h HB3 hw).mono ?_
    rintro e w4 ⟨rfl, hd⟩
    have HB4 := below_on HB3 (Nat.le_refl _) hd.below
    clear hd
    go_wp2_with fail
    refine (free_a xs F A c w _ (by omega) hc h HB4 hF).mono ?_
    rintro e w5 ⟨rfl, hd⟩
    have HB5 := below_on HB4 (Nat.le_refl _) hd.below
    clear hd
    go_wp2_with fail
    go_ret
    exact ⟨rfl, HB5.out⟩
theorem walk (A : Option Addr) (len c : Nat) (xs : List Bool) (n : Int) (w : World) (hlen : xs.length = len) (hc : len ≤ c) (h : Kd.C Kd.bool w A len xs) (_hn : (Lit.int .i64 n).wf = true) :
    Calls Try.prog 10 #[.slice A len c, .int .i64 n] w fun e w' => e = .returned (.bool true) ∧ Below w.heap.size w w' := by
  subst hlen
  by_cases hl : 200 < xs.length
  · exact runs_long xs n A c w hl
  · have hLF := best_le_free xs xs.length
    have hd : decide ((best xs xs.length : Int) ≤ (free xs xs.length : Int)) = true := decide_eq_true (by omega)
    by_cases hn : n < 1
    · exact runs_low xs n _ _ A c w (by omega) hc h hn (find_none xs n hn _ _) rfl rfl hd
    · obtain ⟨m, rfl⟩ := Int.eq_ofNat_of_zero_le (show 0 ≤ n by omega)
      rcases find_least xs m (by omega) with ⟨j, h1, h2, h3, h4, h5, h6⟩ | ⟨h1, h2, h3⟩
      · refine runs_high xs m _ _ _ _ true A c w (by omega) hc h (by omega) h3 h4 rfl rfl hd (decide_eq_true (by omega)) (fun _ => rfl) (fun h => by cases h) ?_
        have := run_best xs xs.length (j + 1) (by omega)
        exact decide_eq_true (by omega)
      · refine runs_high xs m _ _ _ _ false A c w (by omega) hc h (by omega) h1 h2 rfl rfl hd (by decide) (fun h => by cases h) (fun _ => rfl) ?_
        obtain ⟨j, hj, hr⟩ := best_run xs xs.length
        have := h3 j hj
        exact decide_eq_false (by omega)
end Go.Proofs.Ytnpndfcghfoofaa.RowSpaceRuns
