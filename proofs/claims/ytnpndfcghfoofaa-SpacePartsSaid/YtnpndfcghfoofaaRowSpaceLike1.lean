/- SpaceLike, the walk: the call returns true and leaves what there was as it was; for every two lists of places and every number. -/
import Derived.Test.YtnpndfcghfoofaaRowSpaceRuns1
set_option linter.unusedVariables false
namespace Go.Proofs.Ytnpndfcghfoofaa.RowSpaceLike
open Go.RowKit Go.Proofs.Ytnpndfcghfoofaa.PSpaceRuns Go.Proofs.YtnpndfcghfoofaaW.PrintWords Go.Proofs.YtnpndfcghfoofaaW.PrintLast Go.Proofs.YtnpndfcghfoofaaW.PrintMore Go.Proofs.Ytnpndfcghfoofaa.SpM Go.Proofs.Ytnpndfcghfoofaa.SpC Go.Proofs.Ytnpndfcghfoofaa.RowSpaceRuns
theorem info4b : (Try.prog.info? 4).map (fun i => (i.zero, i.size, i.bytes)) = some (some (.bool false), 1, 1) := by kernel_rfl
/-- First over a row of the call's own -/
theorem first_o (ys : List Bool) (n p : Int) (b : Bool) (v : Value) (base : Nat) (ok : Nat → Prop) (w : World) (hl : ys.length ≤ 1000000000) (h : Kd.R Kd.bool 4 w base ok v ys) (hf : Hid (find ys n ys.length 0 = (p, b))) :
    Calls Try.prog 17 #[v, .int .i64 n] w fun e w' => e = .returned (.tuple #[.int .i64 p, .bool b]) ∧ Drawn0 w w' := by
  obtain ⟨A, c, rfl, hc, hC⟩ := Kd.R_reads h
  exact first_a ys n p b A c w w hl hc hC (Below.refl _ _) hf
set_option maxHeartbeats 2000000 in
set_option maxRecDepth 100000 in
theorem like_long (xs ys : List Bool) (n : Int) (A B : Option Addr) (c d : Nat) (w : World) (hl : 200 < xs.length ∨ 200 < ys.length) :
    Calls Try.prog 6 #[.slice A xs.length c, .slice B ys.length d, .int .u8 n] w fun e w' => e = .returned (.bool true) ∧ Below w.heap.size w w' := by
  by_cases h1 : 200 < xs.length
  · have c1 : decide ((200 : Int) < (xs.length : Int)) = true := decide_eq_true (by omega)
    have c2 : decide (200 < xs.length) = true := decide_eq_true (by omega)
    clear hl
    go_enter Try.func6, Try.ntmps6
    go_wp2_with fail
    refine (awake_c _).mono ?_
    rintro e w1 ⟨rfl, hd⟩
    have HB1 := Lib.hid hd
    clear hd
    go_wp2_with fail
    refine (awake_c _).mono ?_
    rintro e w2 ⟨rfl, hd⟩
    have HB2 := below_on HB1 (Nat.le_refl _) hd
    clear hd
    go_wp2_with fail
    go_ret
    exact ⟨rfl, HB2.out⟩
  · have h2 : 200 < ys.length := by omega
    have c1 : decide ((200 : Int) < (xs.length : Int)) = false := decide_eq_false (by omega)
    have c2 : decide (200 < xs.length) = false := decide_eq_false (by omega)
    have c3 : decide ((200 : Int) < (ys.length : Int)) = true := decide_eq_true (by omega)
    have c4 : decide (200 < ys.length) = true := decide_eq_true (by omega)
    clear hl
    go_enter Try.func6, Try.ntmps6
    go_wp2_with fail
    refine (awake_c _).mono ?_
    rintro e w1 ⟨rfl, hd⟩
    have HB1 := Lib.hid hd
    clear hd
    go_wp2_with fail
    refine (awake_c _).mono ?_
    rintro e w2 ⟨rfl, hd⟩
    have HB2 := below_on HB1 (Nat.le_refl _) hd
    clear hd
    go_wp2_with fail
    go_ret
    exact ⟨rfl, HB2.out⟩
set_option maxHeartbeats 2000000 in
set_option maxRecDepth 100000 in
theorem like_none (xs ys : List Bool) (n k : Int) (A B : Option Addr) (c d : Nat) (w : World) (hl : xs.length ≤ 200) (hl2 : ys.length ≤ 200) (hc : xs.length ≤ c) (h : Hid (Kd.C Kd.bool w A xs.length xs)) (hn0 : 0 ≤ n) (hn1 : n ≤ 255) (hk : 1 + n % 9 = k)
    (hf : Hid (find xs k xs.length 0 = (0, false))) :
    Calls Try.prog 6 #[.slice A xs.length c, .slice B ys.length d, .int .u8 n] w fun e w' => e = .returned (.bool true) ∧ Below w.heap.size w w' := by
  have c1 : decide ((200 : Int) < (xs.length : Int)) = false := decide_eq_false (by omega)
  have c2 : decide (200 < xs.length) = false := decide_eq_false (by omega)
  have c3 : decide ((200 : Int) < (ys.length : Int)) = false := decide_eq_false (by omega)
  have c4 : decide (200 < ys.length) = false := decide_eq_false (by omega)
  go_enter Try.func6, Try.ntmps6
  go_wp2_with fail
  refine (awake_c _).mono ?_
  rintro e w1 ⟨rfl, hd⟩
  have HB1 := Lib.hid hd
  clear hd
  go_wp2_with fail
  refine (first_a xs k 0 false A c w _ (by omega) hc h HB1 hf).mono ?_
  rintro e w2 ⟨rfl, hd⟩
  have HB2 := below_on HB1 (Nat.le_refl _) hd.below
  clear hd
  go_wp2_with fail
  go_ret
  exact ⟨rfl, HB2.out⟩
set_option maxHeartbeats 4000000 in
set_option maxRecDepth 100000 in
theorem like_some (xs ys : List Bool) (n k p : Int) (q : Nat) (A B : Option Addr) (c d : Nat) (w : World) (hl : xs.length ≤ 200) (hl2 : ys.length ≤ 200) (hc : xs.length ≤ c) (h : Hid (Kd.C Kd.bool w A xs.length xs)) (hB : Hid (Kd.C Kd.bool w B ys.length ys)) (hn0 : 0 ≤ n) (hn1 : n ≤ 255) (hk : 1 + n % 9 = k)
    (hp0 : 0 ≤ p) (hp1 : p ≤ 200) (hk0 : 1 ≤ k) (hk1 : k ≤ 9) (hpk : p + k = (q : Int)) (hq : q ≤ xs.length)
    (hf : Hid (find xs k xs.length 0 = (p, true))) (hf2 : Hid (find ([] ++ xs.take q ++ ys) k ([] ++ xs.take q ++ ys).length 0 = (p, true))) :
    Calls Try.prog 6 #[.slice A xs.length c, .slice B ys.length d, .int .u8 n] w fun e w' => e = .returned (.bool true) ∧ Below w.heap.size w w' := by
  have c1 : decide ((200 : Int) < (xs.length : Int)) = false := decide_eq_false (by omega)
  have c2 : decide (200 < xs.length) = false := decide_eq_false (by omega)
  have c3 : decide ((200 : Int) < (ys.length : Int)) = false := decide_eq_false (by omega)
  have c4 : decide (200 < ys.length) = false := decide_eq_false (by omega)
  obtain ⟨i0, hi0, _, hsz0, _⟩ := info_parts info4b
  obtain ⟨hcut, hA, hC⟩ := print_take_of (P := Try.prog) Value.bool false 31 4 .i64 Try.underlying31 hi0 hsz0 A c xs (q : Int) (by omega) (by omega) hc
  rw [Int.toNat_natCast] at hcut hA hC
  have hlt : (xs.take q).length = q := by rw [List.length_take]; omega
  have hT := Kd.C_of_reads (h1 := fun _ => rfl) (hA w (Kd.reads_of_C h.out))
  rw [hlt] at hT hcut
  have HT : Hid (Kd.C Kd.bool w A q (xs.take q)) := hT
  have HL := Lib.hid hlt
  clear hT
  have HQ := Lib.hid hq
  clear hi0 hsz0 hA hC hlt
  go_enter Try.func6, Try.ntmps6
  go_wp2_with fail
  refine (awake_c _).mono ?_
  rintro e w1 ⟨rfl, hd⟩
  have HB1 := Lib.hid hd
  clear hd
  go_wp2_with fail
  refine (first_a xs k p true A c w _ (by omega) hc h HB1 hf).mono ?_
  rintro e w2 ⟨rfl, hd⟩
  have HB2 := below_on HB1 (Nat.le_refl _) hd.below
  clear hd
  go_wp2_with (first
    | ((with_reducible refine gate_dst (N := 38) rfl ?_); refine Kd.R_lit Kd.bool w.heap.size 4 rfl (w0 := w) (N := 38) rfl (xs := ([] : List Bool)) (inner := []) (ok := fun _ => True) (okp := fun _ => True) ?hr ?hp (fun _ hk => hk) trivial HB2.out HB2.out.size (by simp) ?_; (case hr => (go_simp; done)); (case hp => exact (Reps.none _ _)); intro v1 w3 ho3 hb3 hg3 hn3; have HO := Lib.hid ho3; have HB3 := Lib.hid hb3; clear ho3 hb3 hg3 hn3)
    | (at_builtin; refine Kd.R_append_rows Kd.bool (w0 := w) w.heap.size rfl (.tmp 38) (.tmp 43) 31 4 (.bool false) 1 rfl Try.underlying31 info4b rfl (by decide) (by omega) v1 [] (xs.take q) _ _ _ (fun _ => True) (fun _ => False) rfl rfl HO.out (Kd.C_below HT.out HB3.out) (fun _ _ h => h) (fun _ h => h.elim) (fun _ _ => trivial) HB3.out HB3.out.size ?aL ?_; (case aL => (have := HQ.out; simp; omega)); intro v2 w4 ho4 hb4 hg4 hn4; have HO4 := Lib.hid ho4; have HB4 := Lib.hid hb4; clear ho4 hb4 hg4 hn4)
    | (at_builtin; refine Kd.R_append_rows Kd.bool (w0 := w) w.heap.size rfl (.tmp 44) (.tmp 45) 31 4 (.bool false) 1 rfl Try.underlying31 info4b rfl (by decide) (by omega) v2 ([] ++ xs.take q) ys _ _ _ (fun _ => True) (fun _ => False) rfl rfl HO4.out (Kd.C_below hB.out HB4.out) (fun _ _ h => h) (fun _ h => h.elim) (fun _ _ => trivial) HB4.out HB4.out.size ?aL ?_; (case aL => (have := HQ.out; have := HL.out; simp; omega)); intro v3 w5 ho5 hb5 hg5 hn5; have HO5 := Lib.hid ho5; have HB5 := Lib.hid hb5; clear ho5 hb5 hg5 hn5))
  refine (first_o ([] ++ xs.take q ++ ys) k p true v3 _ _ w5 (by have := HL.out; simp; omega) HO5.out hf2).mono ?_
  rintro e w6 ⟨rfl, hd⟩
  have HB6 := below_on HB5 (Nat.le_refl _) hd.below
  clear hd
  go_wp2_with fail
  go_ret
  exact ⟨rfl, HB6.out⟩
/-- where a run begins hangs on no place behind its end -/
theorem find_like (xs ys : List Bool) (m j : Nat) (hm : 1 ≤ m) (hj : j < xs.length) (hr : run xs (j + 1) = m) (hno : ∀ i, i < j → run xs (i + 1) < m) :
    find ([] ++ xs.take (j + 1) ++ ys) m ([] ++ xs.take (j + 1) ++ ys).length 0 = ((j : Int) - m + 1, true) := by
  rw [List.nil_append]
  have hlt : (xs.take (j + 1)).length = j + 1 := by rw [List.length_take]; omega
  have hlen : (xs.take (j + 1) ++ ys).length = j + 1 + ys.length := by rw [List.length_append, hlt]
  have hsame : ∀ i, i ≤ j + 1 → run (xs.take (j + 1) ++ ys) i = run xs i := fun i hi => run_take _ _ i (fun a ha => by
    rw [List.getD_eq_getElem?_getD, List.getD_eq_getElem?_getD, List.getElem?_append_left (by omega), List.getElem?_take_of_lt (by omega)])
  rcases find_spec (xs.take (j + 1) ++ ys) m (by omega) (xs.take (j + 1) ++ ys).length 0 with ⟨i, _, h2, h3, h4, h5⟩ | ⟨h1, _⟩
  · have hi : i = j := by
      rcases Nat.lt_trichotomy i j with h | h | h
      · have := hno i h
        rw [hsame (i + 1) (by omega)] at h3
        omega
      · exact h
      · exfalso
        have := h4 j (by omega) h
        rw [hsame (j + 1) (by omega), hr] at this
        exact this rfl
    rw [h5, hi]
  · exfalso
    have := h1 j (by omega) (by omega)
    rw [hsame (j + 1) (by omega), hr] at this
    exact this rfl
theorem walk (A : Option Addr) (len c : Nat) (xs : List Bool) (B : Option Addr) (len2 d : Nat) (ys : List Bool) (n : Int) (w : World) (hlen : xs.length = len) (hc : len ≤ c) (h : Kd.C Kd.bool w A len xs) (hlen2 : ys.length = len2) (_hd : len2 ≤ d) (h2 : Kd.C Kd.bool w B len2 ys) (hn : (Lit.int .u8 n).wf = true) :
    Calls Try.prog 6 #[.slice A len c, .slice B len2 d, .int .u8 n] w fun e w' => e = .returned (.bool true) ∧ Below w.heap.size w w' := by
  subst hlen hlen2
  have hn' : 0 ≤ n ∧ n ≤ 255 := by
    simp [Lit.wf, IntKind.min, IntKind.max, IntKind.bits, IntKind.signed] at hn
    omega
  by_cases hl : 200 < xs.length ∨ 200 < ys.length
  · exact like_long xs ys n A B c d w hl
  · obtain ⟨m, hm⟩ := Int.eq_ofNat_of_zero_le (show 0 ≤ 1 + n % 9 by omega)
    rcases find_least xs m (by omega) with ⟨j, h1, h3, h4, _, h6, h7⟩ | ⟨h1, _, _⟩
    · have hq : find ([] ++ xs.take (j + 1) ++ ys) m ([] ++ xs.take (j + 1) ++ ys).length 0 = ((j : Int) - m + 1, true) := find_like xs ys m j (by omega) h1 h6 h7
      exact like_some xs ys n m _ (j + 1) A B c d w (by omega) (by omega) hc h h2 hn'.1 hn'.2 (by omega) (by omega) (by omega) (by omega) (by omega) (by omega) (by omega) h4 hq
    · exact like_none xs ys n m A B c d w (by omega) (by omega) hc h hn'.1 hn'.2 (by omega) h1
end Go.Proofs.Ytnpndfcghfoofaa.RowSpaceLike
