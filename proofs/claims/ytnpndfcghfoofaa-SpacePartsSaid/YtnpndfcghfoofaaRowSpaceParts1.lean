/- SpaceParts, the walk: the call returns true and leaves what there was as it was; for every list of places and every two numbers. -/
import Derived.Test.YtnpndfcghfoofaaRowSpaceLike1
set_option linter.unusedVariables false
namespace Go.Proofs.Ytnpndfcghfoofaa.RowSpaceParts
open Go.RowKit Go.Proofs.Ytnpndfcghfoofaa.PSpaceRuns Go.Proofs.YtnpndfcghfoofaaW.PrintWords Go.Proofs.YtnpndfcghfoofaaW.PrintLast Go.Proofs.YtnpndfcghfoofaaW.PrintMore Go.Proofs.Ytnpndfcghfoofaa.SpM Go.Proofs.Ytnpndfcghfoofaa.SpC Go.Proofs.Ytnpndfcghfoofaa.RowSpaceRuns Go.Proofs.Ytnpndfcghfoofaa.RowSpaceLike
theorem longest_o (ys : List Bool) (L : Int) (v : Value) (base : Nat) (ok : Nat → Prop) (w : World) (hl : ys.length ≤ 1000000000) (h : Kd.R Kd.bool 4 w base ok v ys) (hf : Hid ((best ys ys.length : Int) = L)) :
    Calls Try.prog 23 #[v] w fun e w' => e = .returned (.int .i64 L) ∧ Below w.heap.size w w' := by
  obtain ⟨A, c, rfl, hc, hC⟩ := Kd.R_reads h
  exact longest_a ys L A c w w hl hc hC (Below.refl _ _) hf
theorem free_o (ys : List Bool) (L : Int) (v : Value) (base : Nat) (ok : Nat → Prop) (w : World) (hl : ys.length ≤ 1000000000) (h : Kd.R Kd.bool 4 w base ok v ys) (hf : Hid ((free ys ys.length : Int) = L)) :
    Calls Try.prog 25 #[v] w fun e w' => e = .returned (.int .i64 L) ∧ Drawn0 w w' := by
  obtain ⟨A, c, rfl, hc, hC⟩ := Kd.R_reads h
  exact free_a ys L A c w w hl hc hC (Below.refl _ _) hf
set_option maxHeartbeats 2000000 in
set_option maxRecDepth 100000 in
theorem parts_long (xs : List Bool) (n m : Int) (A : Option Addr) (c : Nat) (w : World) (hl : 200 < xs.length) :
    Calls Try.prog 11 #[.slice A xs.length c, .int .u8 n, .int .u8 m] w fun e w' => e = .returned (.bool true) ∧ Below w.heap.size w w' := by
  have c1 : decide ((200 : Int) < (xs.length : Int)) = true := decide_eq_true (by omega)
  have c2 : decide (200 < xs.length) = true := decide_eq_true (by omega)
  go_enter Try.func11, Try.ntmps11
  go_wp2_with fail
  refine (awake_c _).mono ?_
  rintro e w1 ⟨rfl, hd⟩
  have HB1 := Lib.hid hd
  clear hd
  go_wp2_with fail
  refine (awake_c _).mono ?_
  rintro e w2 ⟨rfl, hd⟩
  have HB2 := below_on HB1 (Nat.le_refl _) hd
  clear hd
  go_wp2_with fail
  go_ret
  exact ⟨rfl, HB2.out⟩
set_option maxHeartbeats 4000000 in
set_option maxRecDepth 100000 in
theorem parts_tt_e (xs : List Bool) (n m k a b L F L1 F1 : Int) (q : Nat) (A : Option Addr) (c : Nat) (w : World) (hl : xs.length ≤ 200) (hc : xs.length ≤ c) (h : Hid (Kd.C Kd.bool w A xs.length xs)) (hn0 : 0 ≤ n) (hn1 : n ≤ 255) (hm0 : 0 ≤ m) (hm1 : m ≤ 255) (hk : 1 + n % 9 = k) (hk0 : 1 ≤ k) (hk1 : k ≤ 9)
    (hf : Hid (find xs k xs.length 0 = (a, true))) (hf2 : Hid (find xs (k + 1) xs.length 0 = (b, true))) (hba : decide (b < a) = false)
    (hL : Hid ((best xs xs.length : Int) = L)) (hF : Hid ((free xs xs.length : Int) = F)) (hLL : decide (L ≤ L1) = true) (hFF : decide (F ≤ F1) = true) (he : Hid (xs.length = 0)) (hL1 : Hid ((best ([] ++ xs) ([] ++ xs).length : Int) = L1)) (hF1 : Hid ((free ([] ++ xs) ([] ++ xs).length : Int) = F1)) :
    Calls Try.prog 11 #[.slice A xs.length c, .int .u8 n, .int .u8 m] w fun e w' => e = .returned (.bool true) ∧ Below w.heap.size w w' := by
  have c1 : decide ((200 : Int) < (xs.length : Int)) = false := decide_eq_false (by omega)
  have c2 : decide (200 < xs.length) = false := decide_eq_false (by omega)
  have c3 : decide ((0 : Int) < (xs.length : Int)) = false := decide_eq_false (by have := he.out; omega)
  have c4 : decide (0 < xs.length) = false := decide_eq_false (by have := he.out; omega)
  go_enter Try.func11, Try.ntmps11
  go_wp2_with fail
  refine (awake_c _).mono ?_
  rintro e w1 ⟨rfl, hd⟩
  have HB1 := Lib.hid hd
  clear hd
  go_wp2_with fail
  refine (first_a xs k a true A c w _ (by omega) hc h HB1 hf).mono ?_
  rintro e w2 ⟨rfl, hd⟩
  have HB2 := below_on HB1 (Nat.le_refl _) hd.below
  clear hd
  go_wp2_with fail
  refine (first_a xs (k + 1) b true A c w _ (by omega) hc h HB2 hf2).mono ?_
  rintro e w3 ⟨rfl, hd⟩
  have HB3 := below_on HB2 (Nat.le_refl _) hd.below
  clear hd
  go_wp2_with (first
    | ((with_reducible refine gate_dst (N := 48) rfl ?_); refine Kd.R_lit Kd.bool w.heap.size 4 rfl (w0 := w) (N := 48) rfl (xs := ([] : List Bool)) (inner := []) (ok := fun _ => True) (okp := fun _ => True) ?hr ?hp (fun _ hk => hk) trivial HB3.out HB3.out.size (by simp) ?_; (case hr => (go_simp; done)); (case hp => exact (Reps.none _ _)); intro v1 w4 ho4 hb4 hg4 hn4; have HO4 := Lib.hid ho4; have HB4 := Lib.hid hb4; clear ho4 hb4 hg4 hn4)
    | (at_builtin; refine Kd.R_append_rows Kd.bool (w0 := w) w.heap.size rfl (.tmp 48) (.tmp 49) 31 4 (.bool false) 1 rfl Try.underlying31 info4b rfl (by decide) (by omega) v1 [] xs _ _ _ (fun _ => True) (fun _ => False) rfl rfl HO4.out (Kd.C_below h.out HB4.out) (fun _ _ h => h) (fun _ h => h.elim) (fun _ _ => trivial) HB4.out HB4.out.size ?aL ?_; (case aL => (simp; omega)); intro v2 w5 ho5 hb5 hg5 hn5; obtain ⟨A2, e2, rfl⟩ := Kd.R_slice ho5; have HO5 := Lib.hid ho5; have HB5 := Lib.hid hb5; clear ho5 hb5 hg5 hn5))
  refine (longest_o ([] ++ xs) L1 _ _ _ w5 (by simp; omega) HO5.out hL1).mono ?_
  rintro e w6 ⟨rfl, hd⟩
  have HB6 := below_on HB5 (Nat.le_refl _) hd
  have HO6 := Lib.hid (Kd.R_below HO5.out hd)
  clear hd
  go_wp2_with fail
  refine (longest_a xs L A c w _ (by omega) hc h HB6 hL).mono ?_
  rintro e w7 ⟨rfl, hd⟩
  have HB7 := below_on HB6 (Nat.le_refl _) hd
  have HO7 := Lib.hid (Kd.R_below HO6.out hd)
  clear hd
  go_wp2_with fail
  refine (free_o ([] ++ xs) F1 _ _ _ w7 (by simp; omega) HO7.out hF1).mono ?_
  rintro e w8 ⟨rfl, hd⟩
  have HB8 := below_on HB7 (Nat.le_refl _) hd.below
  clear hd
  go_wp2_with fail
  refine (free_a xs F A c w _ (by omega) hc h HB8 hF).mono ?_
  rintro e w9 ⟨rfl, hd⟩
  have HB9 := below_on HB8 (Nat.le_refl _) hd.below
  clear hd
  go_wp2_with fail
  go_ret
  exact ⟨rfl, HB9.out⟩
set_option maxHeartbeats 4000000 in
set_option maxRecDepth 100000 in
theorem parts_tt_n (xs : List Bool) (n m k a b L F L1 F1 : Int) (q : Nat) (A : Option Addr) (c : Nat) (w : World) (hl : xs.length ≤ 200) (hc : xs.length ≤ c) (h : Hid (Kd.C Kd.bool w A xs.length xs)) (hn0 : 0 ≤ n) (hn1 : n ≤ 255) (hm0 : 0 ≤ m) (hm1 : m ≤ 255) (hk : 1 + n % 9 = k) (hk0 : 1 ≤ k) (hk1 : k ≤ 9)
    (hf : Hid (find xs k xs.length 0 = (a, true))) (hf2 : Hid (find xs (k + 1) xs.length 0 = (b, true))) (hba : decide (b < a) = false)
    (hL : Hid ((best xs xs.length : Int) = L)) (hF : Hid ((free xs xs.length : Int) = F)) (hLL : decide (L ≤ L1) = true) (hFF : decide (F ≤ F1) = true) (hq : m % (xs.length : Int) = (q : Int)) (hqs : q < xs.length) (hL1 : Hid ((best (xs.set q false) (xs.set q false).length : Int) = L1)) (hF1 : Hid ((free (xs.set q false) (xs.set q false).length : Int) = F1)) :
    Calls Try.prog 11 #[.slice A xs.length c, .int .u8 n, .int .u8 m] w fun e w' => e = .returned (.bool true) ∧ Below w.heap.size w w' := by
  have c1 : decide ((200 : Int) < (xs.length : Int)) = false := decide_eq_false (by omega)
  have c2 : decide (200 < xs.length) = false := decide_eq_false (by omega)
  have c3 : decide ((0 : Int) < (xs.length : Int)) = true := decide_eq_true (by omega)
  have c4 : decide (0 < xs.length) = true := decide_eq_true (by omega)
  have c5 : ((xs.length : Int) == 0) = false := beq_eq_false_iff_ne.2 (by omega)
  go_enter Try.func11, Try.ntmps11
  go_wp2_with fail
  refine (awake_c _).mono ?_
  rintro e w1 ⟨rfl, hd⟩
  have HB1 := Lib.hid hd
  clear hd
  go_wp2_with fail
  refine (first_a xs k a true A c w _ (by omega) hc h HB1 hf).mono ?_
  rintro e w2 ⟨rfl, hd⟩
  have HB2 := below_on HB1 (Nat.le_refl _) hd.below
  clear hd
  go_wp2_with fail
  refine (first_a xs (k + 1) b true A c w _ (by omega) hc h HB2 hf2).mono ?_
  rintro e w3 ⟨rfl, hd⟩
  have HB3 := below_on HB2 (Nat.le_refl _) hd.below
  clear hd
  go_wp2_with (first
    | ((with_reducible refine gate_dst (N := 48) rfl ?_); refine Kd.R_lit Kd.bool w.heap.size 4 rfl (w0 := w) (N := 48) rfl (xs := ([] : List Bool)) (inner := []) (ok := fun _ => True) (okp := fun _ => True) ?hr ?hp (fun _ hk => hk) trivial HB3.out HB3.out.size (by simp) ?_; (case hr => (go_simp; done)); (case hp => exact (Reps.none _ _)); intro v1 w4 ho4 hb4 hg4 hn4; have HO4 := Lib.hid ho4; have HB4 := Lib.hid hb4; clear ho4 hb4 hg4 hn4)
    | (at_builtin; refine Kd.R_append_rows Kd.bool (w0 := w) w.heap.size rfl (.tmp 48) (.tmp 49) 31 4 (.bool false) 1 rfl Try.underlying31 info4b rfl (by decide) (by omega) v1 [] xs _ _ _ (fun _ => True) (fun _ => False) rfl rfl HO4.out (Kd.C_below h.out HB4.out) (fun _ _ h => h) (fun _ h => h.elim) (fun _ _ => trivial) HB4.out HB4.out.size ?aL ?_; (case aL => (simp; omega)); intro v2 w5 ho5 hb5 hg5 hn5; rw [List.nil_append] at ho5; obtain ⟨g, e2, rfl, hbg, _, _⟩ := Kd.R_form ho5 (by omega); obtain ⟨hc5, hf5⟩ := Kd.R_celln false ho5 (q : Int) (by omega) (by omega); have hp5 := Kd.R_putn ho5 (q : Int) false; rw [Int.toNat_natCast] at hc5 hf5 hp5; have HP5 := Lib.hid hp5; have HB5 := Lib.hid hb5; have HG := Lib.hid hbg; clear ho5 hb5 hg5 hn5 hp5 hbg))
  refine (longest_o (xs.set q false) L1 _ _ _ _ (by rw [List.length_set]; omega) HP5.out hL1).mono ?_
  rintro e w6 ⟨rfl, hd⟩
  have HB6 : Hid (Below w.heap.size w w6) := (HB5.out.setCell HG.out _).trans (hd.mono (by have := HB5.out.size; simpa using this))
  have HO6 := Lib.hid (Kd.R_below HP5.out hd)
  clear hd
  go_wp2_with fail
  refine (longest_a xs L A c w _ (by omega) hc h HB6 hL).mono ?_
  rintro e w7 ⟨rfl, hd⟩
  have HB7 := below_on HB6 (Nat.le_refl _) hd
  have HO7 := Lib.hid (Kd.R_below HO6.out hd)
  clear hd
  go_wp2_with fail
  refine (free_o (xs.set q false) F1 _ _ _ w7 (by rw [List.length_set]; omega) HO7.out hF1).mono ?_
  rintro e w8 ⟨rfl, hd⟩
  have HB8 := below_on HB7 (Nat.le_refl _) hd.below
  clear hd
  go_wp2_with fail
  refine (free_a xs F A c w _ (by omega) hc h HB8 hF).mono ?_
  rintro e w9 ⟨rfl, hd⟩
  have HB9 := below_on HB8 (Nat.le_refl _) hd.below
  clear hd
  go_wp2_with fail
  go_ret
  exact ⟨rfl, HB9.out⟩
set_option maxHeartbeats 4000000 in
set_option maxRecDepth 100000 in
theorem parts_tf_e (xs : List Bool) (n m k a b L F L1 F1 : Int) (q : Nat) (A : Option Addr) (c : Nat) (w : World) (hl : xs.length ≤ 200) (hc : xs.length ≤ c) (h : Hid (Kd.C Kd.bool w A xs.length xs)) (hn0 : 0 ≤ n) (hn1 : n ≤ 255) (hm0 : 0 ≤ m) (hm1 : m ≤ 255) (hk : 1 + n % 9 = k) (hk0 : 1 ≤ k) (hk1 : k ≤ 9)
    (hf : Hid (find xs k xs.length 0 = (a, true))) (hf2 : Hid (find xs (k + 1) xs.length 0 = (b, false)))
    (hL : Hid ((best xs xs.length : Int) = L)) (hF : Hid ((free xs xs.length : Int) = F)) (hLL : decide (L ≤ L1) = true) (hFF : decide (F ≤ F1) = true) (he : Hid (xs.length = 0)) (hL1 : Hid ((best ([] ++ xs) ([] ++ xs).length : Int) = L1)) (hF1 : Hid ((free ([] ++ xs) ([] ++ xs).length : Int) = F1)) :
    Calls Try.prog 11 #[.slice A xs.length c, .int .u8 n, .int .u8 m] w fun e w' => e = .returned (.bool true) ∧ Below w.heap.size w w' := by
  have c1 : decide ((200 : Int) < (xs.length : Int)) = false := decide_eq_false (by omega)
  have c2 : decide (200 < xs.length) = false := decide_eq_false (by omega)
  have c3 : decide ((0 : Int) < (xs.length : Int)) = false := decide_eq_false (by have := he.out; omega)
  have c4 : decide (0 < xs.length) = false := decide_eq_false (by have := he.out; omega)
  go_enter Try.func11, Try.ntmps11
  go_wp2_with fail
  refine (awake_c _).mono ?_
  rintro e w1 ⟨rfl, hd⟩
  have HB1 := Lib.hid hd
  clear hd
  go_wp2_with fail
  refine (first_a xs k a true A c w _ (by omega) hc h HB1 hf).mono ?_
  rintro e w2 ⟨rfl, hd⟩
  have HB2 := below_on HB1 (Nat.le_refl _) hd.below
  clear hd
  go_wp2_with fail
  refine (first_a xs (k + 1) b false A c w _ (by omega) hc h HB2 hf2).mono ?_
  rintro e w3 ⟨rfl, hd⟩
  have HB3 := below_on HB2 (Nat.le_refl _) hd.below
  clear hd
  go_wp2_with (first
    | ((with_reducible refine gate_dst (N := 48) rfl ?_); refine Kd.R_lit Kd.bool w.heap.size 4 rfl (w0 := w) (N := 48) rfl (xs := ([] : List Bool)) (inner := []) (ok := fun _ => True) (okp := fun _ => True) ?hr ?hp (fun _ hk => hk) trivial HB3.out HB3.out.size (by simp) ?_; (case hr => (go_simp; done)); (case hp => exact (Reps.none _ _)); intro v1 w4 ho4 hb4 hg4 hn4; have HO4 := Lib.hid ho4; have HB4 := Lib.hid hb4; clear ho4 hb4 hg4 hn4)
    | (at_builtin; refine Kd.R_append_rows Kd.bool (w0 := w) w.heap.size rfl (.tmp 48) (.tmp 49) 31 4 (.bool false) 1 rfl Try.underlying31 info4b rfl (by decide) (by omega) v1 [] xs _ _ _ (fun _ => True) (fun _ => False) rfl rfl HO4.out (Kd.C_below h.out HB4.out) (fun _ _ h => h) (fun _ h => h.elim) (fun _ _ => trivial) HB4.out HB4.out.size ?aL ?_; (case aL => (simp; omega)); intro v2 w5 ho5 hb5 hg5 hn5; obtain ⟨A2, e2, rfl⟩ := Kd.R_slice ho5; have HO5 := Lib.hid ho5; have HB5 := Lib.hid hb5; clear ho5 hb5 hg5 hn5))
  refine (longest_o ([] ++ xs) L1 _ _ _ w5 (by simp; omega) HO5.out hL1).mono ?_
  rintro e w6 ⟨rfl, hd⟩
  have HB6 := below_on HB5 (Nat.le_refl _) hd
  have HO6 := Lib.hid (Kd.R_below HO5.out hd)
  clear hd
  go_wp2_with fail
  refine (longest_a xs L A c w _ (by omega) hc h HB6 hL).mono ?_
  rintro e w7 ⟨rfl, hd⟩
  have HB7 := below_on HB6 (Nat.le_refl _) hd
  have HO7 := Lib.hid (Kd.R_below HO6.out hd)
  clear hd
  go_wp2_with fail
  refine (free_o ([] ++ xs) F1 _ _ _ w7 (by simp; omega) HO7.out hF1).mono ?_
  rintro e w8 ⟨rfl, hd⟩
  have HB8 := below_on HB7 (Nat.le_refl _) hd.below
  clear hd
  go_wp2_with fail
  refine (free_a xs F A c w _ (by omega) hc h HB8 hF).mono ?_
  rintro e w9 ⟨rfl, hd⟩
  have HB9 := below_on HB8 (Nat.le_refl _) hd.below
  clear hd
  go_wp2_with fail
  go_ret
  exact ⟨rfl, HB9.out⟩
set_option maxHeartbeats 4000000 in
set_option maxRecDepth 100000 in
theorem parts_tf_n (xs : List Bool) (n m k a b L F L1 F1 : Int) (q : Nat) (A : Option Addr) (c : Nat) (w : World) (hl : xs.length ≤ 200) (hc : xs.length ≤ c) (h : Hid (Kd.C Kd.bool w A xs.length xs)) (hn0 : 0 ≤ n) (hn1 : n ≤ 255) (hm0 : 0 ≤ m) (hm1 : m ≤ 255) (hk : 1 + n % 9 = k) (hk0 : 1 ≤ k) (hk1 : k ≤ 9)
    (hf : Hid (find xs k xs.length 0 = (a, true))) (hf2 : Hid (find xs (k + 1) xs.length 0 = (b, false)))
    (hL : Hid ((best xs xs.length : Int) = L)) (hF : Hid ((free xs xs.length : Int) = F)) (hLL : decide (L ≤ L1) = true) (hFF : decide (F ≤ F1) = true) (hq : m % (xs.length : Int) = (q : Int)) (hqs : q < xs.length) (hL1 : Hid ((best (xs.set q false) (xs.set q false).length : Int) = L1)) (hF1 : Hid ((free (xs.set q false) (xs.set q false).length : Int) = F1)) :
    Calls Try.prog 11 #[.slice A xs.length c, .int .u8 n, .int .u8 m] w fun e w' => e = .returned (.bool true) ∧ Below w.heap.size w w' := by
  have c1 : decide ((200 : Int) < (xs.length : Int)) = false := decide_eq_false (by omega)
  have c2 : decide (200 < xs.length) = false := decide_eq_false (by omega)
  have c3 : decide ((0 : Int) < (xs.length : Int)) = true := decide_eq_true (by omega)
  have c4 : decide (0 < xs.length) = true := decide_eq_true (by omega)
  have c5 : ((xs.length : Int) == 0) = false := beq_eq_false_iff_ne.2 (by omega)
  go_enter Try.func11, Try.ntmps11
  go_wp2_with fail
  refine (awake_c _).mono ?_
  rintro e w1 ⟨rfl, hd⟩
  have HB1 := Lib.hid hd
  clear hd
  go_wp2_with fail
  refine (first_a xs k a true A c w _ (by omega) hc h HB1 hf).mono ?_
  rintro e w2 ⟨rfl, hd⟩
  have HB2 := below_on HB1 (Nat.le_refl _) hd.below
  clear hd
  go_wp2_with fail
  refine (first_a xs (k + 1) b false A c w _ (by omega) hc h HB2 hf2).mono ?_
  rintro e w3 ⟨rfl, hd⟩
  have HB3 := below_on HB2 (Nat.le_refl _) hd.below
  clear hd
  go_wp2_with (first
    | ((with_reducible refine gate_dst (N := 48) rfl ?_); refine Kd.R_lit Kd.bool w.heap.size 4 rfl (w0 := w) (N := 48) rfl (xs := ([] : List Bool)) (inner := []) (ok := fun _ => True) (okp := fun _ => True) ?hr ?hp (fun _ hk => hk) trivial HB3.out HB3.out.size (by simp) ?_; (case hr => (go_simp; done)); (case hp => exact (Reps.none _ _)); intro v1 w4 ho4 hb4 hg4 hn4; have HO4 := Lib.hid ho4; have HB4 := Lib.hid hb4; clear ho4 hb4 hg4 hn4)
    | (at_builtin; refine Kd.R_append_rows Kd.bool (w0 := w) w.heap.size rfl (.tmp 48) (.tmp 49) 31 4 (.bool false) 1 rfl Try.underlying31 info4b rfl (by decide) (by omega) v1 [] xs _ _ _ (fun _ => True) (fun _ => False) rfl rfl HO4.out (Kd.C_below h.out HB4.out) (fun _ _ h => h) (fun _ h => h.elim) (fun _ _ => trivial) HB4.out HB4.out.size ?aL ?_; (case aL => (simp; omega)); intro v2 w5 ho5 hb5 hg5 hn5; rw [List.nil_append] at ho5; obtain ⟨g, e2, rfl, hbg, _, _⟩ := Kd.R_form ho5 (by omega); obtain ⟨hc5, hf5⟩ := Kd.R_celln false ho5 (q : Int) (by omega) (by omega); have hp5 := Kd.R_putn ho5 (q : Int) false; rw [Int.toNat_natCast] at hc5 hf5 hp5; have HP5 := Lib.hid hp5; have HB5 := Lib.hid hb5; have HG := Lib.hid hbg; clear ho5 hb5 hg5 hn5 hp5 hbg))
  refine (longest_o (xs.set q false) L1 _ _ _ _ (by rw [List.length_set]; omega) HP5.out hL1).mono ?_
  rintro e w6 ⟨rfl, hd⟩
  have HB6 : Hid (Below w.heap.size w w6) := (HB5.out.setCell HG.out _).trans (hd.mono (by have := HB5.out.size; simpa using this))
  have HO6 := Lib.hid (Kd.R_below HP5.out hd)
  clear hd
  go_wp2_with fail
  refine (longest_a xs L A c w _ (by omega) hc h HB6 hL).mono ?_
  rintro e w7 ⟨rfl, hd⟩
  have HB7 := below_on HB6 (Nat.le_refl _) hd
  have HO7 := Lib.hid (Kd.R_below HO6.out hd)
  clear hd
  go_wp2_with fail
  refine (free_o (xs.set q false) F1 _ _ _ w7 (by rw [List.length_set]; omega) HO7.out hF1).mono ?_
  rintro e w8 ⟨rfl, hd⟩
  have HB8 := below_on HB7 (Nat.le_refl _) hd.below
  clear hd
  go_wp2_with fail
  refine (free_a xs F A c w _ (by omega) hc h HB8 hF).mono ?_
  rintro e w9 ⟨rfl, hd⟩
  have HB9 := below_on HB8 (Nat.le_refl _) hd.below
  clear hd
  go_wp2_with fail
  go_ret
  exact ⟨rfl, HB9.out⟩
set_option maxHeartbeats 4000000 in
set_option maxRecDepth 100000 in
theorem parts_ff_e (xs : List Bool) (n m k a b L F L1 F1 : Int) (q : Nat) (A : Option Addr) (c : Nat) (w : World) (hl : xs.length ≤ 200) (hc : xs.length ≤ c) (h : Hid (Kd.C Kd.bool w A xs.length xs)) (hn0 : 0 ≤ n) (hn1 : n ≤ 255) (hm0 : 0 ≤ m) (hm1 : m ≤ 255) (hk : 1 + n % 9 = k) (hk0 : 1 ≤ k) (hk1 : k ≤ 9)
    (hf : Hid (find xs k xs.length 0 = (a, false))) (hf2 : Hid (find xs (k + 1) xs.length 0 = (b, false)))
    (hL : Hid ((best xs xs.length : Int) = L)) (hF : Hid ((free xs xs.length : Int) = F)) (hLL : decide (L ≤ L1) = true) (hFF : decide (F ≤ F1) = true) (he : Hid (xs.length = 0)) (hL1 : Hid ((best ([] ++ xs) ([] ++ xs).length : Int) = L1)) (hF1 : Hid ((free ([] ++ xs) ([] ++ xs).length : Int) = F1)) :
    Calls Try.prog 11 #[.slice A xs.length c, .int .u8 n, .int .u8 m] w fun e w' => e = .returned (.bool true) ∧ Below w.heap.size w w' := by
  have c1 : decide ((200 : Int) < (xs.length : Int)) = false := decide_eq_false (by omega)
  have c2 : decide (200 < xs.length) = false := decide_eq_false (by omega)
  have c3 : decide ((0 : Int) < (xs.length : Int)) = false := decide_eq_false (by have := he.out; omega)
  have c4 : decide (0 < xs.length) = false := decide_eq_false (by have := he.out; omega)
  go_enter Try.func11, Try.ntmps11
  go_wp2_with fail
  refine (awake_c _).mono ?_
  rintro e w1 ⟨rfl, hd⟩
  have HB1 := Lib.hid hd
  clear hd
  go_wp2_with fail
  refine (first_a xs k a false A c w _ (by omega) hc h HB1 hf).mono ?_
  rintro e w2 ⟨rfl, hd⟩
  have HB2 := below_on HB1 (Nat.le_refl _) hd.below
  clear hd
  go_wp2_with fail
  refine (first_a xs (k + 1) b false A c w _ (by omega) hc h HB2 hf2).mono ?_
  rintro e w3 ⟨rfl, hd⟩
  have HB3 := below_on HB2 (Nat.le_refl _) hd.below
  clear hd
  go_wp2_with (first
    | ((with_reducible refine gate_dst (N := 48) rfl ?_); refine Kd.R_lit Kd.bool w.heap.size 4 rfl (w0 := w) (N := 48) rfl (xs := ([] : List Bool)) (inner := []) (ok := fun _ => True) (okp := fun _ => True) ?hr ?hp (fun _ hk => hk) trivial HB3.out HB3.out.size (by simp) ?_; (case hr => (go_simp; done)); (case hp => exact (Reps.none _ _)); intro v1 w4 ho4 hb4 hg4 hn4; have HO4 := Lib.hid ho4; have HB4 := Lib.hid hb4; clear ho4 hb4 hg4 hn4)
    | (at_builtin; refine Kd.R_append_rows Kd.bool (w0 := w) w.heap.size rfl (.tmp 48) (.tmp 49) 31 4 (.bool false) 1 rfl Try.underlying31 info4b rfl (by decide) (by omega) v1 [] xs _ _ _ (fun _ => True) (fun _ => False) rfl rfl HO4.out (Kd.C_below h.out HB4.out) (fun _ _ h => h) (fun _ h => h.elim) (fun _ _ => trivial) HB4.out HB4.out.size ?aL ?_; (case aL => (simp; omega)); intro v2 w5 ho5 hb5 hg5 hn5; obtain ⟨A2, e2, rfl⟩ := Kd.R_slice ho5; have HO5 := Lib.hid ho5; have HB5 := Lib.hid hb5; clear ho5 hb5 hg5 hn5))
  refine (longest_o ([] ++ xs) L1 _ _ _ w5 (by simp; omega) HO5.out hL1).mono ?_
  rintro e w6 ⟨rfl, hd⟩
  have HB6 := below_on HB5 (Nat.le_refl _) hd
  have HO6 := Lib.hid (Kd.R_below HO5.out hd)
  clear hd
  go_wp2_with fail
  refine (longest_a xs L A c w _ (by omega) hc h HB6 hL).mono ?_
  rintro e w7 ⟨rfl, hd⟩
  have HB7 := below_on HB6 (Nat.le_refl _) hd
  have HO7 := Lib.hid (Kd.R_below HO6.out hd)
  clear hd
  go_wp2_with fail
  refine (free_o ([] ++ xs) F1 _ _ _ w7 (by simp; omega) HO7.out hF1).mono ?_
  rintro e w8 ⟨rfl, hd⟩
  have HB8 := below_on HB7 (Nat.le_refl _) hd.below
  clear hd
  go_wp2_with fail
  refine (free_a xs F A c w _ (by omega) hc h HB8 hF).mono ?_
  rintro e w9 ⟨rfl, hd⟩
  have HB9 := below_on HB8 (Nat.le_refl _) hd.below
  clear hd
  go_wp2_with fail
  go_ret
  exact ⟨rfl, HB9.out⟩
set_option maxHeartbeats 4000000 in
set_option maxRecDepth 100000 in
theorem parts_ff_n (xs : List Bool) (n m k a b L F L1 F1 : Int) (q : Nat) (A : Option Addr) (c : Nat) (w : World) (hl : xs.length ≤ 200) (hc : xs.length ≤ c) (h : Hid (Kd.C Kd.bool w A xs.length xs)) (hn0 : 0 ≤ n) (hn1 : n ≤ 255) (hm0 : 0 ≤ m) (hm1 : m ≤ 255) (hk : 1 + n % 9 = k) (hk0 : 1 ≤ k) (hk1 : k ≤ 9)
    (hf : Hid (find xs k xs.length 0 = (a, false))) (hf2 : Hid (find xs (k + 1) xs.length 0 = (b, false)))
    (hL : Hid ((best xs xs.length : Int) = L)) (hF : Hid ((free xs xs.length : Int) = F)) (hLL : decide (L ≤ L1) = true) (hFF : decide (F ≤ F1) = true) (hq : m % (xs.length : Int) = (q : Int)) (hqs : q < xs.length) (hL1 : Hid ((best (xs.set q false) (xs.set q false).length : Int) = L1)) (hF1 : Hid ((free (xs.set q false) (xs.set q false).length : Int) = F1)) :
    Calls Try.prog 11 #[.slice A xs.length c, .int .u8 n, .int .u8 m] w fun e w' => e = .returned (.bool true) ∧ Below w.heap.size w w' := by
  have c1 : decide ((200 : Int) < (xs.length : Int)) = false := decide_eq_false (by omega)
  have c2 : decide (200 < xs.length) = false := decide_eq_false (by omega)
  have c3 : decide ((0 : Int) < (xs.length : Int)) = true := decide_eq_true (by omega)
  have c4 : decide (0 < xs.length) = true := decide_eq_true (by omega)
  have c5 : ((xs.length : Int) == 0) = false := beq_eq_false_iff_ne.2 (by omega)
  go_enter Try.func11, Try.ntmps11
  go_wp2_with fail
  refine (awake_c _).mono ?_
  rintro e w1 ⟨rfl, hd⟩
  have HB1 := Lib.hid hd
  clear hd
  go_wp2_with fail
  refine (first_a xs k a false A c w _ (by omega) hc h HB1 hf).mono ?_
  rintro e w2 ⟨rfl, hd⟩
  have HB2 := below_on HB1 (Nat.le_refl _) hd.below
  clear hd
  go_wp2_with fail
  refine (first_a xs (k + 1) b false A c w _ (by omega) hc h HB2 hf2).mono ?_
  rintro e w3 ⟨rfl, hd⟩
  have HB3 := below_on HB2 (Nat.le_refl _) hd.below
  clear hd
  go_wp2_with (first
    | ((with_reducible refine gate_dst (N := 48) rfl ?_); refine Kd.R_lit Kd.bool w.heap.size 4 rfl (w0 := w) (N := 48) rfl (xs := ([] : List Bool)) (inner := []) (ok := fun _ => True) (okp := fun _ => True) ?hr ?hp (fun _ hk => hk) trivial HB3.out HB3.out.size (by simp) ?_; (case hr => (go_simp; done)); (case hp => exact (Reps.none _ _)); intro v1 w4 ho4 hb4 hg4 hn4; have HO4 := Lib.hid ho4; have HB4 := Lib.hid hb4; clear ho4 hb4 hg4 hn4)
    | (at_builtin; refine Kd.R_append_rows Kd.bool (w0 := w) w.heap.size rfl (.tmp 48) (.tmp 49) 31 4 (.bool false) 1 rfl Try.underlying31 info4b rfl (by decide) (by omega) v1 [] xs _ _ _ (fun _ => True) (fun _ => False) rfl rfl HO4.out (Kd.C_below h.out HB4.out) (fun _ _ h => h) (fun _ h => h.elim) (fun _ _ => trivial) HB4.out HB4.out.size ?aL ?_; (case aL => (simp; omega)); intro v2 w5 ho5 hb5 hg5 hn5; rw [List.nil_append] at ho5; obtain ⟨g, e2, rfl, hbg, _, _⟩ := Kd.R_form ho5 (by omega); obtain ⟨hc5, hf5⟩ := Kd.R_celln false ho5 (q : Int) (by omega) (by omega); have hp5 := Kd.R_putn ho5 (q : Int) false; rw [Int.toNat_natCast] at hc5 hf5 hp5; have HP5 := Lib.hid hp5; have HB5 := Lib.hid hb5; have HG := Lib.hid hbg; clear ho5 hb5 hg5 hn5 hp5 hbg))
  refine (longest_o (xs.set q false) L1 _ _ _ _ (by rw [List.length_set]; omega) HP5.out hL1).mono ?_
  rintro e w6 ⟨rfl, hd⟩
  have HB6 : Hid (Below w.heap.size w w6) := (HB5.out.setCell HG.out _).trans (hd.mono (by have := HB5.out.size; simpa using this))
  have HO6 := Lib.hid (Kd.R_below HP5.out hd)
  clear hd
  go_wp2_with fail
  refine (longest_a xs L A c w _ (by omega) hc h HB6 hL).mono ?_
  rintro e w7 ⟨rfl, hd⟩
  have HB7 := below_on HB6 (Nat.le_refl _) hd
  have HO7 := Lib.hid (Kd.R_below HO6.out hd)
  clear hd
  go_wp2_with fail
  refine (free_o (xs.set q false) F1 _ _ _ w7 (by rw [List.length_set]; omega) HO7.out hF1).mono ?_
  rintro e w8 ⟨rfl, hd⟩
  have HB8 := below_on HB7 (Nat.le_refl _) hd.below
  clear hd
  go_wp2_with fail
  refine (free_a xs F A c w _ (by omega) hc h HB8 hF).mono ?_
  rintro e w9 ⟨rfl, hd⟩
  have HB9 := below_on HB8 (Nat.le_refl _) hd.below
  clear hd
  go_wp2_with fail
  go_ret
  exact ⟨rfl, HB9.out⟩
/-- a longer run isn't found ahead of a shorter one -/
theorem find_more (xs : List Bool) (m : Nat) (hm : 1 ≤ m) : (∃ a b, find xs m xs.length 0 = (a, true) ∧ find xs ((m : Int) + 1) xs.length 0 = (b, true) ∧ a ≤ b) ∨ (∃ a, find xs m xs.length 0 = (a, true) ∧ find xs ((m : Int) + 1) xs.length 0 = (0, false)) ∨ (find xs m xs.length 0 = (0, false) ∧ find xs ((m : Int) + 1) xs.length 0 = (0, false)) := by
  have e : ((m : Int) + 1) = ((m + 1 : Nat) : Int) := by omega
  rw [e]
  rcases find_least xs (m + 1) (by omega) with ⟨j, h1, h2, h3, _, h5, h6⟩ | ⟨h1, _, h3⟩
  · rcases find_least xs m hm with ⟨i, g1, g2, g3, _, g5, g6⟩ | ⟨g1, _, g3⟩
    · refine .inl ⟨_, _, g3, h3, ?_⟩
      have hs := run_succ xs j
      by_cases hu : xs.getD j true = true
      · rw [if_pos hu] at hs; omega
      · rw [if_neg hu] at hs
        have hij : i ≤ j - 1 := by
          rcases Nat.lt_or_ge (j - 1) i with h | h
          · exfalso
            have := g6 (j - 1) h
            have hj : 1 ≤ j := by
              rcases Nat.eq_zero_or_pos j with h0 | h0
              · subst h0; simp [run] at hs; omega
              · exact h0
            rw [show j - 1 + 1 = j by omega] at this
            omega
          · exact h
        have hj : 1 ≤ j := by
          rcases Nat.eq_zero_or_pos j with h0 | h0
          · subst h0; simp [run] at hs; omega
          · exact h0
        omega
    · exfalso
      have := g3 (j + 1) (by omega)
      omega
  · rcases find_least xs m hm with ⟨i, g1, g2, g3, _, g5, g6⟩ | ⟨g1, _, g3⟩
    · exact .inr (.inl ⟨_, g3, h1⟩)
    · exact .inr (.inr ⟨g1, h1⟩)
theorem set_more (xs : List Bool) (q : Nat) : ∀ j, (xs.set q false).getD j true = true → xs.getD j true = true := by
  intro j h
  rw [List.getD_eq_getElem?_getD] at h ⊢
  by_cases e : q = j
  · subst e
    by_cases hl : q < xs.length
    · rw [List.getElem?_set_self hl] at h; simp at h
    · rw [List.getElem?_eq_none (by omega)]; rfl
  · rw [List.getElem?_set_ne e] at h; exact h
theorem walk (A : Option Addr) (len c : Nat) (xs : List Bool) (n m : Int) (w : World) (hlen : xs.length = len) (hc : len ≤ c) (h : Kd.C Kd.bool w A len xs) (hn : (Lit.int .u8 n).wf = true) (hm : (Lit.int .u8 m).wf = true) :
    Calls Try.prog 11 #[.slice A len c, .int .u8 n, .int .u8 m] w fun e w' => e = .returned (.bool true) ∧ Below w.heap.size w w' := by
  subst hlen
  have hn' : 0 ≤ n ∧ n ≤ 255 := by
    simp [Lit.wf, IntKind.min, IntKind.max, IntKind.bits, IntKind.signed] at hn
    omega
  have hm' : 0 ≤ m ∧ m ≤ 255 := by
    simp [Lit.wf, IntKind.min, IntKind.max, IntKind.bits, IntKind.signed] at hm
    omega
  by_cases hl : 200 < xs.length
  · exact parts_long xs n m A c w hl
  · obtain ⟨r, hr⟩ := Int.eq_ofNat_of_zero_le (show 0 ≤ 1 + n % 9 by omega)
    have key := find_more xs r (by omega)
    by_cases h0 : xs.length = 0
    · have hd : ∀ x : Int, decide (x ≤ x) = true := fun x => decide_eq_true (Int.le_refl x)
      have e1 : ([] ++ xs) = xs := rfl
      rcases key with ⟨a, b, k1, k2, k3⟩ | ⟨a, k1, k2⟩ | ⟨k1, k2⟩
      · exact parts_tt_e xs n m r a b _ _ _ _ 0 A c w (by omega) hc h hn'.1 hn'.2 hm'.1 hm'.2 hr (by omega) (by omega) k1 k2 (decide_eq_false (by omega)) rfl rfl (hd _) (hd _) h0 rfl rfl
      · exact parts_tf_e xs n m r a _ _ _ _ _ 0 A c w (by omega) hc h hn'.1 hn'.2 hm'.1 hm'.2 hr (by omega) (by omega) k1 k2 rfl rfl (hd _) (hd _) h0 rfl rfl
      · exact parts_ff_e xs n m r _ _ _ _ _ _ 0 A c w (by omega) hc h hn'.1 hn'.2 hm'.1 hm'.2 hr (by omega) (by omega) k1 k2 rfl rfl (hd _) (hd _) h0 rfl rfl
    · have m0 : 0 ≤ m % (xs.length : Int) := Int.emod_nonneg _ (by omega)
      have m1 : m % (xs.length : Int) < (xs.length : Int) := Int.emod_lt_of_pos _ (by omega)
      obtain ⟨q, hq⟩ := Int.eq_ofNat_of_zero_le m0
      have hmore := run_more xs (xs.set q false) (set_more xs q) xs.length
      have hLL : decide ((best xs xs.length : Int) ≤ (best (xs.set q false) (xs.set q false).length : Int)) = true := decide_eq_true (by rw [List.length_set]; omega)
      have hFF : decide ((free xs xs.length : Int) ≤ (free (xs.set q false) (xs.set q false).length : Int)) = true := decide_eq_true (by rw [List.length_set]; omega)
      rcases key with ⟨a, b, k1, k2, k3⟩ | ⟨a, k1, k2⟩ | ⟨k1, k2⟩
      · exact parts_tt_n xs n m r a b _ _ _ _ q A c w (by omega) hc h hn'.1 hn'.2 hm'.1 hm'.2 hr (by omega) (by omega) k1 k2 (decide_eq_false (by omega)) rfl rfl hLL hFF hq (by omega) rfl rfl
      · exact parts_tf_n xs n m r a _ _ _ _ _ q A c w (by omega) hc h hn'.1 hn'.2 hm'.1 hm'.2 hr (by omega) (by omega) k1 k2 rfl rfl hLL hFF hq (by omega) rfl rfl
      · exact parts_ff_n xs n m r _ _ _ _ _ _ q A c w (by omega) hc h hn'.1 hn'.2 hm'.1 hm'.2 hr (by omega) (by omega) k1 k2 rfl rfl hLL hFF hq (by omega) rfl rfl
end Go.Proofs.Ytnpndfcghfoofaa.RowSpaceParts
