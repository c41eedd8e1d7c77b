/- AdlerPlays, the walk: the call returns true and leaves what there was as it was; for every text and every number of 32 bits. -/
import Derived.Test.YtnpndfcghfoofaaRowAdlerPlays0
import Derived.Lib.Hide
namespace Go.Proofs.Ytnpndfcghfoofaa.RowAdlerPlays
open Go.RowKit Go.Proofs.Ytnpndfcghfoofaa.QAdlerPlays Go.Proofs.YtnpndfcghfoofaaW.PrintWords Go.Proofs.YtnpndfcghfoofaaW.PrintLast Go.Proofs.YtnpndfcghfoofaaW.PrintMore Go.Proofs.Ytnpndfcghfoofaa.AdM
theorem awake_c (w : World) : Calls Try.prog 12 #[] w fun e w' => e = .returned (.bool true) ∧ Drawn0 w w' := shalelaw02_awake.calls 10 true w (awake_at 10 (by omega))
theorem sum_c (s : ByteArray) (hs : s.size ≤ 4611686018427387904) (w : World) : Calls Try.prog 13 #[.string s] w fun e w' => e = .returned (.int .u32 (sum s)) ∧ Drawn0 w w' := adler_Sum.calls _ s _ w (sum_at s hs _ (Nat.lt_succ_self _))
theorem ref_c (s : ByteArray) (hs : s.size ≤ 20000) (w : World) : Calls Try.prog 19 #[.string s] w fun e w' => e = .returned (.int .u32 (sum s)) ∧ Drawn0 w w' := shaleref02_Sum.calls _ s _ w (ref_at s hs _ (Nat.lt_succ_self _))
theorem four_c (x : Int) (w : World) : Calls Try.prog 20 #[.int .u32 x] w fun e w' => e = .returned (.string (four x)) ∧ Below w.heap.size w w' := adler_Four.calls x _ w (four_at x)
theorem reff_c (x : Int) (h0 : 0 ≤ x) (h1 : x < 4294967296) (w : World) : Calls Try.prog 21 #[.int .u32 x] w fun e w' => e = .returned (.string (four x)) ∧ Below w.heap.size w w' := shaleref02_Four.calls 5 x _ w (reff_at x 5 (by omega) h0 h1)
theorem numb_c (s : ByteArray) (w : World) : Calls Try.prog 22 #[.string s] w fun e w' => e = .returned (.int .u32 (numb s)) ∧ Drawn0 w w' := adler_Number.calls 5 s _ w (numb_at s 5 (by omega))

set_option maxHeartbeats 1000000 in
theorem plays_long (s : ByteArray) (x : Int) (w : World) (hs : 20000 < s.size) (hm : s.size ≤ 4611686018427387904) : Calls Try.prog 9 #[.string s, .int .u32 x] w fun e w' => e = .returned (.bool true) ∧ Below w.heap.size w w' := by
  have c1 : decide ((20000 : Int) < (s.size : Int)) = true := by simp; omega
  have c2 : decide ((20000 : Nat) < s.size) = true := by simp; omega
  go_enter Try.func9, Try.ntmps9
  go_wp2_with fail
  refine (awake_c _).mono ?_
  rintro e w1 ⟨rfl, ⟨n1, rfl⟩⟩
  go_wp2_with fail
  refine (awake_c _).mono ?_
  rintro e w1 ⟨rfl, ⟨n2, rfl⟩⟩
  go_wp2_with fail
  go_ret
  exact ⟨rfl, by repeat (first | exact Below.refl _ _ | apply pw_below_drewN | apply below_drew1)⟩

theorem below_on {B : Nat} {w w1 w2 : World} (h : Hid (Below B w w1)) (hB : B ≤ w.heap.size) (k : Below w1.heap.size w1 w2) : Hid (Below B w w2) :=
  h.out.trans (k.mono (Nat.le_trans hB h.out.size))
theorem four2_c (x : Int) (f4 : ByteArray) (hf : four x = f4) (h0 : 0 ≤ x) (h1 : x < 4294967296) (w : World) : Calls Try.prog 21 #[.int .u32 x] w fun e w' => e = .returned (.string f4) ∧ Below w.heap.size w w' := by
  subst hf; exact reff_c x h0 h1 w
theorem four3_c (x : Int) (f4 : ByteArray) (hf : four x = f4) (w : World) : Calls Try.prog 20 #[.int .u32 x] w fun e w' => e = .returned (.string f4) ∧ Below w.heap.size w w' := by
  subst hf; exact four_c x w
theorem numb_join (x : Int) (f4 s : ByteArray) (hf : four x = f4) (h0 : 0 ≤ x) (h1 : x < 4294967296) (w : World) : Calls Try.prog 22 #[.string (f4 ++ s)] w fun e w' => e = .returned (.int .u32 x) ∧ Drawn0 w w' := by
  subst hf
  have h := numb_c (four x ++ s) w
  rw [numb_four x s h0 h1] at h
  exact h
theorem numb_none (w : World) : Calls Try.prog 22 #[.string ⟨#[]⟩] w fun e w' => e = .returned (.int .u32 0) ∧ Drawn0 w w' := by
  have h := numb_c ⟨#[]⟩ w
  rw [numb_empty] at h
  exact h
theorem numb_cut (x : Int) (f4 : ByteArray) (hf : four x = f4) (h0 : 0 ≤ x) (h1 : x < 4294967296) (w : World) : Calls Try.prog 22 #[.string (f4.extract 0 3)] w fun e w' => e = .returned (.int .u32 (x - x % 256)) ∧ Drawn0 w w' := by
  subst hf
  have h := numb_c ((four x).extract 0 3) w
  rw [numb_three x h0 h1] at h
  exact h
set_option maxHeartbeats 2000000 in
set_option maxRecDepth 100000 in
theorem plays_short (s : ByteArray) (x : Int) (w : World) (hs : s.size ≤ 20000) (h0 : 0 ≤ x) (h1 : x < 4294967296) : Calls Try.prog 9 #[.string s, .int .u32 x] w fun e w' => e = .returned (.bool true) ∧ Below w.heap.size w w' := by
  have c1 : decide ((20000 : Int) < (s.size : Int)) = false := by simp; omega
  have c2 : decide ((20000 : Nat) < s.size) = false := by simp; omega
  have z4 : (four x).size = 4 := four_size x
  have HS := Lib.hid hs
  clear hs
  have HZ := Lib.hid z4
  clear z4
  generalize hf : four x = f4 at *
  have HF := Lib.hid hf
  clear hf
  go_enter Try.func9, Try.ntmps9
  go_wp2_with fail
  refine (awake_c _).mono ?_
  rintro e w1 ⟨rfl, ⟨n1, rfl⟩⟩
  go_wp2_with fail
  refine (sum_c s (by have := HS.out; omega) _).mono ?_
  rintro e w1 ⟨rfl, ⟨n2, rfl⟩⟩
  go_wp2_with fail
  refine (ref_c s HS.out _).mono ?_
  rintro e w1 ⟨rfl, ⟨n3, rfl⟩⟩
  go_wp2_with fail
  refine (four3_c x f4 HF.out _).mono ?_
  rintro e w1 ⟨rfl, hb1⟩
  have HB1 : Hid (Below w.heap.size w w1) := (by repeat (first | exact Below.refl _ _ | apply pw_below_drewN) : Below w.heap.size w _).trans (hb1.mono (by simp))
  clear hb1
  go_wp2_with fail
  refine (four2_c x f4 HF.out h0 h1 _).mono ?_
  rintro e w2 ⟨rfl, hb2⟩
  have HB2 := below_on HB1 (Nat.le_refl _) hb2
  clear hb2
  go_wp2_with fail
  refine (four3_c x f4 HF.out _).mono ?_
  rintro e w3 ⟨rfl, hb3⟩
  have HB3 := below_on HB2 (Nat.le_refl _) hb3
  clear hb3
  have Z : f4.size + s.size ≤ 9223372036854775807 := by have := HS.out; have := HZ.out; omega
  go_wp2_with fail
  refine (numb_join x f4 s HF.out h0 h1 _).mono ?_
  rintro e w4 ⟨rfl, hd4⟩
  have HB4 := below_on HB3 (Nat.le_refl _) hd4.below
  clear hd4
  go_wp2_with fail
  refine (numb_none _).mono ?_
  rintro e w5 ⟨rfl, hd5⟩
  have HB5 := below_on HB4 (Nat.le_refl _) hd5.below
  clear hd5
  go_wp2_with fail
  refine (four3_c x f4 HF.out _).mono ?_
  rintro e w6 ⟨rfl, hb6⟩
  have HB6 := below_on HB5 (Nat.le_refl _) hb6
  clear hb6
  have Z2 : (3 : Int) ≤ (f4.size : Int) := by have := HZ.out; omega
  have Z3 : 3 ≤ f4.size := by have := HZ.out; omega
  go_wp2_with fail
  refine (numb_cut x f4 HF.out h0 h1 _).mono ?_
  rintro e w7 ⟨rfl, hd7⟩
  have HB7 := below_on HB6 (Nat.le_refl _) hd7.below
  clear hd7
  have Z4 : ((x - x % 256) == (x - x % 256)) = true := beq_self_eq_true _
  go_wp2_with fail
  go_ret
  exact ⟨rfl, HB7.out⟩
theorem walk (s : ByteArray) (x : Int) (w : World) (hs : s.size ≤ 140737488351232) (hx : (Lit.int .u32 x).wf = true) : Calls Try.prog 9 #[.string s, .int .u32 x] w fun e w' => e = .returned (.bool true) ∧ Below w.heap.size w w' := by
  have hx' : 0 ≤ x ∧ x < 4294967296 := by
    simp [Lit.wf, IntKind.min, IntKind.max, IntKind.bits, IntKind.signed] at hx
    omega
  by_cases h : 20000 < s.size
  · exact plays_long s x w h (by omega)
  · exact plays_short s x w (by omega) hx'.1 hx'.2
end Go.Proofs.Ytnpndfcghfoofaa.RowAdlerPlays
