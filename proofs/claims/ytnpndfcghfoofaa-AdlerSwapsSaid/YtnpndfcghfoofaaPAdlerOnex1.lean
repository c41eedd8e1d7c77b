-- PRINTED BY print.sh 35421559b90ae4d0a3588c463048766b98c2df88dd9212a6774a882060cdf62d: not written by this session
import Derived.Test.YtnpndfcghfoofaaPAdlerOnex0
namespace Go.Proofs.Ytnpndfcghfoofaa.PAdlerOne
open Go.RowKit Go.Proofs.YtnpndfcghfoofaaW.PrintWords Go.Proofs.YtnpndfcghfoofaaW.PrintLast Go.Proofs.YtnpndfcghfoofaaW.PrintMore
attribute [local go_sem] max2_int min2_int max_two min_two max_three min_three max_four min_four   -- for this text's walks alone
set_option linter.unusedVariables false
set_option linter.unusedSimpArgs false

/-! ### adler_Sum: function 13 -/
def adler_Sum.l0 : Nat → ByteArray → Int → Int → Int → Int → Option (Int)
  | 0, _, _, _, _, _ => none
  | k + 1, x0, x3, x4, x7, x8 => if x8 < x7 then (if 0 ≤ x8 then (if x8 < (x0.size : Int) then (adler_Sum.l0 k x0 (((x3 + ((bt x0 x8) % 4294967296)) % 4294967296) % 65521) (((x4 + (((x3 + ((bt x0 x8) % 4294967296)) % 4294967296) % 65521)) % 4294967296) % 65521) x7 (wrap64 (x8 + 1))) else (none)) else (none)) else (some (Go.bits .or .u32 ((x4 * 65536) % 4294967296) x3))
def adler_Sum.f (k : Nat) (a0 : ByteArray) : Option (Int) := adler_Sum.l0 k a0 1 0 (a0.size : Int) 0
theorem adler_Sum.mono_l : ∀ k, (∀ y0 y1 y2 y3 y4, LeO (adler_Sum.l0 k y0 y1 y2 y3 y4) (adler_Sum.l0 (k + 1) y0 y1 y2 y3 y4))
  | 0 => fun _ _ _ _ _ r h => by simp [adler_Sum.l0] at h
  | k + 1 => by
    have ih0 := adler_Sum.mono_l k
    · intro y0 y1 y2 y3 y4
      unfold adler_Sum.l0
      repeat' first
      | (with_reducible exact ih0 _ _ _ _ _)
      | (with_reducible exact LeO.refl _)
      | (with_reducible exact LeO.none _)
      | (with_reducible refine LeO.ite ?_ ?_)
      | (with_reducible refine LeO.bind ?_ (fun _ => ?_))
      | exact ih0 _ _ _ _ _
      | exact LeO.none _
      | refine LeO.ite ?_ ?_
      | refine LeO.bind ?_ (fun _ => ?_)
theorem adler_Sum.mono : ∀ a0 k, LeO (adler_Sum.f k a0) (adler_Sum.f (k + 1) a0) := by
  intro a0 k
  have ih0 := adler_Sum.mono_l k
  unfold adler_Sum.f
  repeat' first
      | (with_reducible exact ih0 _ _ _ _ _)
      | (with_reducible exact LeO.refl _)
      | (with_reducible exact LeO.none _)
      | (with_reducible refine LeO.ite ?_ ?_)
      | (with_reducible refine LeO.bind ?_ (fun _ => ?_))
      | exact ih0 _ _ _ _ _
      | exact LeO.none _
      | refine LeO.ite ?_ ?_
      | refine LeO.bind ?_ (fun _ => ?_)
set_option maxHeartbeats 8000000 in
set_option maxRecDepth 100000 in
theorem adler_Sum.calls (k : Nat) (a0 : ByteArray) (r : Int) (w : World) (h : adler_Sum.f k a0 = some r) :
    Calls Try.prog 13 #[.string a0] w fun e w' => e = .returned (.int .u32 r) ∧ Drawn0 w w' := by
  have H : (adler_Sum.l0 k a0 1 0 (a0.size : Int) 0) = some r := h
  clear h
  have H' := Aside0.mk H
  clear H
  go_enter Try.func13, Try.ntmps13
  go_wp2
  go_loopg [3, 4, 8] k (fun kq v3 v4 v8 w' => ∃ (x3_1 : Int) (x4_1 : Int) (x8_1 : Int), v3 = .int .u32 x3_1 ∧ v4 = .int .u32 x4_1 ∧ v8 = .int .i64 x8_1 ∧ Aside0 (adler_Sum.l0 kq a0 x3_1 x4_1 (a0.size : Int) x8_1 = some r) ∧ Aside0 (kq ≤ k) ∧ Drawn0 w w')
  case atStart => exact ⟨(1), (0), (0), (by first | rfl | (simp; done) | (simp [*]; done)), (by first | rfl | (simp; done) | (simp [*]; done)), (by first | rfl | (simp; done) | (simp [*]; done)), H', ⟨Nat.le_refl _⟩, by repeat (first | exact Drawn0.refl _ | apply Drawn0.step)⟩
  case round =>
    clear H'
    try clear c1
    obtain ⟨x3_1, x4_1, x8_1, rfl, rfl, rfl, HA, HK1, ⟨m1, rfl⟩⟩ := hrel
    cases gk with
    | zero => exact absurd HA.out (by simp [adler_Sum.l0])
    | succ k1 =>
      have H := HA.out
      clear HA
      simp only [adler_Sum.l0] at H
      by_cases c2 : x8_1 < (a0.size : Int)
      · rw [if_pos c2] at H
        have c2b0 : decide (x8_1 < (a0.size : Int)) = true := decide_eq_true c2
        clear c2
        by_cases c3 : 0 ≤ x8_1
        · rw [if_pos c3] at H
          have c3b0 : decide (0 ≤ x8_1) = true := decide_eq_true c3
          clear c3
          by_cases c4 : x8_1 < (a0.size : Int)
          · rw [if_pos c4] at H
            have c4b0 : decide (x8_1 < (a0.size : Int)) = true := decide_eq_true c4
            clear c4
            have H' := Aside0.mk H
            clear H
            have p5 : 0 ≤ (x8_1 : Int) := of_decide_eq_true (by first | (with_reducible assumption) | assumption)
            have q5 : x8_1 < (a0.size : Int) := of_decide_eq_true (by first | (with_reducible assumption) | assumption)
            have hx5 := bt_at a0 x8_1
            replace p5 := eq_true p5
            replace q5 := eq_true q5
            go_wp2
            go_roundg k1
            case measure => have := HK1.out; omega
            case rel => exact ⟨(((x3_1 + ((bt a0 x8_1) % 4294967296)) % 4294967296) % 65521), (((x4_1 + (((x3_1 + ((bt a0 x8_1) % 4294967296)) % 4294967296) % 65521)) % 4294967296) % 65521), (wrap64 (x8_1 + 1)), (by first | rfl | (simp; done) | (simp [*]; done)), (by first | rfl | (simp; done) | (simp [*]; done)), (by first | rfl | (simp; done) | (simp [*]; done)), H', ⟨by have := HK1.out; omega⟩, by repeat (first | exact Drawn0.refl _ | apply Drawn0.step)⟩
          · rw [if_neg c4] at H
            exact absurd H (by simp)
        · rw [if_neg c3] at H
          exact absurd H (by simp)
      · rw [if_neg c2] at H
        have c2b0 : decide (x8_1 < (a0.size : Int)) = false := decide_eq_false c2
        clear c2
        obtain rfl := Option.some.inj H
        go_wp2
        go_ret
        exact ⟨by first | rfl | (simp; done) | (simp [*]; done), by repeat (first | exact Drawn0.refl _ | apply Drawn0.step)⟩

/-! ### shalelaw02_awake: function 12 -/
def shalelaw02_awake.f (k : Nat)  : Option (Bool) := (adler_Sum.f k (⟨#[87, 105, 107, 105, 112, 101, 100, 105, 97]⟩ : ByteArray)).bind fun t101 => (some (t101 == 300286872))
theorem shalelaw02_awake.mono : ∀ k, LeO (shalelaw02_awake.f k ) (shalelaw02_awake.f (k + 1) ) := by
  intro  k
  unfold shalelaw02_awake.f
  repeat' first
      | (with_reducible exact adler_Sum.mono _ _)
      | (with_reducible exact LeO.refl _)
      | (with_reducible exact LeO.none _)
      | (with_reducible refine LeO.ite ?_ ?_)
      | (with_reducible refine LeO.bind ?_ (fun _ => ?_))
      | exact adler_Sum.mono _ _
      | exact LeO.none _
      | refine LeO.ite ?_ ?_
      | refine LeO.bind ?_ (fun _ => ?_)
set_option maxHeartbeats 8000000 in
set_option maxRecDepth 100000 in
theorem shalelaw02_awake.calls (k : Nat)  (r : Bool) (w : World) (h : shalelaw02_awake.f k  = some r) :
    Calls Try.prog 12 #[] w fun e w' => e = .returned (.bool r) ∧ Drawn0 w w' := by
  have H : ((adler_Sum.f k (⟨#[87, 105, 107, 105, 112, 101, 100, 105, 97]⟩ : ByteArray)).bind fun t101 => (some (t101 == 300286872))) = some r := h
  clear h
  replace H := Option.bind_eq_some_iff.mp H
  obtain ⟨t101, A10, H⟩ := H
  replace H : (some (t101 == 300286872)) = some r := H
  have A1 := Aside0.mk A10
  clear A10
  obtain rfl := Option.some.inj H
  go_enter Try.func12, Try.ntmps12
  go_wp2_with (first | ((with_reducible refine gate_callee (f := 13) rfl ?_); refine goesL_ (some 1) rfl rfl Try.func13 (by kernel_rfl) rfl #[.string (⟨#[87, 105, 107, 105, 112, 101, 100, 105, 97]⟩ : ByteArray)] rfl (by (try simp only [List.map_toArray, List.map_cons, List.map_nil]); first | done | rfl | (simp only [List.length_drop, List.length_take]; rfl)) ?_; (with_reducible refine (adler_Sum.calls k (⟨#[87, 105, 107, 105, 112, 101, 100, 105, 97]⟩ : ByteArray) t101 _ A1.out).mono ?_); rintro e w' ⟨rfl, ⟨nd, rfl⟩⟩; refine ⟨_, rfl, ?_⟩))
  go_ret
  exact ⟨by first | rfl | (simp; done) | (simp [*]; done), by repeat (first | exact Drawn0.refl _ | apply Drawn0.step)⟩

-- NOT PRINTED: function 3 (shalelaw02_AdlerOne)

end Go.Proofs.Ytnpndfcghfoofaa.PAdlerOne
