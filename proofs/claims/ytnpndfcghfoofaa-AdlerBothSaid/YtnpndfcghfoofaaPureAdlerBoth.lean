/- The law AdlerBoth over numbers and lists: the sum of two texts, one behind the other, is told by both sums; for every two texts whose sizes are within the model's reach. -/
import Derived.Test.YtnpndfcghfoofaaPAdlerBothx1
import Derived.Test.YtnpndfcghfoofaaAdler
namespace Go.Proofs.Ytnpndfcghfoofaa.Pure
open Go.RowKit Go.Proofs.Ytnpndfcghfoofaa.PAdlerBoth Go.Proofs.YtnpndfcghfoofaaW.PrintWords Go.Proofs.YtnpndfcghfoofaaW.PrintLast Go.Proofs.YtnpndfcghfoofaaW.PrintMore Go.Proofs.Ytnpndfcghfoofaa.AdM

theorem sum_l (s : ByteArray) (hs : s.size ≤ 4611686018427387904) : ∀ (d k i : Nat) (a b : Int), i + d = s.size → d < k → 0 ≤ a → a < 65521 → 0 ≤ b → b < 65521 →
    adler_Sum.l0 k s a b (s.size : Int) (i : Int) = some ((fold ((bl s).drop i) a b).2 * 65536 + (fold ((bl s).drop i) a b).1) := by
  intro d
  induction d with
  | zero =>
    intro k i a b hi hk h1 h2 h3 h4
    obtain ⟨k, rfl⟩ : ∃ m, k = m + 1 := ⟨k - 1, by omega⟩
    have e : (bl s).drop i = [] := List.drop_eq_nil_of_le (by rw [bl_length]; omega)
    simp only [adler_Sum.l0]
    rw [if_neg (by omega), e, or16 b a ⟨h3, h4⟩ ⟨h1, h2⟩]
    rfl
  | succ d ih =>
    intro k i a b hi hk h1 h2 h3 h4
    obtain ⟨k, rfl⟩ : ∃ m, k = m + 1 := ⟨k - 1, by omega⟩
    have c1 : (i : Int) < (s.size : Int) := by omega
    have c2 : (0 : Int) ≤ (i : Int) := Int.natCast_nonneg i
    have e4 : wrap64 ((i : Int) + 1) = ((i + 1 : Nat) : Int) := by unfold wrap64; omega
    have hr := bt_range s i
    generalize hb : bt s i = q at hr
    have e1 : q % 4294967296 = q := by omega
    have e2 : (a + q) % 4294967296 = a + q := by omega
    have e3 : (b + (a + q) % 65521) % 4294967296 = b + (a + q) % 65521 := by omega
    have hd := bl_drop s i (by omega)
    have g1 : 0 ≤ (a + q) % 65521 ∧ (a + q) % 65521 < 65521 := by omega
    have g2 : 0 ≤ (b + (a + q) % 65521) % 65521 ∧ (b + (a + q) % 65521) % 65521 < 65521 := by omega
    simp only [adler_Sum.l0]
    rw [if_pos c1, if_pos c2, if_pos c1, hb, e1, e2, e3, e4]
    rw [ih k (i + 1) _ _ (by omega) (by omega) g1.1 g1.2 g2.1 g2.2, hd, hb]
    rfl
theorem sum_at (s : ByteArray) (hs : s.size ≤ 4611686018427387904) (k : Nat) (hk : s.size < k) : adler_Sum.f k s = some (sum s) := by
  unfold adler_Sum.f
  have h := sum_l s hs s.size k 0 1 0 (by omega) hk (by omega) (by omega) (by omega) (by omega)
  rw [List.drop_zero, fold_AB] at h
  exact h
theorem awake_at (k : Nat) (hk : 9 < k) : shalelaw02_awake.f k = some true := by
  unfold shalelaw02_awake.f
  rw [sum_at ⟨#[87, 105, 107, 105, 112, 101, 100, 105, 97]⟩ (by decide) k hk]
  simp only [Option.bind_some]
  decide +kernel
theorem and16 (x y : Int) (hx : 0 ≤ x ∧ x < 65521) (hy : 0 ≤ y ∧ y < 65521) : Go.bits .and .u32 (x * 65536 + y) 65535 = y := by
  have h := bits_mask .u32 32 (by decide) wraps_u32 16 (by decide) (x * 65536 + y) (by omega) (by omega)
  have e : (x * 65536 + y) % 2 ^ 16 = y := by omega
  rw [e] at h
  exact h
theorem both_of (x y x' y' n : Int) (hx : 0 ≤ x ∧ x < 65521) (hy : 0 ≤ y ∧ y < 65521) (hx' : 0 ≤ x' ∧ x' < 65521) (hy' : 0 ≤ y' ∧ y' < 65521) (hn : 0 ≤ n) :
    adler_Both.f (x * 65536 + y) (x' * 65536 + y') n = some (((x + x' + (n % 65521) * ((y + 65521 - 1) % 65521)) % 65521) * 65536 + (y + y' + 65521 - 1) % 65521) := by
  unfold adler_Both.f
  have hm : mx n 0 = n := by unfold mx; split <;> omega
  have hp : 0 ≤ (n % 65521) * ((y + 65521 - 1) % 65521) ∧ (n % 65521) * ((y + 65521 - 1) % 65521) < 65521 * 65521 := by
    have a1 : 0 ≤ n % 65521 := by omega
    have a2 : n % 65521 ≤ 65520 := by omega
    have b1 : 0 ≤ (y + 65521 - 1) % 65521 := by omega
    have b2 : (y + 65521 - 1) % 65521 ≤ 65520 := by omega
    refine ⟨Int.mul_nonneg a1 b1, ?_⟩
    have := Int.mul_le_mul a2 b2 b1 (by omega)
    omega
  rw [and16 x y hx hy, and16 x' y' hx' hy', hm]
  have d1 : (x * 65536 + y) / 65536 = x := by omega
  have d2 : (x' * 65536 + y') / 65536 = x' := by omega
  rw [d1, d2]
  have u : ∀ z : Int, 0 ≤ z → z < 18446744073709551616 → IntKind.u64.wrap z = z := fun z h1 h2 => by rw [IntKind.wrap_u64]; omega
  rw [u x (by omega) (by omega), u x' (by omega) (by omega), u y (by omega) (by omega), u y' (by omega) (by omega)]
  rw [u (x + x') (by omega) (by omega), u (y + 65521) (by omega) (by omega), u (y + 65521 - 1) (by omega) (by omega), u (y + y') (by omega) (by omega), u (y + y' + 65521) (by omega) (by omega), u (y + y' + 65521 - 1) (by omega) (by omega)]
  rw [Int.tmod_eq_emod_of_nonneg (a := y + 65521 - 1) (by omega), Int.tmod_eq_emod_of_nonneg (a := y + y' + 65521 - 1) (by omega)]
  generalize (n % 65521) * ((y + 65521 - 1) % 65521) = p at *
  rw [u p (by omega) (by omega), u (x + x' + p) (by omega) (by omega), Int.tmod_eq_emod_of_nonneg (a := x + x' + p) (by omega)]
  rw [u ((x + x' + p) % 65521 * 65536) (by omega) (by omega)]
  have h := bits_join .u64 64 (by decide) wraps_u64 16 ((x + x' + p) % 65521 * 65536) ((y + y' + 65521 - 1) % 65521) (by omega) (by omega) (by omega) (by omega) (by omega) (by omega)
  rw [h]
  congr 1
  omega
theorem both_at (s t : ByteArray) : adler_Both.f (sum s) (sum t) (t.size : Int) = some (sum (s ++ t)) := by
  unfold sum
  rw [both_of _ _ _ _ _ (B_lt _) (A_lt _) (B_lt _) (A_lt _) (by omega), bl_append, A_append, B_append, bl_length]
theorem AdlerBoth : shalelaw02_AdlerBoth.Pure := by
  intro s t hs ht
  refine ⟨20003 + s.size + t.size, ?_⟩
  unfold shalelaw02_AdlerBoth.f
  rw [awake_at _ (by omega)]
  simp only [Option.bind_some, if_true]
  have J : ∀ b, (b = false → s.size ≤ 20000 ∧ t.size ≤ 20000) → shalelaw02_AdlerBoth.j0 (20003 + s.size + t.size) s t b = some true := by
    intro b hb
    rw [show 20003 + s.size + t.size = (20002 + s.size + t.size) + 1 by omega]
    simp only [shalelaw02_AdlerBoth.j0]
    rw [awake_at _ (by omega)]
    cases b with
    | true => simp
    | false =>
      obtain ⟨h1, h2⟩ := hb rfl
      rw [if_neg (by decide), sum_at s (by omega) _ (by omega), sum_at t (by omega) _ (by omega)]
      simp only [Option.bind_some]
      rw [both_at]
      simp only [Option.bind_some]
      rw [if_pos (by omega), sum_at (s ++ t) (by rw [ByteArray.size_append]; omega) _ (by rw [ByteArray.size_append]; omega)]
      simp
  split
  · exact J true (by simp)
  · exact J _ (fun h => by simp at h; omega)

end Go.Proofs.Ytnpndfcghfoofaa.Pure
