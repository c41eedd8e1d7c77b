/- adler.Sum, Four and Number: what they answer. -/
import Derived.Test.YtabhfopmblaohaaDoorQOperBack
import Derived.Test.YtabhfopmblaohaaDoorCodeNum
import Derived.Test.YtabhfopmblaohaaDoorAdler
import Derived.Lib.Hide
set_option linter.unusedVariables false
set_option linter.unusedSimpArgs false
namespace Go.Proofs.YtabhfopmblaohaaDoor.AdQ
open Go.RowKit Go.Proofs.YtabhfopmblaohaaDoor.QOperBack Go.Proofs.YtabhfopmblaohaaDoorW.PrintWords Go.Proofs.YtabhfopmblaohaaDoorW.PrintLast Go.Proofs.YtabhfopmblaohaaDoorW.PrintMore Go.Proofs.YtabhfopmblaohaaDoor.CdM Go.Proofs.YtabhfopmblaohaaDoor.AdM
theorem sl_length (s : ByteArray) : s.data.toList.length = s.size := by simp
theorem sum_l (s : ByteArray) (hs : s.size ≤ 4611686018427387904) : ∀ (d k i : Nat) (a b : Int), i + d = s.size → d < k → 0 ≤ a → a < 65521 → 0 ≤ b → b < 65521 →
    adler_Sum.l0 k s a b (s.size : Int) (i : Int) = some ((fold ((bl s).drop i) a b).2 * 65536 + (fold ((bl s).drop i) a b).1) := by
  intro d
  induction d with
  | zero =>
    intro k i a b hi hk h1 h2 h3 h4
    obtain ⟨k, rfl⟩ : ∃ m, k = m + 1 := ⟨k - 1, by omega⟩
    have e : (bl s).drop i = [] := List.drop_eq_nil_of_le (by rw [bl_length]; omega)
    simp only [adler_Sum.l0]
    rw [if_neg (by omega), e, or16 b a ⟨h3, h4⟩ ⟨h1, h2⟩]
    rfl
  | succ d ih =>
    intro k i a b hi hk h1 h2 h3 h4
    obtain ⟨k, rfl⟩ : ∃ m, k = m + 1 := ⟨k - 1, by omega⟩
    have c1 : (i : Int) < (s.size : Int) := by omega
    have c2 : (0 : Int) ≤ (i : Int) := Int.natCast_nonneg i
    have e4 : wrap64 ((i : Int) + 1) = ((i + 1 : Nat) : Int) := by unfold wrap64; omega
    have hr := bt_range s i
    generalize hb : bt s i = q at hr
    have e1 : q % 4294967296 = q := by omega
    have e2 : (a + q) % 4294967296 = a + q := by omega
    have e3 : (b + (a + q) % 65521) % 4294967296 = b + (a + q) % 65521 := by omega
    have hd := bl_drop s i (by omega)
    have g1 : 0 ≤ (a + q) % 65521 ∧ (a + q) % 65521 < 65521 := by omega
    have g2 : 0 ≤ (b + (a + q) % 65521) % 65521 ∧ (b + (a + q) % 65521) % 65521 < 65521 := by omega
    simp only [adler_Sum.l0]
    rw [if_pos c1, if_pos c2, if_pos c1, hb, e1, e2, e3, e4]
    rw [ih k (i + 1) _ _ (by omega) (by omega) g1.1 g1.2 g2.1 g2.2, hd, hb]
    rfl
theorem sum_at (s : ByteArray) (hs : s.size ≤ 4611686018427387904) (k : Nat) (hk : s.size < k) : adler_Sum.f k s = some (sum s) := by
  unfold adler_Sum.f
  have h := sum_l s hs s.size k 0 1 0 (by omega) hk (by omega) (by omega) (by omega) (by omega)
  rw [List.drop_zero, fold_AB] at h
  exact h
theorem sum_c (s : ByteArray) (w : World) (hs : s.size ≤ 4611686018427387904) : Calls Tryd.prog 30 #[.string s] w fun e w' => e = .returned (.int .u32 (sum s)) ∧ Below w.heap.size w w' :=
  (adler_Sum.calls (s.size + 1) s (sum s) w (sum_at s hs _ (by omega))).mono fun e w' h => ⟨h.1, h.2.below⟩
def fourS (n : Int) : ByteArray := strOfNums [(n / 16777216) % 256, (n / 65536) % 256, (n / 256) % 256, n % 256]
theorem fourS_size (n : Int) : (fourS n).size = 4 := by unfold fourS; rw [strOfNums_size]; rfl
theorem four_c (n : Int) (w : World) : Calls Tryd.prog 29 #[.int .u32 n] w fun e w' => e = .returned (.string (fourS n)) ∧ Below w.heap.size w w' :=
  adler_Four.calls n _ w rfl
def numV (s : ByteArray) : Int := bt s 0 * 16777216 + bt s 1 * 65536 + bt s 2 * 256 + bt s 3
theorem or8 (x y : Int) (hx : 0 ≤ x ∧ x < 16777216) (hy : 0 ≤ y ∧ y ≤ 255) : Go.bits .or .u32 ((x * 256) % 4294967296) (y % 4294967296) = x * 256 + y := by
  have e : (x * 256) % 4294967296 = x * 256 := by omega
  have e2 : y % 4294967296 = y := by omega
  rw [e, e2]
  exact bits_join .u32 32 (by decide) wraps_u32 8 (x * 256) y (by omega) (by omega) (by omega) (by omega) (by omega) (by omega)
theorem number_step (s : ByteArray) (hs : s.size = 4) (k : Nat) (x : Int) (i : Nat) (hi : i < 4) (hx : 0 ≤ x ∧ x < 16777216) (r : Option Int) (h : adler_Number.l0 k s (x * 256 + bt s (i : Int)) ((i + 1 : Nat) : Int) = r) : adler_Number.l0 (k + 1) s x (i : Int) = r := by
  have c1 : (i : Int) < 4 := by omega
  have c2 : (i : Int) < (s.size : Int) := by omega
  have c3 : (0 : Int) ≤ (i : Int) := by omega
  have e : wrap64 ((i : Int) + 1) = ((i + 1 : Nat) : Int) := by unfold wrap64; omega
  simp only [adler_Number.l0]
  rw [if_pos c1, if_pos c2, if_pos c3, or8 x _ hx (bt_range s _), e]
  exact h
theorem number_at (s : ByteArray) (hs : s.size = 4) (k : Nat) : adler_Number.f (k + 1 + 1 + 1 + 1 + 1) s = some (numV s) := by
  have r0 := bt_range s 0
  have r1 := bt_range s 1
  have r2 := bt_range s 2
  have r3 := bt_range s 3
  unfold adler_Number.f
  refine number_step s hs _ 0 0 (by omega) (by omega) _ ?_
  refine number_step s hs _ _ 1 (by omega) (by show 0 ≤ 0 * 256 + bt s 0 ∧ 0 * 256 + bt s 0 < _; omega) _ ?_
  refine number_step s hs _ _ 2 (by omega) (by show 0 ≤ (0 * 256 + bt s 0) * 256 + bt s 1 ∧ (0 * 256 + bt s 0) * 256 + bt s 1 < _; omega) _ ?_
  refine number_step s hs _ _ 3 (by omega) (by show 0 ≤ ((0 * 256 + bt s 0) * 256 + bt s 1) * 256 + bt s 2 ∧ ((0 * 256 + bt s 0) * 256 + bt s 1) * 256 + bt s 2 < _; omega) _ ?_
  simp only [adler_Number.l0]
  rw [if_neg (by decide)]
  unfold numV
  congr 1
  show (((0 * 256 + bt s 0) * 256 + bt s 1) * 256 + bt s 2) * 256 + bt s 3 = _
  omega
theorem number_c (s : ByteArray) (v : Int) (w : World) (hs : s.size = 4) (hv : Hid (numV s = v)) : Calls Tryd.prog 36 #[.string s] w fun e w' => e = .returned (.int .u32 v) ∧ Below w.heap.size w w' :=
  (adler_Number.calls _ s _ w ((number_at s hs 10).trans (by rw [hv.out]))).mono fun e w' h => ⟨h.1, h.2.below⟩
theorem numV_lt (s : ByteArray) : 0 ≤ numV s ∧ numV s < 4294967296 := by
  have r0 := bt_range s 0
  have r1 := bt_range s 1
  have r2 := bt_range s 2
  have r3 := bt_range s 3
  unfold numV
  omega
theorem bt_of (s : ByteArray) (i : Nat) (b : UInt8) (h : s.data.toList[i]? = some b) : bt s (i : Int) = ((b.toNat : Nat) : Int) := by
  have hs := sl_length s
  obtain ⟨hi, e⟩ := List.getElem?_eq_some_iff.1 h
  unfold bt
  rw [dif_pos (by rw [Int.toNat_natCast]; omega)]
  simp only [Int.toNat_natCast]
  rw [← e]
  rfl
end Go.Proofs.YtabhfopmblaohaaDoor.AdQ
