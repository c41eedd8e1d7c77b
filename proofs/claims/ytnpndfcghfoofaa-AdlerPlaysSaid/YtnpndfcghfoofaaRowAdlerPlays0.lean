/- What AdlerPlays' callees answer, told outright: the sum, a number's bytes, the number of bytes; for every text of up to 20000 bytes and every number of 32 bits. -/
import Derived.Test.YtnpndfcghfoofaaQAdlerPlays
import Derived.Test.YtnpndfcghfoofaaAdler
namespace Go.Proofs.Ytnpndfcghfoofaa.RowAdlerPlays
open Go.RowKit Go.Proofs.Ytnpndfcghfoofaa.QAdlerPlays Go.Proofs.YtnpndfcghfoofaaW.PrintWords Go.Proofs.YtnpndfcghfoofaaW.PrintLast Go.Proofs.YtnpndfcghfoofaaW.PrintMore Go.Proofs.Ytnpndfcghfoofaa.AdM

theorem bnd {α β : Type} {x : Option α} {f : α → Option β} {v : α} {r : Option β} (hx : x = some v) (h : f v = r) : x.bind f = r := by rw [hx]; exact h
theorem itp {α : Type} {c : Prop} {_ : Decidable c} {A B r : Option α} (hc : c) (h : A = r) : (if c then A else B) = r := by rw [if_pos hc]; exact h
theorem itn {α : Type} {c : Prop} {_ : Decidable c} {A B r : Option α} (hc : ¬ c) (h : B = r) : (if c then A else B) = r := by rw [if_neg hc]; exact h
theorem sum_l (s : ByteArray) (hs : s.size ≤ 4611686018427387904) : ∀ (d k i : Nat) (a b : Int), i + d = s.size → d < k → 0 ≤ a → a < 65521 → 0 ≤ b → b < 65521 →
    adler_Sum.l0 k s a b (s.size : Int) (i : Int) = some ((fold ((bl s).drop i) a b).2 * 65536 + (fold ((bl s).drop i) a b).1) := by
  intro d
  induction d with
  | zero =>
    intro k i a b hi hk h1 h2 h3 h4
    obtain ⟨k, rfl⟩ : ∃ m, k = m + 1 := ⟨k - 1, by omega⟩
    have e : (bl s).drop i = [] := List.drop_eq_nil_of_le (by rw [bl_length]; omega)
    simp only [adler_Sum.l0]
    rw [if_neg (by omega), e, or16 b a ⟨h3, h4⟩ ⟨h1, h2⟩]
    rfl
  | succ d ih =>
    intro k i a b hi hk h1 h2 h3 h4
    obtain ⟨k, rfl⟩ : ∃ m, k = m + 1 := ⟨k - 1, by omega⟩
    have c1 : (i : Int) < (s.size : Int) := by omega
    have c2 : (0 : Int) ≤ (i : Int) := Int.natCast_nonneg i
    have e4 : wrap64 ((i : Int) + 1) = ((i + 1 : Nat) : Int) := by unfold wrap64; omega
    have hr := bt_range s i
    generalize hb : bt s i = q at hr
    have e1 : q % 4294967296 = q := by omega
    have e2 : (a + q) % 4294967296 = a + q := by omega
    have e3 : (b + (a + q) % 65521) % 4294967296 = b + (a + q) % 65521 := by omega
    have hd := bl_drop s i (by omega)
    have g1 : 0 ≤ (a + q) % 65521 ∧ (a + q) % 65521 < 65521 := by omega
    have g2 : 0 ≤ (b + (a + q) % 65521) % 65521 ∧ (b + (a + q) % 65521) % 65521 < 65521 := by omega
    simp only [adler_Sum.l0]
    rw [if_pos c1, if_pos c2, if_pos c1, hb, e1, e2, e3, e4]
    rw [ih k (i + 1) _ _ (by omega) (by omega) g1.1 g1.2 g2.1 g2.2, hd, hb]
    rfl
theorem sum_at (s : ByteArray) (hs : s.size ≤ 4611686018427387904) (k : Nat) (hk : s.size < k) : adler_Sum.f k s = some (sum s) := by
  unfold adler_Sum.f
  have h := sum_l s hs s.size k 0 1 0 (by omega) hk (by omega) (by omega) (by omega) (by omega)
  rw [List.drop_zero, fold_AB] at h
  exact h
theorem awake_at (k : Nat) (hk : 9 < k) : shalelaw02_awake.f k = some true := by
  unfold shalelaw02_awake.f
  rw [sum_at ⟨#[87, 105, 107, 105, 112, 101, 100, 105, 97]⟩ (by decide) k hk]
  simp only [Option.bind_some]
  decide +kernel
/-- the document's sum: all bytes first, what is left of both then -/
theorem ref_end (a b : Int) (h1 : 0 ≤ a) (h3 : 0 ≤ b) : ((((((Int.tmod b 65521) % 4294967296) * 65536) % 4294967296) + ((Int.tmod a 65521) % 4294967296)) % 4294967296) = (b % 65521) * 65536 + a % 65521 := by
  rw [Int.tmod_eq_emod_of_nonneg h1, Int.tmod_eq_emod_of_nonneg h3]
  omega
theorem ref_l (s : ByteArray) (hs : s.size ≤ 20000) : ∀ (d k i : Nat) (a b : Int), i + d = s.size → d < k → 0 ≤ a → a ≤ 256 * (i + 1) → 0 ≤ b → b ≤ 256 * 20001 * (i + 1) →
    shaleref02_Sum.l0 k s a b (i : Int) = some (((b + (d : Int) * a + W ((bl s).drop i)) % 65521) * 65536 + (a + S ((bl s).drop i)) % 65521) := by
  intro d
  induction d with
  | zero =>
    intro k i a b hi hk h1 h2 h3 h4
    obtain ⟨k, rfl⟩ : ∃ m, k = m + 1 := ⟨k - 1, by omega⟩
    have e : (bl s).drop i = [] := List.drop_eq_nil_of_le (by rw [bl_length]; omega)
    have c1 : ¬ (i : Int) < (s.size : Int) := by omega
    simp only [shaleref02_Sum.l0]
    refine itn c1 ?_
    rw [e, ref_end a b h1 h3]
    simp [W, S]
  | succ d ih =>
    intro k i a b hi hk h1 h2 h3 h4
    obtain ⟨k, rfl⟩ : ∃ m, k = m + 1 := ⟨k - 1, by omega⟩
    have hd := bl_drop s i (by omega)
    have hl : ((bl s).drop (i + 1)).length = d := by rw [List.length_drop, bl_length]; omega
    have c1 : (i : Int) < (s.size : Int) := by omega
    have c2 : (0 : Int) ≤ (i : Int) := Int.natCast_nonneg i
    have hr := bt_range s i
    have hi' : (i : Int) ≤ 20000 := by omega
    have e4 : wrap64 ((i : Int) + 1) = ((i + 1 : Nat) : Int) := by unfold wrap64; omega
    have hI := ih k (i + 1) (a + bt s i) (b + (a + bt s i)) (by omega) (by omega) (by omega) (by omega) (by omega) (by omega)
    rw [hd]
    generalize hq : bt s i = q at hr hd hI ⊢
    have e1 : wrap64 q = q := by unfold wrap64; omega
    have e2 : wrap64 (a + q) = a + q := by unfold wrap64; omega
    have e3 : wrap64 (b + (a + q)) = b + (a + q) := by unfold wrap64; omega
    simp only [shaleref02_Sum.l0]
    refine itp c1 (itp c2 ?_)
    rw [hq, e1, e2, e3, e4, hI]
    simp only [W, S, hl]
    have p1 : (((d + 1 : Nat) : Int)) * a = (d : Int) * a + a := by rw [Int.natCast_add, Int.add_mul]; simp
    have p2 : ((d : Int) + 1) * q = (d : Int) * q + q := by rw [Int.add_mul]; simp
    have p3 : (d : Int) * (a + q) = (d : Int) * a + (d : Int) * q := Int.mul_add _ _ _
    rw [p1, p2, p3]
    generalize (d : Int) * a = u
    generalize (d : Int) * q = v
    congr 1
    have x1 : b + (a + q) + (u + v) + W (List.drop (i + 1) (bl s)) = b + (u + a) + (v + q + W (List.drop (i + 1) (bl s))) := by omega
    have x2 : a + q + S (List.drop (i + 1) (bl s)) = a + (q + S (List.drop (i + 1) (bl s))) := by omega
    rw [x1, x2]
theorem ref_at (s : ByteArray) (hs : s.size ≤ 20000) (k : Nat) (hk : s.size < k) : shaleref02_Sum.f k s = some (sum s) := by
  unfold shaleref02_Sum.f
  have h := ref_l s hs s.size k 0 1 0 (by omega) hk (by omega) (by omega) (by omega) (by omega)
  rw [List.drop_zero] at h
  rw [show (0 : Int) = ((0 : Nat) : Int) from rfl] at h ⊢
  rw [h]
  unfold sum A B
  congr 1
  rw [bl_length]
  have e : ((0 : Nat) : Int) + (s.size : Int) * 1 + W (bl s) = (s.size : Int) + W (bl s) := by omega
  rw [e]

/-! ### a number's bytes -/
def four (x : Int) : ByteArray := strOfNums [(x / 16777216) % 256, (x / 65536) % 256, (x / 256) % 256, x % 256]
theorem four_at (x : Int) : adler_Four.f x = some (four x) := rfl
theorem four_size (x : Int) : (four x).size = 4 := rfl
theorem u8_back (n : Int) (h0 : 0 ≤ n) (h : n < 256) : (((UInt8.ofNat n.toNat).toNat : Nat) : Int) = n := by
  rw [UInt8.toNat_ofNat']; omega
theorem four_bt (x : Int) : bt (four x) 0 = (x / 16777216) % 256 ∧ bt (four x) 1 = (x / 65536) % 256 ∧ bt (four x) 2 = (x / 256) % 256 ∧ bt (four x) 3 = x % 256 := by
  refine ⟨?_, ?_, ?_, ?_⟩
  · exact u8_back _ (by omega) (by omega)
  · exact u8_back _ (by omega) (by omega)
  · exact u8_back _ (by omega) (by omega)
  · exact u8_back _ (by omega) (by omega)
theorem bt_out (s : ByteArray) (i : Nat) (h : s.size ≤ i) : bt s i = 0 := by
  unfold bt; rw [dif_neg]; rw [Int.toNat_natCast]; omega
theorem bt_join (s t : ByteArray) (i : Nat) (h : i < s.size) : bt (s ++ t) i = bt s i := by
  unfold bt
  have e : ((i : Int)).toNat = i := Int.toNat_natCast i
  rw [dif_pos (by rw [e, ByteArray.size_append]; omega), dif_pos (by rw [e]; exact h)]
  simp only [e]
  rw [ByteArray.getElem_append_left h]
theorem bt_cut (s : ByteArray) (n i : Nat) (h : i < n) (hn : n ≤ s.size) : bt (s.extract 0 n) i = bt s i := by
  unfold bt
  have e : ((i : Int)).toNat = i := Int.toNat_natCast i
  have z : (s.extract 0 n).size = n := by simp; omega
  rw [dif_pos (by rw [e, z]; omega), dif_pos (by rw [e]; omega)]
  simp only [e]
  simp [ByteArray.getElem_extract]
/-- the number of four bytes, those that lack being nought -/
def numb (s : ByteArray) : Int := ((bt s 0 * 256 + bt s 1) * 256 + bt s 2) * 256 + bt s 3
theorem numb_step (s : ByteArray) (k i : Nat) (x : Int) (hi : i < 4) (h0 : 0 ≤ x) (h1 : x < 16777216) :
    adler_Number.l0 (k + 1) s x (i : Int) = adler_Number.l0 k s (x * 256 + bt s i) ((i + 1 : Nat) : Int) := by
  have hr := bt_range s i
  have e4 : wrap64 ((i : Int) + 1) = ((i + 1 : Nat) : Int) := by unfold wrap64; omega
  simp only [adler_Number.l0]
  rw [if_pos (by omega)]
  by_cases h : (i : Int) < (s.size : Int)
  · rw [if_pos h, if_pos (by omega), e4]
    have e : Go.bits .or .u32 (x * 256 % 4294967296) (bt s i % 4294967296) = x * 256 + bt s i := by
      have a1 : x * 256 % 4294967296 = x * 256 := by omega
      have a2 : bt s i % 4294967296 = bt s i := by omega
      rw [a1, a2]
      exact bits_join .u32 32 (by decide) wraps_u32 8 _ _ (by omega) (by omega) (by omega) (by omega) (by omega) (by omega)
    rw [e]
  · rw [if_neg h, e4, bt_out s i (by omega)]
    congr 1
    omega
theorem numb_at (s : ByteArray) (k : Nat) (hk : 4 < k) : adler_Number.f k s = some (numb s) := by
  obtain ⟨m, rfl⟩ : ∃ m, k = m + 1 + 1 + 1 + 1 + 1 := ⟨k - 5, by omega⟩
  have r0 := bt_range s ((0 : Nat) : Int)
  have r1 := bt_range s ((1 : Nat) : Int)
  have r2 := bt_range s ((2 : Nat) : Int)
  unfold adler_Number.f
  have h := numb_step s (m + 1 + 1 + 1 + 1) 0 0 (by omega) (by omega) (by omega)
  rw [show (0 : Int) = ((0 : Nat) : Int) from rfl] at h ⊢
  rw [h, numb_step s (m + 1 + 1 + 1) 1 _ (by omega) (by omega) (by omega), numb_step s (m + 1 + 1) 2 _ (by omega) (by omega) (by omega), numb_step s (m + 1) 3 _ (by omega) (by omega) (by omega)]
  simp only [adler_Number.l0]
  rw [if_neg (by omega)]
  unfold numb
  simp
theorem numb_four (x : Int) (s : ByteArray) (h0 : 0 ≤ x) (h1 : x < 4294967296) : numb (four x ++ s) = x := by
  obtain ⟨b0, b1, b2, b3⟩ := four_bt x
  have j := fun i h => bt_join (four x) s i h
  unfold numb
  have j0 := j 0 (by rw [four_size]; decide)
  have j1 := j 1 (by rw [four_size]; decide)
  have j2 := j 2 (by rw [four_size]; decide)
  have j3 := j 3 (by rw [four_size]; decide)
  simp only [Int.cast_ofNat_Int] at j0 j1 j2 j3
  rw [j0, j1, j2, j3, b0, b1, b2, b3]
  omega
theorem numb_empty : numb ⟨#[]⟩ = 0 := by decide +kernel
theorem numb_three (x : Int) (h0 : 0 ≤ x) (h1 : x < 4294967296) : numb ((four x).extract 0 3) = x - x % 256 := by
  obtain ⟨b0, b1, b2, b3⟩ := four_bt x
  have j := fun i h => bt_cut (four x) 3 i h (by rw [four_size]; decide)
  have j0 := j 0 (by decide)
  have j1 := j 1 (by decide)
  have j2 := j 2 (by decide)
  have j3 := bt_out ((four x).extract 0 3) 3 (by rw [ByteArray.size_extract, four_size]; decide)
  simp only [Int.cast_ofNat_Int] at j0 j1 j2 j3
  unfold numb
  rw [j0, j1, j2, j3, b0, b1, b2]
  omega
theorem str_cons (a : Int) (l : List Int) : strOfNums [a] ++ strOfNums l = strOfNums (a :: l) := by
  apply ByteArray.ext
  simp [strOfNums]
theorem reff_step (k : Nat) (x : Int) (l : List Int) (i : Nat) (hi : i < 4) (h0 : 0 ≤ x) (h1 : x < 4294967296) (hl : l.length ≤ 100) :
    shaleref02_Four.l0 (k + 1) x (strOfNums l) (i : Int) = shaleref02_Four.l0 k (x / 256) (strOfNums (x % 256 :: l)) ((i + 1 : Nat) : Int) := by
  have e4 : wrap64 ((i : Int) + 1) = ((i + 1 : Nat) : Int) := by unfold wrap64; omega
  have c1 : (i : Int) < 4 := by omega
  have z : (strOfNums [(Int.tmod x 256) % 256]).size + (strOfNums l).size ≤ 9223372036854775807 := by
    have z1 : (strOfNums l).size = l.length := by simp [strOfNums, ByteArray.size]
    have z2 : (strOfNums [(Int.tmod x 256) % 256]).size = 1 := rfl
    omega
  have e1 : (Int.tmod x 256) % 256 = x % 256 := by rw [Int.tmod_eq_emod_of_nonneg h0]; omega
  have e2 : (Int.tdiv x 256) % 4294967296 = x / 256 := by rw [Int.tdiv_eq_ediv_of_nonneg h0]; omega
  simp only [shaleref02_Four.l0]
  refine itp c1 (bnd rfl (itp z ?_))
  rw [str_cons, e1, e2, e4]
theorem reff_at (x : Int) (k : Nat) (hk : 4 < k) (h0 : 0 ≤ x) (h1 : x < 4294967296) : shaleref02_Four.f k x = some (four x) := by
  obtain ⟨m, rfl⟩ : ∃ m, k = m + 1 + 1 + 1 + 1 + 1 := ⟨k - 5, by omega⟩
  unfold shaleref02_Four.f
  have h := reff_step (m + 1 + 1 + 1 + 1) x [] 0 (by omega) h0 h1 (by simp)
  have e : (⟨#[]⟩ : ByteArray) = strOfNums [] := rfl
  rw [e]
  rw [show (0 : Int) = ((0 : Nat) : Int) from rfl, h, reff_step (m + 1 + 1 + 1) _ _ 1 (by omega) (by omega) (by omega) (by simp), reff_step (m + 1 + 1) _ _ 2 (by omega) (by omega) (by omega) (by simp), reff_step (m + 1) _ _ 3 (by omega) (by omega) (by omega) (by simp)]
  simp only [shaleref02_Four.l0]
  refine itn (by omega) ?_
  unfold four
  have d1 : x / 256 / 256 = x / 65536 := by omega
  have d2 : x / 65536 / 256 = x / 16777216 := by omega
  rw [d1, d2]
end Go.Proofs.Ytnpndfcghfoofaa.RowAdlerPlays
