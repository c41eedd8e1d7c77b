/- The law AdlerThree over numbers and lists: the sum of three texts is told by theirs, whichever two are first; for every three texts whose sizes are within the model's reach. -/
import Derived.Test.YtnpndfcghfoofaaPAdlerThreex1
import Derived.Test.YtnpndfcghfoofaaAdler
namespace Go.Proofs.Ytnpndfcghfoofaa.Pure
open Go.RowKit Go.Proofs.Ytnpndfcghfoofaa.PAdlerThree Go.Proofs.YtnpndfcghfoofaaW.PrintWords Go.Proofs.YtnpndfcghfoofaaW.PrintLast Go.Proofs.YtnpndfcghfoofaaW.PrintMore Go.Proofs.Ytnpndfcghfoofaa.AdM

theorem bnd {α β : Type} {x : Option α} {f : α → Option β} {v : α} {r : Option β} (hx : x = some v) (h : f v = r) : x.bind f = r := by rw [hx]; exact h
theorem itp {α : Type} {c : Prop} {_ : Decidable c} {A B r : Option α} (hc : c) (h : A = r) : (if c then A else B) = r := by rw [if_pos hc]; exact h
theorem itn {α : Type} {c : Prop} {_ : Decidable c} {A B r : Option α} (hc : ¬ c) (h : B = r) : (if c then A else B) = r := by rw [if_neg hc]; exact h
theorem sum_l (s : ByteArray) (hs : s.size ≤ 4611686018427387904) : ∀ (d k i : Nat) (a b : Int), i + d = s.size → d < k → 0 ≤ a → a < 65521 → 0 ≤ b → b < 65521 →
    adler_Sum.l0 k s a b (s.size : Int) (i : Int) = some ((fold ((bl s).drop i) a b).2 * 65536 + (fold ((bl s).drop i) a b).1) := by
  intro d
  induction d with
  | zero =>
    intro k i a b hi hk h1 h2 h3 h4
    obtain ⟨k, rfl⟩ : ∃ m, k = m + 1 := ⟨k - 1, by omega⟩
    have e : (bl s).drop i = [] := List.drop_eq_nil_of_le (by rw [bl_length]; omega)
    simp only [adler_Sum.l0]
    rw [if_neg (by omega), e, or16 b a ⟨h3, h4⟩ ⟨h1, h2⟩]
    rfl
  | succ d ih =>
    intro k i a b hi hk h1 h2 h3 h4
    obtain ⟨k, rfl⟩ : ∃ m, k = m + 1 := ⟨k - 1, by omega⟩
    have c1 : (i : Int) < (s.size : Int) := by omega
    have c2 : (0 : Int) ≤ (i : Int) := Int.natCast_nonneg i
    have e4 : wrap64 ((i : Int) + 1) = ((i + 1 : Nat) : Int) := by unfold wrap64; omega
    have hr := bt_range s i
    generalize hb : bt s i = q at hr
    have e1 : q % 4294967296 = q := by omega
    have e2 : (a + q) % 4294967296 = a + q := by omega
    have e3 : (b + (a + q) % 65521) % 4294967296 = b + (a + q) % 65521 := by omega
    have hd := bl_drop s i (by omega)
    have g1 : 0 ≤ (a + q) % 65521 ∧ (a + q) % 65521 < 65521 := by omega
    have g2 : 0 ≤ (b + (a + q) % 65521) % 65521 ∧ (b + (a + q) % 65521) % 65521 < 65521 := by omega
    simp only [adler_Sum.l0]
    rw [if_pos c1, if_pos c2, if_pos c1, hb, e1, e2, e3, e4]
    rw [ih k (i + 1) _ _ (by omega) (by omega) g1.1 g1.2 g2.1 g2.2, hd, hb]
    rfl
theorem sum_at (s : ByteArray) (hs : s.size ≤ 4611686018427387904) (k : Nat) (hk : s.size < k) : adler_Sum.f k s = some (sum s) := by
  unfold adler_Sum.f
  have h := sum_l s hs s.size k 0 1 0 (by omega) hk (by omega) (by omega) (by omega) (by omega)
  rw [List.drop_zero, fold_AB] at h
  exact h
theorem awake_at (k : Nat) (hk : 9 < k) : shalelaw02_awake.f k = some true := by
  unfold shalelaw02_awake.f
  rw [sum_at ⟨#[87, 105, 107, 105, 112, 101, 100, 105, 97]⟩ (by decide) k hk]
  simp only [Option.bind_some]
  decide +kernel
theorem and16 (x y : Int) (hx : 0 ≤ x ∧ x < 65521) (hy : 0 ≤ y ∧ y < 65521) : Go.bits .and .u32 (x * 65536 + y) 65535 = y := by
  have h := bits_mask .u32 32 (by decide) wraps_u32 16 (by decide) (x * 65536 + y) (by omega) (by omega)
  have e : (x * 65536 + y) % 2 ^ 16 = y := by omega
  rw [e] at h
  exact h
theorem both_of (x y x' y' n : Int) (hx : 0 ≤ x ∧ x < 65521) (hy : 0 ≤ y ∧ y < 65521) (hx' : 0 ≤ x' ∧ x' < 65521) (hy' : 0 ≤ y' ∧ y' < 65521) (hn : 0 ≤ n) :
    adler_Both.f (x * 65536 + y) (x' * 65536 + y') n = some (((x + x' + (n % 65521) * ((y + 65521 - 1) % 65521)) % 65521) * 65536 + (y + y' + 65521 - 1) % 65521) := by
  unfold adler_Both.f
  have hm : mx n 0 = n := by unfold mx; split <;> omega
  have hp : 0 ≤ (n % 65521) * ((y + 65521 - 1) % 65521) ∧ (n % 65521) * ((y + 65521 - 1) % 65521) < 65521 * 65521 := by
    have a1 : 0 ≤ n % 65521 := by omega
    have a2 : n % 65521 ≤ 65520 := by omega
    have b1 : 0 ≤ (y + 65521 - 1) % 65521 := by omega
    have b2 : (y + 65521 - 1) % 65521 ≤ 65520 := by omega
    refine ⟨Int.mul_nonneg a1 b1, ?_⟩
    have := Int.mul_le_mul a2 b2 b1 (by omega)
    omega
  rw [and16 x y hx hy, and16 x' y' hx' hy', hm]
  have d1 : (x * 65536 + y) / 65536 = x := by omega
  have d2 : (x' * 65536 + y') / 65536 = x' := by omega
  rw [d1, d2]
  have u : ∀ z : Int, 0 ≤ z → z < 18446744073709551616 → IntKind.u64.wrap z = z := fun z h1 h2 => by rw [IntKind.wrap_u64]; omega
  rw [u x (by omega) (by omega), u x' (by omega) (by omega), u y (by omega) (by omega), u y' (by omega) (by omega)]
  rw [u (x + x') (by omega) (by omega), u (y + 65521) (by omega) (by omega), u (y + 65521 - 1) (by omega) (by omega), u (y + y') (by omega) (by omega), u (y + y' + 65521) (by omega) (by omega), u (y + y' + 65521 - 1) (by omega) (by omega)]
  rw [Int.tmod_eq_emod_of_nonneg (a := y + 65521 - 1) (by omega), Int.tmod_eq_emod_of_nonneg (a := y + y' + 65521 - 1) (by omega)]
  generalize (n % 65521) * ((y + 65521 - 1) % 65521) = p at *
  rw [u p (by omega) (by omega), u (x + x' + p) (by omega) (by omega), Int.tmod_eq_emod_of_nonneg (a := x + x' + p) (by omega)]
  rw [u ((x + x' + p) % 65521 * 65536) (by omega) (by omega)]
  have h := bits_join .u64 64 (by decide) wraps_u64 16 ((x + x' + p) % 65521 * 65536) ((y + y' + 65521 - 1) % 65521) (by omega) (by omega) (by omega) (by omega) (by omega) (by omega)
  rw [h]
  congr 1
  omega
theorem both_at (s t : ByteArray) : adler_Both.f (sum s) (sum t) (t.size : Int) = some (sum (s ++ t)) := by
  unfold sum
  rw [both_of _ _ _ _ _ (B_lt _) (A_lt _) (B_lt _) (A_lt _) (by omega), bl_append, A_append, B_append, bl_length]
theorem three_j (k : Nat) (s t u : ByteArray) (b : Bool) (hs : s.size ≤ 140737488351232) (ht : t.size ≤ 140737488351232) (hu : u.size ≤ 140737488351232) (hk : 9 < k) (hk' : s.size + t.size + u.size < k) :
    shalelaw02_AdlerThree.j0 (k + 1) s t u b = some true := by
  have z1 : (s ++ t).size = s.size + t.size := ByteArray.size_append
  have z2 : (s ++ t ++ u).size = s.size + t.size + u.size := by rw [ByteArray.size_append, z1]
  have z3 : (t ++ u).size = t.size + u.size := ByteArray.size_append
  have b1 := both_at s t
  have b2 := both_at (s ++ t) u
  have b3 := both_at t u
  have b4 := both_at s (t ++ u)
  have b5 := both_at s ⟨#[]⟩
  have e5 : s ++ (⟨#[]⟩ : ByteArray) = s := ByteArray.append_empty
  have e6 : wrap64 ((t.size : Int) + (u.size : Int)) = ((t ++ u).size : Int) := by rw [z3]; unfold wrap64; omega
  have e7 : s ++ (t ++ u) = s ++ t ++ u := ByteArray.append_assoc.symm
  have e8 : (((⟨#[]⟩ : ByteArray).size : Nat) : Int) = 0 := rfl
  rw [e8, e5] at b5
  rw [e7] at b4
  simp only [shalelaw02_AdlerThree.j0]
  cases b with
  | true => exact itp rfl (bnd (awake_at _ hk) rfl)
  | false =>
    refine itn (by decide) (bnd (sum_at s (by omega) _ (by omega)) (bnd (sum_at t (by omega) _ (by omega)) (bnd (sum_at u (by omega) _ (by omega)) (bnd b1 (bnd b2 (bnd b3 ?_))))))
    rw [e6]
    refine bnd b4 (itp rfl (itp (by omega) (itp (by omega) (bnd (sum_at (s ++ t ++ u) (by omega) _ (by omega)) (itp rfl (bnd (sum_at ⟨#[]⟩ (by decide) _ (show 0 < k by omega)) (bnd b5 ?_)))))))
    rw [beq_self_eq_true]
theorem AdlerThree : shalelaw02_AdlerThree.Pure := by
  intro s t u hs ht hu
  obtain ⟨k0, g1, g2⟩ : ∃ k, 9 < k ∧ s.size + t.size + u.size < k := ⟨s.size + t.size + u.size + 10, by omega, by omega⟩
  refine ⟨k0 + 1, ?_⟩
  unfold shalelaw02_AdlerThree.f
  exact bnd (awake_at _ (by omega)) (itp rfl (three_j k0 s t u _ hs ht hu g1 g2))

end Go.Proofs.Ytnpndfcghfoofaa.Pure
