/- AdlerOne, the walk: the call returns true and leaves what there was as it was; for every text, place and byte. -/
import Derived.Test.YtnpndfcghfoofaaPAdlerOnex1
import Derived.Test.YtnpndfcghfoofaaAdler
import Derived.Lib.Hide
import Derived.Lib.ConvBytes
import Derived.Laws.BitsAllLaws
namespace Go.Proofs.Ytnpndfcghfoofaa.RowAdlerOne
open Go.RowKit Go.Proofs.Ytnpndfcghfoofaa.PAdlerOne Go.Proofs.YtnpndfcghfoofaaW.PrintWords Go.Proofs.YtnpndfcghfoofaaW.PrintLast Go.Proofs.YtnpndfcghfoofaaW.PrintMore Go.Proofs.Ytnpndfcghfoofaa.AdM
theorem bnd {α β : Type} {x : Option α} {f : α → Option β} {v : α} {r : Option β} (hx : x = some v) (h : f v = r) : x.bind f = r := by rw [hx]; exact h
theorem itp {α : Type} {c : Prop} {_ : Decidable c} {A B r : Option α} (hc : c) (h : A = r) : (if c then A else B) = r := by rw [if_pos hc]; exact h
theorem itn {α : Type} {c : Prop} {_ : Decidable c} {A B r : Option α} (hc : ¬ c) (h : B = r) : (if c then A else B) = r := by rw [if_neg hc]; exact h
theorem sum_l (s : ByteArray) (hs : s.size ≤ 4611686018427387904) : ∀ (d k i : Nat) (a b : Int), i + d = s.size → d < k → 0 ≤ a → a < 65521 → 0 ≤ b → b < 65521 →
    adler_Sum.l0 k s a b (s.size : Int) (i : Int) = some ((fold ((bl s).drop i) a b).2 * 65536 + (fold ((bl s).drop i) a b).1) := by
  intro d
  induction d with
  | zero =>
    intro k i a b hi hk h1 h2 h3 h4
    obtain ⟨k, rfl⟩ : ∃ m, k = m + 1 := ⟨k - 1, by omega⟩
    have e : (bl s).drop i = [] := List.drop_eq_nil_of_le (by rw [bl_length]; omega)
    simp only [adler_Sum.l0]
    rw [if_neg (by omega), e, or16 b a ⟨h3, h4⟩ ⟨h1, h2⟩]
    rfl
  | succ d ih =>
    intro k i a b hi hk h1 h2 h3 h4
    obtain ⟨k, rfl⟩ : ∃ m, k = m + 1 := ⟨k - 1, by omega⟩
    have c1 : (i : Int) < (s.size : Int) := by omega
    have c2 : (0 : Int) ≤ (i : Int) := Int.natCast_nonneg i
    have e4 : wrap64 ((i : Int) + 1) = ((i + 1 : Nat) : Int) := by unfold wrap64; omega
    have hr := bt_range s i
    generalize hb : bt s i = q at hr
    have e1 : q % 4294967296 = q := by omega
    have e2 : (a + q) % 4294967296 = a + q := by omega
    have e3 : (b + (a + q) % 65521) % 4294967296 = b + (a + q) % 65521 := by omega
    have hd := bl_drop s i (by omega)
    have g1 : 0 ≤ (a + q) % 65521 ∧ (a + q) % 65521 < 65521 := by omega
    have g2 : 0 ≤ (b + (a + q) % 65521) % 65521 ∧ (b + (a + q) % 65521) % 65521 < 65521 := by omega
    simp only [adler_Sum.l0]
    rw [if_pos c1, if_pos c2, if_pos c1, hb, e1, e2, e3, e4]
    rw [ih k (i + 1) _ _ (by omega) (by omega) g1.1 g1.2 g2.1 g2.2, hd, hb]
    rfl
theorem sum_at (s : ByteArray) (hs : s.size ≤ 4611686018427387904) (k : Nat) (hk : s.size < k) : adler_Sum.f k s = some (sum s) := by
  unfold adler_Sum.f
  have h := sum_l s hs s.size k 0 1 0 (by omega) hk (by omega) (by omega) (by omega) (by omega)
  rw [List.drop_zero, fold_AB] at h
  exact h
theorem awake_at (k : Nat) (hk : 9 < k) : shalelaw02_awake.f k = some true := by
  unfold shalelaw02_awake.f
  rw [sum_at ⟨#[87, 105, 107, 105, 112, 101, 100, 105, 97]⟩ (by decide) k hk]
  simp only [Option.bind_some]
  decide +kernel
theorem below_on {B : Nat} {w w1 w2 : World} (h : Hid (Below B w w1)) (hB : B ≤ w.heap.size) (k : Below w1.heap.size w1 w2) : Hid (Below B w w2) :=
  h.out.trans (k.mono (Nat.le_trans hB h.out.size))
theorem awake_c (w : World) : Calls Try.prog 12 #[] w fun e w' => e = .returned (.bool true) ∧ Drawn0 w w' := shalelaw02_awake.calls 10 true w (awake_at 10 (by omega))
theorem sum_c (s : ByteArray) (hs : s.size ≤ 4611686018427387904) (w : World) : Calls Try.prog 13 #[.string s] w fun e w' => e = .returned (.int .u32 (sum s)) ∧ Drawn0 w w' := adler_Sum.calls _ s _ w (sum_at s hs _ (Nat.lt_succ_self _))
/-- what '[]byte(s)' makes, without its inside: a new row with the text's bytes, which may be written -/
theorem bytes_of (s : ByteArray) (w : World) : ∃ (W : World) (c : Nat), (convert 9 24 (.string s)).run Try.prog w = .ok (.slice (some ⟨w.heap.size, 0, none⟩) s.size c) W ∧ Below w.heap.size w W ∧ W.heap.size = w.heap.size + 1 ∧
    (∀ i, i < s.size → W.cell? ⟨w.heap.size, i, none⟩ = some (.int .u8 (bt s i))) ∧ (∀ i, i < s.size → W.frozen? ⟨w.heap.size, i, none⟩ = false) := by
  refine ⟨Lib.bytesWorld w 5 s, _, Lib.run_convert_string_bytes w 9 24 5 s Try.underlying9 Try.underlying24 Try.underlying5, ?_, Lib.bytesWorld_size w 5 s, ?_, ?_⟩
  · exact ⟨rfl, rfl, rfl, by rw [Lib.bytesWorld_size]; omega, fun k hk => Lib.bytesWorld_at_old w 5 s k hk⟩
  · intro i hi
    rw [Lib.bytesWorld_cell w 5 s i hi]
    have h : (s.data.toList.getD i 0).toNat = (s[i]).toNat := by
      congr 1
      rw [List.getD_eq_getElem?_getD, List.getElem?_eq_getElem (by simpa using hi)]
      rfl
    have e : ((i : Int)).toNat = i := Int.toNat_natCast i
    unfold bt
    rw [dif_pos (by rw [e]; exact hi)]
    simp only [e]
    rw [h]
  · intro i hi
    unfold World.frozen?
    rw [Lib.bytesWorld_at_new]
    have : s.size ≤ (Lib.bytesCells w 5 s).size := by simp [Lib.bytesCells]
    simp
    omega
theorem bl_get (s : ByteArray) (i : Nat) (h : i < s.size) : (bl s).getD i 0 = bt s i := by
  have hd := bl_drop s i h
  have hl : i < (bl s).length := by rw [bl_length]; exact h
  rw [List.drop_eq_getElem_cons hl] at hd
  injection hd with h1 _
  rw [List.getD_eq_getElem?_getD, List.getElem?_eq_getElem hl]
  exact h1
theorem bl_range (s : ByteArray) : ∀ x ∈ bl s, 0 ≤ x ∧ x < 256 := by
  intro x hx
  simp only [bl, List.mem_map] at hx
  obtain ⟨c, _, rfl⟩ := hx
  have := c.toNat_lt
  omega
theorem bl_str (l : List Int) (h : ∀ x ∈ l, 0 ≤ x ∧ x < 256) : bl (strOfNums l) = l := by
  unfold bl
  rw [strOfNums_data, List.map_map]
  conv => rhs; rw [← List.map_id l]
  apply List.map_congr_left
  intro x hx
  have := h x hx
  simp
  omega
/-- what 'string(b)' makes behind one store into b's row -/
theorem bytes_back (s : ByteArray) (B c q : Nat) (y : Int) (W : World) (hq : q < s.size) (hcell : ∀ i, i < s.size → W.cell? ⟨B, i, none⟩ = some (.int .u8 (bt s i))) :
    (convert 24 9 (.slice (some ⟨B, 0, none⟩) s.size c)).run Try.prog (W.setCell ⟨B, q, none⟩ (.int .u8 y)) = .ok (.string (strOfNums ((bl s).set q y))) (W.setCell ⟨B, q, none⟩ (.int .u8 y)) := by
  refine run_convert_bytes_arg _ 24 5 Try.underlying24 Try.underlying5 B 0 s.size c _ (by rw [List.length_set, bl_length]) (fun i hi => ?_) 9 Try.underlying9
  rw [Nat.zero_add]
  by_cases e : i = q
  · subst e
    rw [World.cell?_setCell_same W _ _ (hcell i hi)]
    rw [List.getD_eq_getElem?_getD, List.getElem?_set_self (by rw [bl_length]; exact hi)]
    rfl
  · rw [World.cell?_setCell_other W _ _ _ (fun h => e (by injection h with _ h2 _; exact h2.symm)), hcell i hi]
    rw [List.getD_eq_getElem?_getD, List.getElem?_set_ne (fun h => e h.symm), ← List.getD_eq_getElem?_getD, bl_get s i hi]
theorem xor_range (b x : Int) (hb : 0 ≤ b ∧ b < 256) (hx : 0 ≤ x ∧ x < 256) : 0 ≤ Go.bits .xor .u8 b x ∧ Go.bits .xor .u8 b x < 256 := by
  rw [u8_xor b x hb.1 hb.2 hx.1 hx.2]
  have : b.toNat ^^^ x.toNat < 2 ^ 8 := Nat.xor_lt_two_pow (by omega) (by omega)
  omega
theorem xor_same (b x : Int) (hb : 0 ≤ b ∧ b < 256) (hx : 0 ≤ x ∧ x < 256) : Go.bits .xor .u8 b x = b ↔ x = 0 := by
  rw [u8_xor b x hb.1 hb.2 hx.1 hx.2]
  constructor
  · intro h
    have h1 : b.toNat ^^^ x.toNat = b.toNat := by omega
    have h2 : b.toNat ^^^ (b.toNat ^^^ x.toNat) = x.toNat := by rw [← Nat.xor_assoc, Nat.xor_self, Nat.zero_xor]
    rw [h1, Nat.xor_self] at h2
    omega
  · intro h
    subst h
    simp
    omega
theorem sum_one (p r : List Int) (y z : Int) (hy : 0 ≤ y ∧ y < 256) (hz : 0 ≤ z ∧ z < 256) : B (p ++ y :: r) * 65536 + A (p ++ y :: r) = B (p ++ z :: r) * 65536 + A (p ++ z :: r) ↔ y = z := by
  constructor
  · intro h
    have a1 := A_lt (p ++ y :: r)
    have a2 := A_lt (p ++ z :: r)
    exact (A_one p r y z hy hz).1 (by omega)
  · intro h
    rw [h]
theorem sum_set (s : ByteArray) (q : Nat) (y : Int) (hq : q < s.size) (hy : 0 ≤ y ∧ y < 256) : sum (strOfNums ((bl s).set q y)) = sum s ↔ y = bt s q := by
  have hl : q < (bl s).length := by rw [bl_length]; exact hq
  have hr := bl_range s
  have hb : bl (strOfNums ((bl s).set q y)) = (bl s).set q y := bl_str _ (fun x hx => by
    rcases List.mem_or_eq_of_mem_set hx with h | h
    · exact hr x h
    · subst h; exact hy)
  have e1 : (bl s).set q y = (bl s).take q ++ y :: (bl s).drop (q + 1) := by rw [List.set_eq_take_append_cons_drop, if_pos hl]
  have e2 : bl s = (bl s).take q ++ bt s q :: (bl s).drop (q + 1) := by
    rw [← bl_drop s q hq, List.take_append_drop]
  have hbt := bt_range s q
  have key := sum_one ((bl s).take q) ((bl s).drop (q + 1)) y (bt s q) hy (by omega)
  rw [← e2, ← e1] at key
  unfold sum
  rw [hb]
  exact key
theorem sum_a (s : ByteArray) (v : Int) (hs : s.size ≤ 4611686018427387904) (hv : sum s = v) (w : World) : Calls Try.prog 13 #[.string s] w fun e w' => e = .returned (.int .u32 v) ∧ Drawn0 w w' := by
  subst hv
  exact sum_c s hs w
set_option maxHeartbeats 2000000 in
set_option maxRecDepth 100000 in
/-- Both sums, and the place, under names of their own: the walk. -/
theorem one_walk (s t : ByteArray) (k x y u v b : Int) (q : Nat) (w : World) (hs : s.size ≤ 20000) (hp : 0 < s.size) (ht : t.size ≤ 20000) (hk0 : 0 ≤ k) (hk1 : k ≤ 65535) (_hx0 : 0 ≤ x) (_hx1 : x ≤ 255)
    (hq : k % (s.size : Int) = (q : Int)) (hqs : q < s.size) (hb : bt s q = b) (hy : Go.bits .xor .u8 b x = y) (ht' : strOfNums ((bl s).set q y) = t) (hu : sum t = u) (hv : sum s = v) (he : ((u == v) == (x == 0)) = true) :
    Calls Try.prog 3 #[.string s, .int .u16 k, .int .u8 x] w fun e w' => e = .returned (.bool true) ∧ Below w.heap.size w w' := by
  have c1 : decide ((20000 : Int) < (s.size : Int)) = false := decide_eq_false (by omega)
  have c2 : decide (20000 < s.size) = false := decide_eq_false (by omega)
  have c3 : ((s.size : Int) == 0) = false := beq_eq_false_iff_ne.2 (by omega)
  have c4 : (s.size == 0) = false := beq_eq_false_iff_ne.2 (by omega)
  have HT := Lib.hid ht'
  have HU := Lib.hid hu
  have HV := Lib.hid hv
  have HBT := Lib.hid hb
  have HE := Lib.hid he
  have HQ := Lib.hid hq
  clear ht' hu hv hb he
  go_enter Try.func3, Try.ntmps3
  go_wp2_with fail
  refine (awake_c _).mono ?_
  rintro e w1 ⟨rfl, hd⟩
  have HB1 := Lib.hid hd.below
  clear hd
  obtain ⟨W, c, hcv, hbl, hz, hcell, hfz⟩ := bytes_of s w1
  have HB2 := below_on HB1 (Nat.le_refl _) hbl
  have hc : W.cell? ⟨w1.heap.size, q, none⟩ = some (.int .u8 b) := by rw [hcell q hqs, HBT.out]
  have hf := hfz q hqs
  have hback := bytes_back s w1.heap.size c q y W hqs hcell
  rw [HT.out] at hback
  have HW : Hid (w.heap.size ≤ w1.heap.size) := HB1.out.size
  clear hbl hcell hfz hz
  go_wp2_with fail
  refine (sum_a t u (by omega) HU.out _).mono ?_
  rintro e w2 ⟨rfl, hd⟩
  have HB3 : Hid (Below w.heap.size w w2) := (HB2.out.setCell HW.out _).trans (hd.below.mono (by have := HB2.out.size; simpa using this))
  clear hd
  go_wp2_with fail
  refine (sum_a s v (by omega) HV.out _).mono ?_
  rintro e w3 ⟨rfl, hd⟩
  have HB4 := below_on HB3 (Nat.le_refl _) hd.below
  clear hd
  go_wp2_with fail
  go_ret
  refine ⟨?_, HB4.out⟩
  rw [← HE.out]
  rfl
set_option maxHeartbeats 2000000 in
theorem one_long (s : ByteArray) (k x : Int) (w : World) (hs : 20000 < s.size) : Calls Try.prog 3 #[.string s, .int .u16 k, .int .u8 x] w fun e w' => e = .returned (.bool true) ∧ Below w.heap.size w w' := by
  have c1 : decide ((20000 : Int) < (s.size : Int)) = true := decide_eq_true (by omega)
  have c2 : decide (20000 < s.size) = true := decide_eq_true (by omega)
  go_enter Try.func3, Try.ntmps3
  go_wp2_with fail
  refine (awake_c _).mono ?_
  rintro e w1 ⟨rfl, hd⟩
  have HB1 := Lib.hid hd.below
  clear hd
  go_wp2_with fail
  refine (awake_c _).mono ?_
  rintro e w2 ⟨rfl, hd⟩
  have HB2 := below_on HB1 (Nat.le_refl _) hd.below
  clear hd
  go_wp2_with fail
  go_ret
  exact ⟨rfl, HB2.out⟩
set_option maxHeartbeats 2000000 in
theorem one_none (s : ByteArray) (k x : Int) (w : World) (hs : s.size = 0) : Calls Try.prog 3 #[.string s, .int .u16 k, .int .u8 x] w fun e w' => e = .returned (.bool true) ∧ Below w.heap.size w w' := by
  have c1 : decide ((20000 : Int) < (s.size : Int)) = false := decide_eq_false (by omega)
  have c2 : decide (20000 < s.size) = false := decide_eq_false (by omega)
  have c3 : ((s.size : Int) == 0) = true := beq_iff_eq.2 (by omega)
  have c4 : (s.size == 0) = true := beq_iff_eq.2 hs
  have HS := Lib.hid hs
  clear hs
  go_enter Try.func3, Try.ntmps3
  go_wp2_with fail
  refine (awake_c _).mono ?_
  rintro e w1 ⟨rfl, hd⟩
  have HB1 := Lib.hid hd.below
  clear hd
  go_wp2_with fail
  refine (awake_c _).mono ?_
  rintro e w2 ⟨rfl, hd⟩
  have HB2 := below_on HB1 (Nat.le_refl _) hd.below
  clear hd
  go_wp2_with fail
  go_ret
  exact ⟨rfl, HB2.out⟩
theorem walk (s : ByteArray) (k x : Int) (w : World) (_hs : s.size ≤ 140737488351232) (hk : (Lit.int .u16 k).wf = true) (hx : (Lit.int .u8 x).wf = true) : Calls Try.prog 3 #[.string s, .int .u16 k, .int .u8 x] w fun e w' => e = .returned (.bool true) ∧ Below w.heap.size w w' := by
  have hk' : 0 ≤ k ∧ k ≤ 65535 := by
    simp [Lit.wf, IntKind.min, IntKind.max, IntKind.bits, IntKind.signed] at hk
    omega
  have hx' : 0 ≤ x ∧ x ≤ 255 := by
    simp [Lit.wf, IntKind.min, IntKind.max, IntKind.bits, IntKind.signed] at hx
    omega
  by_cases h : 20000 < s.size
  · exact one_long s k x w h
  · by_cases h0 : s.size = 0
    · exact one_none s k x w h0
    · have m0 : 0 ≤ k % (s.size : Int) := Int.emod_nonneg _ (by omega)
      have m1 : k % (s.size : Int) < (s.size : Int) := Int.emod_lt_of_pos _ (by omega)
      obtain ⟨q, hq⟩ := Int.eq_ofNat_of_zero_le m0
      have hqs : q < s.size := by omega
      have hb := bt_range s q
      have hy := xor_range (bt s q) x (by omega) (by omega)
      have hxs := xor_same (bt s q) x (by omega) (by omega)
      have key := sum_set s q _ hqs hy
      refine one_walk s _ k x _ _ _ _ q w (by omega) (by omega) ?_ hk'.1 hk'.2 hx'.1 hx'.2 hq hqs rfl rfl rfl rfl rfl ?_
      · rw [strOfNums_size, List.length_set, bl_length]; omega
      · by_cases hx0 : x = 0
        · rw [beq_iff_eq.2 (key.2 (hxs.2 hx0)), beq_iff_eq.2 hx0]; rfl
        · rw [beq_eq_false_iff_ne.2 (fun h => hx0 (hxs.1 (key.1 h))), beq_eq_false_iff_ne.2 hx0]; rfl
end Go.Proofs.Ytnpndfcghfoofaa.RowAdlerOne
